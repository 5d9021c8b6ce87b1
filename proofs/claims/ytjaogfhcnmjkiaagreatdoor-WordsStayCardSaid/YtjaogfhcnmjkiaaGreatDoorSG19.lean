/- joined. -/
import Derived.Test.YtjaogfhcnmjkiaaGreatDoorSG16
set_option linter.all false
set_option maxRecDepth 100000
set_option maxHeartbeats 0
namespace Go.Proofs.YtjaogfhcnmjkiaaGreatDoor
open Go.RowKit
open Go.Value renaming slice->aA,int->aB,agg->aC,string->aF,tuple->aG,pointer->aH,ownBlock->gTh
open Go.IntKind renaming i64->aI
open Option renaming none->aJ,some->aK
open Go.Ending renaming returned->aN
open Go.Obj renaming cells->aO
open Go.Proofs.Tryz
variable {j:Nat}
theorem RZ (y:Cc)(z:Nat)(B:Nat)(W:World)(hB:B<W.heap.size)(hc:W.cell? ⟨B,0,aJ⟩=aK (aB aI z)):
 Calls prog 100 (#[.agg (dX y).toArray]++#[aH (aK ⟨B,0,aJ⟩)]) W λev w'=>ev=aN (.bool (decide (y.c.z=z)))/\Below W.heap.size W w':=by
 show Calls prog 100 #[aC #[aA y.a1 y.n1 y.c1,aB aI y.c.z,aB aI y.c.r,aB aI y.c.o,aA y.a2 y.n2 y.c2,aA y.a3 y.n3 y.c3],aH (aK ⟨B,0,aJ⟩)] W _;have hb:=aAq W (aO #[aA y.a1 y.n1 y.c1,aB aI (y.c.z:Int),aB aI (y.c.r:Int),aB aI (y.c.o:Int),aA y.a2 y.n2 y.c2,aA y.a3 y.n3 y.c3] 67);have K:=aQ W #[aA y.a1 y.n1 y.c1,aB aI (y.c.z:Int),aB aI (y.c.r:Int),aB aI (y.c.o:Int),aA y.a2 y.n2 y.c2,aA y.a3 y.n3 y.c3] 67;have k1:=K 1;simp only[gB,gC,gD]at k1;have b:=(hb.cell (p:=⟨B,0,aJ⟩) hB).trans hc;have a:=gO hb;clear hb K hc;go_enter func100,ntmps100
 go_wp2
 go_ret
 exact⟨aX (by rw[Bool.eq_iff_iff];simp only[beq_iff_eq,decide_eq_true_eq];omega),a.out⟩
def aAy (s':Sy)(w:World)(ev:Ending)(w':World):Prop:=∃a,ev=aN (aG #[.agg (a.vals s'),aB aI 0])/\fO w' w.heap.size s' a/\Below w.heap.size w w'
theorem DL (al:Int)(v:Sc)(s s':Sy)(n:List UInt8)(z:Nat)(w:World)(hs:lZ w v s)(hk:bQ s)(hf:∀c∈s.cs,c.ns.length<=999)(hnm:nameB n=true)(hz:1<=z/\z<=64)(hno:s.named n=aJ)(hcr:s.create n z=aK s')(hal:al=1∨(al=2/\z%2=0)):
 Calls prog 50 #[aC #[aA v.a1 v.n1 v.c1,aA v.hc.az 2 v.hc.cz,aA v.hc.am 2 v.hc.cm,aB aI (s.h.aAh:Int),aA v.hc.al v.hc.lc.length v.hc.cl,aA v.hc.av s.h.live.length v.hc.cv,aA v.a2 v.ys.length v.c2],aF ⟨n.toArray⟩,aB aI z,aB aI al] w (aAy s' w):=by
 rcases hal with rfl | ⟨rfl,hev⟩
 case' inl=>
  have hrz:=True.intro;have hbt:=True.intro
 case' inr=>
  have hrz:((z:Int)+2-1)/2*2=z:=by omega
  have hbt:bits BinOp.and IntKind.i64 2 1=0:=by decide
 all_goals
  have hf2:∀c∈s.cs,c.ns.length<=1000:=λc hc=>Nat.le_succ_of_le (hf c hc)
  obtain⟨K1,K2,K3,F1,F2,F3,hsz,hbw⟩:=boxes3 w #[aA v.a1 v.n1 v.c1,aA v.hc.az 2 v.hc.cz,aA v.hc.am 2 v.hc.cm,aB aI (s.h.aAh:Int),aA v.hc.al v.hc.lc.length v.hc.cl,aA v.hc.av s.h.live.length v.hc.cv,aA v.a2 v.ys.length v.c2] 42 #[aB aI (z:Int)] 3 #[aA aJ 0 0,aA aJ 0 0,aA aJ 0 0,aB aI 0,aA aJ 0 0,aA aJ 0 0,aA aJ 0 0] 42;have hs1:=hs.below hbw;have hyl:v.ys.length<=20:=by have:=congrArg List.length hs.cy;rw[gTe]at this;rw[this];exact hk.cl
  have hn8:n.length<=8:=by
   unfold nameB at hnm;simp only[Bool.and_eq_true,decide_eq_true_eq]at hnm;exact hnm.1.2
  have BD:Hid (∀W,Calls prog 34 #[aF ⟨n.toArray⟩] W λL w'=>L=aN (.bool true)/\Below W.heap.size W w'):=λW=>by
   have h:=NK n W (by omega);rw[hnm]at h;exact h
  have hfi:dA (λc:Ca=>c.ns.contains n) s.cs= -1:=by
   unfold Sy.named at hno;unfold dA;rw[hno]
  have qI:Hid (∀W,Below (((w.alloc (aO #[aA v.a1 v.n1 v.c1,aA v.hc.az 2 v.hc.cz,aA v.hc.am 2 v.hc.cm,aB aI (s.h.aAh:Int),aA v.hc.al v.hc.lc.length v.hc.cl,aA v.hc.av s.h.live.length v.hc.cv,aA v.a2 v.ys.length v.c2] 42)).alloc (aO #[aB aI (z:Int)] 3)).alloc (aO #[aA aJ 0 0,aA aJ 0 0,aA aJ 0 0,aB aI 0,aA aJ 0 0,aA aJ 0 0,aA aJ 0 0] 42)).heap.size (((w.alloc (aO #[aA v.a1 v.n1 v.c1,aA v.hc.az 2 v.hc.cz,aA v.hc.am 2 v.hc.cm,aB aI (s.h.aAh:Int),aA v.hc.al v.hc.lc.length v.hc.cl,aA v.hc.av s.h.live.length v.hc.cv,aA v.a2 v.ys.length v.c2] 42)).alloc (aO #[aB aI (z:Int)] 3)).alloc (aO #[aA aJ 0 0,aA aJ 0 0,aA aJ 0 0,aB aI 0,aA aJ 0 0,aA aJ 0 0,aA aJ 0 0] 42)) W->Calls prog 11 #[aC #[aA v.a1 v.n1 v.c1,aA v.hc.az 2 v.hc.cz,aA v.hc.am 2 v.hc.cm,aB aI (s.h.aAh:Int),aA v.hc.al v.hc.lc.length v.hc.cl,aA v.hc.av s.h.live.length v.hc.cv,aA v.a2 v.ys.length v.c2]] W λL w'=>L=aN (aB aI 0)/\Below W.heap.size W w'):=λW hW=>kE v s W (hs1.below hW) hk hf2
  have HNA:Hid (∀W,Below (((w.alloc (aO #[aA v.a1 v.n1 v.c1,aA v.hc.az 2 v.hc.cz,aA v.hc.am 2 v.hc.cm,aB aI (s.h.aAh:Int),aA v.hc.al v.hc.lc.length v.hc.cl,aA v.hc.av s.h.live.length v.hc.cv,aA v.a2 v.ys.length v.c2] 42)).alloc (aO #[aB aI (z:Int)] 3)).alloc (aO #[aA aJ 0 0,aA aJ 0 0,aA aJ 0 0,aB aI 0,aA aJ 0 0,aA aJ 0 0,aA aJ 0 0] 42)).heap.size (((w.alloc (aO #[aA v.a1 v.n1 v.c1,aA v.hc.az 2 v.hc.cz,aA v.hc.am 2 v.hc.cm,aB aI (s.h.aAh:Int),aA v.hc.al v.hc.lc.length v.hc.cl,aA v.hc.av s.h.live.length v.hc.cv,aA v.a2 v.ys.length v.c2] 42)).alloc (aO #[aB aI (z:Int)] 3)).alloc (aO #[aA aJ 0 0,aA aJ 0 0,aA aJ 0 0,aB aI 0,aA aJ 0 0,aA aJ 0 0,aA aJ 0 0] 42)) W->Calls prog 99 #[aC #[aA v.a1 v.n1 v.c1,aA v.hc.az 2 v.hc.cz,aA v.hc.am 2 v.hc.cm,aB aI (s.h.aAh:Int),aA v.hc.al v.hc.lc.length v.hc.cl,aA v.hc.av s.h.live.length v.hc.cv,aA v.a2 v.ys.length v.c2],aF ⟨n.toArray⟩] W λL w'=>L=aN (aG #[aB aI (-1),.bool false])/\Below W.heap.size W w'):=λW hW=>by
   have h:=Jh v s n W (hs1.below hW) hf2 hyl;rw[hfi]at h;exact h
  have Hf:Hid (∀W,Below w.heap.size w W->Calls prog 12 #[aC #[aA v.a1 v.n1 v.c1,aA v.hc.az 2 v.hc.cz,aA v.hc.am 2 v.hc.cm,aB aI (s.h.aAh:Int),aA v.hc.al v.hc.lc.length v.hc.cl,aA v.hc.av s.h.live.length v.hc.cv,aA v.a2 v.ys.length v.c2]] W λL w'=>∃v',L=aN (.agg (v'.vals s))/\fO w' W.heap.size s v'/\Below W.heap.size W w'):=λW hW=>oJ v s W (hs.below hW) hk hf2
  have HK:=gO hk;have HF:=gO hf;have HB1:=gO hbw;have A:=gO K1;have Q:=gO F1;have HK2:=gO K2;have HF2:=gO F2;have HK3:=gO K3;have HF3:=gO F3;have O:w.heap.size<(((w.alloc (aO #[aA v.a1 v.n1 v.c1,aA v.hc.az 2 v.hc.cz,aA v.hc.am 2 v.hc.cm,aB aI (s.h.aAh:Int),aA v.hc.al v.hc.lc.length v.hc.cl,aA v.hc.av s.h.live.length v.hc.cv,aA v.a2 v.ys.length v.c2] 42)).alloc (aO #[aB aI (z:Int)] 3)).alloc (aO #[aA aJ 0 0,aA aJ 0 0,aA aJ 0 0,aB aI 0,aA aJ 0 0,aA aJ 0 0,aA aJ 0 0] 42)).heap.size:=by omega
  have N:w.heap.size+1<(((w.alloc (aO #[aA v.a1 v.n1 v.c1,aA v.hc.az 2 v.hc.cz,aA v.hc.am 2 v.hc.cm,aB aI (s.h.aAh:Int),aA v.hc.al v.hc.lc.length v.hc.cl,aA v.hc.av s.h.live.length v.hc.cv,aA v.a2 v.ys.length v.c2] 42)).alloc (aO #[aB aI (z:Int)] 3)).alloc (aO #[aA aJ 0 0,aA aJ 0 0,aA aJ 0 0,aB aI 0,aA aJ 0 0,aA aJ 0 0,aA aJ 0 0] 42)).heap.size:=by omega
  have HCR:=gO hcr;have HZ:=gO hz;have hz1:¬(z:Int)<1:=by omega
  have hz2:¬(64:Int)<z:=by omega
  have k0:=A.out 0;have k1:=A.out 1;have k2:=A.out 2;have k3:=A.out 3;have k4:=A.out 4;have k5:=A.out 5;have k6:=A.out 6;have q0:=HK2.out 0;simp only[gB,gC,gD]at k0 k1 k2 k3 k4 k5 k6 q0;clear hs hk hf hf2 hs1 hbw K1 K2 K3 F1 F2 F3 hno hfi hnm hcr hz;go_enter func50,ntmps50
  go_upto_region 1 with fail
  generalize ((w.alloc _).alloc _).alloc _=w3 at*;have LQ:∀W,Below w3.heap.size w3 W->W.cell? ⟨w.heap.size+1,0,aJ⟩=aK (aB aI (z:Int)):=λW h=>(h.cell (p:=⟨w.heap.size+1,0,aJ⟩) N).trans q0
  go_upto_region 6 with (first | (go_at_call 11;refine(qI.out _ (gX _ _)).mono ?_;rintro L wa ⟨rfl,hba⟩) | (go_at_call 34;refine(BD.out _).mono ?_;rintro L wb ⟨rfl,F⟩))
  have aBp:=gW hba F;have qb:=LQ wb aBp;have Kb:=aAp A.out O aBp;clear k0 k1 k2 k3 k4 k5 k6 q0;obtain⟨k0,k1,k2,k3,k4,k5,k6⟩:=gA7 Kb;have aEc:=gO aBp;clear Kb hba F aBp;go_upto_region 9 with (go_at_call 99;refine(HNA.out _ aEc.out).mono ?_;rintro L wn ⟨rfl,hbn⟩)
  have Gi:=gO (gW aEc.out hbn);have qn:=LQ wn Gi.out;have fn:=(aAt HF2.out N Gi.out) 0;have Kn:=aAp A.out O Gi.out;clear k0 k1 k2 k3 k4 k5 k6 qb;obtain⟨k0,k1,k2,k3,k4,k5,k6⟩:=gA7 Kn;clear hbn;go_upto_region 12 with fail
  have hne01:w.heap.size≠w.heap.size+1:=by omega
  have hne1:w.heap.size+1≠w.heap.size:=by omega
  have hne2:w.heap.size+2≠w.heap.size:=by omega
  have aG0:w.heap.size+2≠w.heap.size+1:=by omega
  have hsw:w.heap.size<=w3.heap.size:=gR O;have qU:=gO (gS (Below.trans HB1.out (Gi.out.mono hsw)) (w.heap.size+1) 0 (Nat.le_succ _) (aB aI (z:Int)));have Kq:=aAc Kn hne01 0 (aB aI (z:Int));have Fq:=aAs (aAt Q.out O Gi.out) ⟨w.heap.size+1,0,aJ⟩ (aB aI (z:Int));have K2q:=aAr (aAp HK2.out N Gi.out) 0 (aB aI (z:Int));simp only[gE,gG]at K2q;have F2q:=aAs (aAt HF2.out N Gi.out) ⟨w.heap.size+1,0,aJ⟩ (aB aI (z:Int));have K3q:=aAc (aAp HK3.out hsz Gi.out) aG0 0 (aB aI (z:Int));have F3q:=aAs (aAt HF3.out hsz Gi.out) ⟨w.heap.size+1,0,aJ⟩ (aB aI (z:Int));have aDq:w.heap.size+2<(wn.setCell ⟨w.heap.size+1,0,aJ⟩ (aB aI (z:Int))).heap.size:=by
   have:=Gi.out.size;simp;omega
  have HKq:=gO Kq;have HFq:=gO Fq;have aG1:=gO K2q;have aG2:=gO F2q;have aG3:=gO K3q;have aG4:=gO F3q;clear k0 k1 k2 k3 k4 k5 k6 qn fn Kn Kq Fq K2q F2q K3q F3q LQ HNA qI BD Gi aEc A Q HK2 HF2 HK3 HF3;generalize wn.setCell _ _=wq at*;obtain⟨k0,k1,k2,k3,k4,k5,k6⟩:=gA7 HKq.out;have Uk:w.heap.size<wq.heap.size:=by omega
  go_upto_region 13 with (go_at_call 12;refine(Hf.out _ qU.out).mono ?_;rintro L w5 ⟨f,he,hnew,E⟩;unfold Sc.vals at he;subst he;have K15:=aAp HKq.out Uk E;have F15:=aAt HFq.out Uk E;obtain⟨y0,y1,y2,y3,y4,y5,y6⟩:=gA7 K15;obtain⟨f0,f1,f2,f3,f4,f5,f6⟩:=gF7 F15;skip)
  have nH:SR w5 w.heap.size (λk=>k<w.heap.size∨k=w.heap.size+1∨k=w.heap.size+2) s f:=SR.lift hnew Uk (λk hk=>by omega) (by omega);have hfin:=SS.put7 nH K15 F15;have R:=gO hfin;have aCG:w.heap.size+1<wq.heap.size:=by omega
  have P0:=aAp aG1.out aCG E;have Q0:=aAt aG2.out aCG E;have R0:=aAp aG3.out aDq E;have U0:=aAt aG4.out aDq E;have P7:=lW P0 hne1 f s;have Q7:=Gu (T:=w.heap.size) Q0 f s;have R7:=lW R0 hne2 f s;have U7:=Gu (T:=w.heap.size) U0 f s;have HP:=gO P7;have HQ:=gO Q7;have HR:=gO R7;have HU:=gO U7;have HB5:=gO (Below.trans qU.out (E.mono (gR Uk)));have HB6:=gO (aAz HB5.out (gT _) f s);have VD:w.heap.size+2<((((((((w5.setCell ⟨w.heap.size,0,aJ⟩ (aA f.a1 f.n1 f.c1)).setCell ⟨w.heap.size,1,aJ⟩ (aA f.hc.az 2 f.hc.cz)).setCell ⟨w.heap.size,2,aJ⟩ (aA f.hc.am 2 f.hc.cm)).setCell ⟨w.heap.size,3,aJ⟩ (aB aI (s.h.aAh:Int))).setCell ⟨w.heap.size,4,aJ⟩ (aA f.hc.al f.hc.lc.length f.hc.cl)).setCell ⟨w.heap.size,5,aJ⟩ (aA f.hc.av s.h.live.length f.hc.cv)).setCell ⟨w.heap.size,6,aJ⟩ (aA f.a2 f.ys.length f.c2))).heap.size:=by
   have:=E.size;simp;omega
  clear y0 y1 y2 y3 y4 y5 y6 f0 f1 f2 f3 f4 f5 f6 K15 F15 nH hfin hnew k0 k1 k2 k3 k4 k5 k6 P0 P7 Q0 Q7 R0 R7 U0 U7 HB5 E HKq HFq aG1 aG2 aG3 aG4 Hf qU;generalize ((((((w5.setCell _ _).setCell _ _).setCell _ _).setCell _ _).setCell _ _).setCell _ _).setCell _ _=w6 at*;have p0:=HP.out 0;have C:=R.out.k 6;unfold Sc.vals at C;simp only[gB,gC,gD]at p0 C;have eg:∀args w,(callFunc 100 args).run prog w= .ok (.enter 100 args) w:=enters_of func100 (by kernel_rfl) rfl;have hv1:f.ys.length<=20:=by
   have h:=congrArg List.length R.out.r.cy;simp only[gTe]at h;rw[h];exact HK.out.cl
  have hfz:dA (λy:Cc=>decide (y.c.z=z)) f.ys=dA (λc:Ca=>decide (c.z=z)) s.cs:=by
   rw[<- R.out.r.cy];unfold dA;rw[List.findIdx?_map];rfl
  have aG5:=R.out.r.at
  have hcall:=wO f.a2 f.ys.length f.c2 f.ys 100 #[aH (aK ⟨w.heap.size+1,0,aJ⟩)] (λy=>decide (y.c.z=z)) w6 rfl (by omega) aG5.rc eg (λW hW y hy=>RZ y z (w.heap.size+1) W (by have:=hW.size;omega) ((hW.cell (p:=⟨w.heap.size+1,0,aJ⟩) (by show w.heap.size+1<w6.heap.size;omega)).trans p0));rw[hfz]at hcall;have HIX:=gO hcall;clear hcall eg aG5 hfz;go_upto_region 14 with (go_at_call 72;refine HIX.out.mono ?_;rintro L b ⟨rfl,M⟩)
  have u:=gO (R.out.below M);have hw6:w.heap.size+1+1<w6.heap.size:=VD;have HR7:=gO (aAp HR.out hw6 M);have HU7:=gO (aAt HU.out hw6 M);have HP7:=gO (aAp HP.out (show w.heap.size+1<w6.heap.size by omega) M);have HB7:=gO (HB6.out.trans (M.mono (show w.heap.size<=w6.heap.size by omega)));have hw7:w.heap.size+1+1<b.heap.size:=gI hw6 M.size;clear HIX p0 C R HP HQ HR HU HB6 VD M hw6;cases hfd:s.cs.findIdx? (λc=>decide (c.z=z))with
  | some i=>
   have hi:i<s.cs.length:=by
    rw[List.findIdx?_eq_some_iff_getElem]at hfd;exact hfd.1
   have hfe:dA (λc:Ca=>decide (c.z=z)) s.cs=(i:Int):=by
    unfold dA;rw[hfd]
   have hi1:i<f.ys.length:=by
    have h:=congrArg List.length u.out.r.cy;simp only[gTe]at h;omega
   have hci:f.ys[i].c=s.cs[i]:=by
    have h1:=congrArg (·[i]?) u.out.r.cy;simp[hi1,hi]at h1;exact h1
   have hs':s'=s.fB i {s.cs[i]with ns:=s.cs[i].ns.take (Dk s.cs[i].ns n)++n::s.cs[i].ns.drop (Dk s.cs[i].ns n)}:=by
    have h:=HCR.out;unfold Sy.create at h;rw[hfd]at h;simp only[gJ hi]at h;exact(gP h).symm
   have hck:=HK.out.ck _ (gL hi);have hfn:=HF.out _ (gL hi);rw[<- hci]at hs' hck hfn;rw[hfe];obtain⟨gc,ha2,o9,Lu,Rz,hcc⟩:=u.out.r.TN hi1;obtain⟨hr1,hr2,hr3⟩:=u.out.r.y (gL hi1);obtain⟨y,hy⟩:∃y,f.ys[i]=y:=⟨_,rfl⟩
   have HY:=gO hy;rw[hy]at hcc hr1 hs' hck hfn;have aG6:=u.out.r.aGY hi1 hy ha2;have hl1:y.c.ns.length=y.n1:=aZ bF (by decide) hr1;have hn1:y.n1<=999:=by omega
   have b0:=(hcc 0 (by decide)).1;have f0:=(hcc 0 (by decide)).2;simp only[dX,vI,gC,gD,Nat.add_zero]at b0 f0;have C:=u.out.k 6;unfold Sc.vals at C;simp only[gB,gC,gD]at C;rw[ha2]at C;have hii:(i:Int)<f.ys.length:=by omega
   have hi0:(0:Int)<=i:=by omega
   have HBI:=gO (aBo y.a1 y.n1 y.c1 y.c.ns n b hl1 (by omega) (aV hr1) hck.nr);have Wx:=gO hs';have S:=gO hr1;have hle:=Zv y.c.ns n;have HL1:=gO hl1;have HA2:=gO ha2;have HGN:=gO aG6;clear hr2 hr3 hcc hr1 hy hs' hck hfn hci hfe hl1 hfd ha2 aG6;go_upto_region 17 with (go_at_call 101;refine HBI.out.mono ?_;rintro L w8 ⟨bb,rfl,rfl⟩)
   obtain⟨K,hK⟩:∃K,Dk y.c.ns n=K:=⟨_,rfl⟩
   rw[hK]at hle Wx ⊢;clear HBI hK;have q:=aAq b (aO #[aF ⟨n.toArray⟩] 9);have HS8:=gO (u.out.below q);have HR18:Hid ((sW y).on (b.alloc (aO #[aF ⟨n.toArray⟩] 9)) 0):=own_below S.out q (gT _);have HGB:Hid ((b.alloc (aO #[aF ⟨n.toArray⟩] 9)).heap[b.heap.size]? =aK (.cells (encS n).toArray 9 (0,0))):=heap_alloc_new b _;have HNB:Hid (aK b.heap.size≠gTh (aA y.a1 y.n1 y.c1)):=λe=>(own_ne S.out (.inr (gT _))) e.symm
   have aG7:gc<(b.alloc (aO #[aF ⟨n.toArray⟩] 9)).heap.size:=gI o9 q.size;have HX8:=gO ((q.cell (p:=⟨gc,i*6,aJ⟩) o9).trans b0);have HY8:=gO ((q.frozen (p:=⟨gc,i*6,aJ⟩) o9).trans f0);have HGS:Hid (aK gc≠(aA y.a1 y.n1 y.c1).ownBlock):=λe=>HGN.out e.symm
   have hKn:K<=y.n1:=by rw[<- HL1.out];exact hle
   have Ik:=gO q;clear q S;go_upto_region 18 with (go_at_call 102;refine(Yk 0 y.a1 y.n1 y.c1 b.heap.size K y.c.ns n _ HR18.out hKn (by omega) (gU _) HGB.out HNB.out).mono ?_;rintro L w9 ⟨an,cn,rfl,aCH,G,hl9⟩;have q4:=(World.cell?_of_block (w:=b.alloc (aO #[aF ⟨n.toArray⟩] 9)) (a:=⟨gc,i*6,aJ⟩) (G.block gc aG7 HGS.out)).trans HX8.out;have p4:=(World.frozen?_of_block (w:=b.alloc (aO #[aF ⟨n.toArray⟩] 9)) (a:=⟨gc,i*6,aJ⟩) (G.block gc aG7 HGS.out)).trans HY8.out)
   obtain⟨d,t1,t2,t3⟩:=HS8.out.aEb hi1 HY.out aCH G hl9 HA2.out;have hsf:=(Safe.jD (X:=λk=>k<w.heap.size∨k=w.heap.size+1∨k=w.heap.size+2) Ik.out).trans t2;have J:=gO (hsf.box HR7.out hw7 (.inr (.inr rfl)));have HUe:=gO (hsf.Xe HU7.out hw7 (.inr (.inr rfl)));have HBe:=gO (Safe.after HB7.out hsf (λk hk=> .inl hk) HB7.out.size);rw[<- Wx.out]at t1;have I:=gO t1;clear t1 t2 t3 hsf q4 p4 aCH G hl9 HS8 HR18 HGB HNB HX8 HY8 HGS Ik u HR7 HU7 HP7 HB7 b0 f0 C Wx;generalize w9.setCell _ _=we at*;have x0:=I.out.k 0;have x1:=I.out.k 1;have x2:=I.out.k 2;have x3:=I.out.k 3;have x4:=I.out.k 4;have x5:=I.out.k 5;have C:=I.out.k 6;unfold Sc.vals at x0 x1 x2 x3 x4 x5 C;have y0:=J.out 0;have y1:=J.out 1;have y2:=J.out 2;have y3:=J.out 3;have y4:=J.out 4;have y5:=J.out 5;have y6:=J.out 6;obtain⟨f0,f1,f2,f3,f4,f5,f6⟩:=gF7 HUe.out;simp only[gB,gC,gD]at x0 x1 x2 x3 x4 x5 C y0 y1 y2 y3 y4 y5 y6;have V:w.heap.size<=w.heap.size+1+1:=by omega
   have KX:=(CU J.out d s')
   have m:(λk=>k<w.heap.size∨k=w.heap.size+1∨k=w.heap.size+2) (w.heap.size+1+1):= .inr (.inr rfl);have A0:=I.out;have A1:=A0.dD m 0 (aA d.a1 d.n1 d.c1);have A2:=A1.dD m 1 (aA d.hc.az 2 d.hc.cz);have A3:=A2.dD m 2 (aA d.hc.am 2 d.hc.cm);have A4:=A3.dD m 3 (aB aI (s'.h.aAh:Int));have A5:=A4.dD m 4 (aA d.hc.al d.hc.lc.length d.hc.cl);have A6:=A5.dD m 5 (aA d.hc.av s'.h.live.length d.hc.cv);have A7:=A6.dD m 6 (aA d.a2 d.ys.length d.c2);have oI:=gO (A7.sub (Y:=λk=>k<w.heap.size) (λk hk=> .inl hk)).r;have jA:=gO (aAz HBe.out V d s');clear A0 A1 A2 A3 A4 A5 A6 A7 m;go_wp2_with fail
   generalize ((((((we.setCell _ _).setCell _ _).setCell _ _).setCell _ _).setCell _ _).setCell _ _).setCell _ _=wx at*;exact bodyPost_ret (v:=aG #[aC #[aA d.a1 d.n1 d.c1,aA d.hc.az 2 d.hc.cz,aA d.hc.am 2 d.hc.cm,aB aI (s'.h.aAh:Int),aA d.hc.al d.hc.lc.length d.hc.cl,aA d.hc.av s'.h.live.length d.hc.cv,aA d.a2 d.ys.length d.c2],aB aI 0]) (by simp[results,results50,go_sem,KX]) rfl ⟨d,rfl,oI.out,jA.out⟩
  | none=>
   have hfe:dA (λc:Ca=>decide (c.z=z)) s.cs= -1:=by
    unfold dA;rw[hfd]
   have hcl:f.ys.length=s.cs.length:=by
    have h:=congrArg List.length u.out.r.cy;simpa using h
   have aCI:s.cs.length≠20/\s'={s with cs:=s.cs++[⟨[n],z,aAC z,fG z,[],List.replicate s.h.aAh (-1)⟩]}:=by
    have h:=HCR.out;unfold Sy.create at h;rw[hfd]at h;simp only at h;split at h
    ·cases h
    ·exact⟨by assumption,(gP h).symm⟩
   have aKr:((f.ys.length:Int) == 20)=false:=by
    rw[beq_eq_false_iff_ne];omega
   have Wx:=gO aCI.2;rw[hfe];have C:=u.out.k 6;have x3:=u.out.k 3;have p0:=HP7.out 0;unfold Sc.vals at C x3;simp only[gB,gC,gD]at C x3 p0;have HLY:=gO (FH z b HZ.out.1 HZ.out.2);have aOz:=HK.out.hk.cp.2;have p0':=((aAq b (aO #[aF ⟨n.toArray⟩] 9)).cell (p:=⟨w.heap.size+1,0,aJ⟩) (by show w.heap.size+1<b.heap.size;omega)).trans p0;clear hfe hfd aCI hcl;go_upto_region 23 with (go_at_call 68;refine HLY.out.mono ?_;rintro L w8 ⟨rfl,rfl⟩)
   have q:=aAq b (aO #[aF ⟨n.toArray⟩] 9);have bb:=aAq (b.alloc (aO #[aF ⟨n.toArray⟩] 9)) (aO #[aA (aK ⟨b.heap.size,0,aJ⟩) 1 1,aB aI (z:Int),aB aI (aAC z:Int),aB aI (fG z:Int),aA aJ 0 0,aA aJ 0 0] 67);have F:=gW q bb;have hs8:(b.alloc (aO #[aF ⟨n.toArray⟩] 9)).heap.size=b.heap.size+1:=by simp
   have KC:=aQ (b.alloc (aO #[aF ⟨n.toArray⟩] 9)) #[aA (aK ⟨b.heap.size,0,aJ⟩) 1 1,aB aI (z:Int),aB aI (aAC z:Int),aB aI (fG z:Int),aA aJ 0 0,aA aJ 0 0] 67;have FC:=eG (b.alloc (aO #[aF ⟨n.toArray⟩] 9)) #[aA (aK ⟨b.heap.size,0,aJ⟩) 1 1,aB aI (z:Int),aB aI (aAC z:Int),aB aI (fG z:Int),aA aJ 0 0,aA aJ 0 0] 67;rw[hs8]at KC FC;have hs9:((b.alloc (aO #[aF ⟨n.toArray⟩] 9)).alloc (aO #[aA (aK ⟨b.heap.size,0,aJ⟩) 1 1,aB aI (z:Int),aB aI (aAC z:Int),aB aI (fG z:Int),aA aJ 0 0,aA aJ 0 0] 67)).heap.size=b.heap.size+2:=by simp
   have HN9:Hid (((b.alloc (aO #[aF ⟨n.toArray⟩] 9)).alloc (aO #[aA (aK ⟨b.heap.size,0,aJ⟩) 1 1,aB aI (z:Int),aB aI (aAC z:Int),aB aI (fG z:Int),aA aJ 0 0,aA aJ 0 0] 67)).ownsRow b.heap.size 9 1 (aA (aK ⟨b.heap.size,0,aJ⟩) 1 1) 1 [aF ⟨n.toArray⟩]):=
    own_below ⟨by simp,.inr ⟨b.heap.size,1,#[aF ⟨n.toArray⟩],rfl,gT _,heap_alloc_new b _,gT _,by unfold maxLen;omega,by simp,by simp⟩⟩ bb (gT _)
   have HS9:Hid (SS ((b.alloc (aO #[aF ⟨n.toArray⟩] 9)).alloc (aO #[aA (aK ⟨b.heap.size,0,aJ⟩) 1 1,aB aI (z:Int),aB aI (aAC z:Int),aB aI (fG z:Int),aA aJ 0 0,aA aJ 0 0] 67)) w.heap.size (λk=>(k<w.heap.size∨k=w.heap.size+1∨k=w.heap.size+2)∨k=b.heap.size+1) s f):=
    (u.out.new F).sub λk hk=>hk.imp id λe=>by rw[hs9];omega
   have HR9:=gO (aAp HR7.out hw7 F);have HU9:=gO (aAt HU7.out hw7 F);have HB9:=gO (HB7.out.trans (F.mono (gQ (gR (Nat.lt_of_succ_lt (Nat.lt_of_succ_lt hw7))) (gT _))));have HKC:=gO KC;have HFC:=gO FC;have x3':=(F.cell (p:=⟨w.heap.size,3,aJ⟩) (by show w.heap.size<b.heap.size;omega)).trans x3;clear q bb F KC FC x3 C p0 p0' HR7 HU7 HB7 HP7 HLY hs8;generalize (b.alloc _).alloc _=w9 at*;go_wp2_with fail
   clear x3';go_loopw [122] (λs122 wr=>∃(j:Nat) (x:Option Addr) (t:Nat),j<=s.h.aAh/\s122=aB aI (j:Int)/\Hid (SS wr w.heap.size (λk=>((k<w.heap.size∨k=w.heap.size+1∨k=w.heap.size+2)∨k=b.heap.size+1)∨(aA x j t).ownBlock=aK k) s f)/\Hid (wr.ownsRow b.heap.size 9 1 (aA (aK ⟨b.heap.size,0,aJ⟩) 1 1) 1 [aF ⟨n.toArray⟩])/\Hid (wr.ownsRow w9.heap.size 3 1 (aA x j t) j ((List.replicate j (-1)).map vI))/\Hid (∀o,wr.cell? ⟨b.heap.size+1,o,aJ⟩=(#[aA (aK ⟨b.heap.size,0,aJ⟩) 1 1,aB aI (z:Int),aB aI (aAC z:Int),aB aI (fG z:Int),aA aJ 0 0,aA x j t]:Array Value)[o]?)/\Hid (∀o,wr.frozen? ⟨b.heap.size+1,o,aJ⟩=false)/\Hid (∀o,wr.cell? ⟨w.heap.size+1+1,o,aJ⟩=(#[aA aJ 0 0,aA aJ 0 0,aA aJ 0 0,aB aI 0,aA aJ 0 0,aA aJ 0 0,aA aJ 0 0]:Array Value)[o]?)/\Hid (∀o,wr.frozen? ⟨w.heap.size+1+1,o,aJ⟩=false)/\w9.heap.size<=wr.heap.size/\Hid (Below w.heap.size w wr)) (λs122 _=>s.h.aAh-(intOf s122).toNat)
   case atStart=>exact⟨0,aJ,0,gU _,rfl,HS9.out.sub (λk hk=>hk.resolve_right (by simp[gTh])),HN9,World.ownsRow_nil _ _ _ _,HKC,HFC,HR9,HU9,gT _,HB9⟩
   case round=>
    obtain⟨j,x,t,hj,rfl,qK,VT,H,BA,HFj,HRj,RI,hwj,rM⟩:=hrel;clear HS9 HN9 HKC HFC HR9 HU9 HB9;have hcj:b.heap.size+1<wr.heap.size:=by omega
    have U:w.heap.size+1+1<wr.heap.size:=by omega
    by_cases hlt:j<s.h.aAh
    ·have hji:(j:Int)<s.h.aAh:=by omega
     have q:=aAq wr (aO #[aB aI (-1)] 3);have HS1:=gO (qK.out.below q);have HN1:Hid ((wr.alloc (aO #[aB aI (-1)] 3)).ownsRow b.heap.size 9 1 (aA (aK ⟨b.heap.size,0,aJ⟩) 1 1) 1 [aF ⟨n.toArray⟩]):=own_below VT.out q (gT _);have HA1:Hid ((wr.alloc (aO #[aB aI (-1)] 3)).ownsRow w9.heap.size 3 1 (aA x j t) j ((List.replicate j (-1)).map vI)):=own_below H.out q (gT _);have A:=gO (aAp BA.out hcj q);have Q:=gO (aAt HFj.out hcj q);have S:=gO (aAp HRj.out U q);have HU1:=gO (aAt RI.out U q);have aEd:=gO (gW rM.out q);have hw1:w9.heap.size<=(wr.alloc (aO #[aB aI (-1)] 3)).heap.size:=gQ hwj q.size;have zF:=gO (World.news_of_block (heap_alloc_new wr (aO #[aB aI (-1)] 3)));have k5:=BA.out 5;simp only[gB,gC,gD]at k5;obtain⟨ti,hti,htz,hts,htb⟩:=info_parts lM;have hcs:b.heap.size+1<(wr.alloc (aO #[aB aI (-1)] 3)).heap.size:=gI hcj q.size;have aG8:w.heap.size+1+1<(wr.alloc (aO #[aB aI (-1)] 3)).heap.size:=gI U q.size;have aG9:aK (b.heap.size+1)≠(aA x j t).ownBlock:=λe=>by
      have:=(H.out.lt _ e.symm).1;omega
     have aHa:aK (w.heap.size+1+1)≠(aA x j t).ownBlock:=λe=>by
      have:=(H.out.lt _ e.symm).1;omega
     have aHb:∀k,(aA (aK ⟨b.heap.size,0,aJ⟩) 1 1).ownBlock=aK k->(aA x j t).ownBlock≠aK k:=λk e e'=>by
      have h1:=(H.out.lt _ e').1;have h2:b.heap.size=k:=by simpa[gTh]using e
      omega
     have Zw:=gO aG9;have aEe:=gO aHa;have aHc:=gO aHb;clear q qK VT H BA HFj HRj RI rM aG9 aHa aHb;go_wp2_with (at_builtin;refine wpList_append_lies _ rfl _ _ 34 rfl w9.heap.size 3 ti (aB aI 0) 1 8 underlying34 hti htz hts htb rfl (by decide) (aA x j t) j ((List.replicate j (-1)).map vI) rfl HA1.out ⟨wr.heap.size,0,aJ⟩ 1 1 [aB aI (-1)] rfl rfl zF.out (by simp[Value.oneCell']) (by decide) (by unfold maxLen;omega) (by omega) hw1 _ rfl ?_;intro P l wg ho7 B hl7 lN;have q5:=(bD A.out hcs B Zw.out 5).trans (show _=aK (aA x j t)from rfl);have f5:=bG Q.out hcs B Zw.out 5)
     have HSg:=HS1.out.out (Z:=λk=>((k<w.heap.size∨k=w.heap.size+1∨k=w.heap.size+2)∨k=b.heap.size+1)∨(aA (aK ⟨P,0,aJ⟩) (j+1) l).ownBlock=aK k) B (λk e=> .inr e) (λk hk=>by
      rcases hk with h | h
      ·exact .inl (.inl h)
      ·obtain rfl:P=k:=by simpa[gTh]using h
       rcases hl7 with h1 | h1
       ·exact .inl (.inr h1)
       ·exact .inr ⟨Nat.le_of_eq h1.symm,lN⟩)
     have HS2:=gO (HSg.dD (g:=b.heap.size+1) (.inl (.inr rfl)) 5 (aA (aK ⟨P,0,aJ⟩) (j+1) l));have HA2:Hid ((wg.setCell ⟨b.heap.size+1,5,aJ⟩ (aA (aK ⟨P,0,aJ⟩) (j+1) l)).ownsRow w9.heap.size 3 1 (aA (aK ⟨P,0,aJ⟩) (j+1) l) (j+1) ((List.replicate (j+1) (-1)).map vI)):=by
      unfold Hid;rw[List.replicate_succ',List.map_append];exact bC (i:=5) ho7 (λe=>by have:=(ho7.lt _ e).1;omega) _
     have HN2:Hid ((wg.setCell ⟨b.heap.size+1,5,aJ⟩ (aA (aK ⟨P,0,aJ⟩) (j+1) l)).ownsRow b.heap.size 9 1 (aA (aK ⟨b.heap.size,0,aJ⟩) 1 1) 1 [aF ⟨n.toArray⟩]):=
      bC (i:=5) (jL HN1.out B (λk hk=>aHc.out k hk)) (by simp[gTh]) _
     have K2':=aAr (bD A.out hcs B Zw.out) 5 (aA (aK ⟨P,0,aJ⟩) (j+1) l);simp only[gE,gG,gH]at K2';have aKt:=gO K2';have aKu:=gO (aAs (bG Q.out hcs B Zw.out) ⟨b.heap.size+1,5,aJ⟩ (aA (aK ⟨P,0,aJ⟩) (j+1) l));have aKv:=gO (aAc (bD S.out aG8 B aEe.out) (show w.heap.size+1+1≠b.heap.size+1 by omega) 5 (aA (aK ⟨P,0,aJ⟩) (j+1) l));have aKw:=gO (aAs (bG HU1.out aG8 B aEe.out) ⟨b.heap.size+1,5,aJ⟩ (aA (aK ⟨P,0,aJ⟩) (j+1) l));have aKx:Hid (Below w.heap.size w (wg.setCell ⟨b.heap.size+1,5,aJ⟩ (aA (aK ⟨P,0,aJ⟩) (j+1) l))):=Below.setCell (Below.grown aEd.out B aEd.out.size λk e=>by
      have:=(HA1.out.lt k e).1;omega) (show w.heap.size<=(⟨b.heap.size+1,5,aJ⟩:Addr).block by show w.heap.size<=b.heap.size+1;omega) _
     have hw2:w9.heap.size<=(wg.setCell ⟨b.heap.size+1,5,aJ⟩ (aA (aK ⟨P,0,aJ⟩) (j+1) l)).heap.size:=by
      have:=B.size;simp;omega
     clear ho7 B hl7 lN HSg K2' HS1 HN1 HA1 A Q S HU1 aEd zF Zw aEe aHc q5 f5 k5;go_wp2
     go_roundw
     case rel=>exact⟨j+1,aK ⟨P,0,aJ⟩,l,by omega,by go_num,HS2,HN2,HA2,aKt,aKu,aKv,aKw,hw2,aKx⟩
     case measure=>simp[intOf];omega
    ·obtain rfl:j=s.h.aAh:=by omega
     have q:=aAq wr (aO #[aA (aK ⟨b.heap.size,0,aJ⟩) 1 1,aB aI (z:Int),aB aI (aAC z:Int),aB aI (fG z:Int),aA aJ 0 0,aA x s.h.aAh t] 67);have C:=qK.out.k 6;have q0:=BA.out 0;have q1:=BA.out 1;have q2:=BA.out 2;have q3:=BA.out 3;have q4:=BA.out 4;have q5:=BA.out 5;unfold Sc.vals at C;simp only[gB,gC,gD]at C q0 q1 q2 q3 q4 q5;have D:Hid (SS (wr.alloc (aO #[aA (aK ⟨b.heap.size,0,aJ⟩) 1 1,aB aI (z:Int),aB aI (aAC z:Int),aB aI (fG z:Int),aA aJ 0 0,aA x s.h.aAh t] 67)) w.heap.size (λk=>k<w.heap.size∨k=w.heap.size+1∨k=w.heap.size+2) s f):=(qK.out.below q).sub λk hk=> .inl (.inl hk)
     have HRA:=gO (aAp HRj.out U q);have HUA:=gO (aAt RI.out U q);have Ik:=gO (gW rM.out q);have htA:w.heap.size+1+1<(wr.alloc (aO #[aA (aK ⟨b.heap.size,0,aJ⟩) 1 1,aB aI (z:Int),aB aI (aAC z:Int),aB aI (fG z:Int),aA aJ 0 0,aA x s.h.aAh t] 67)).heap.size:=gI U q.size;have o1:dL (wr.alloc (aO #[aA (aK ⟨b.heap.size,0,aJ⟩) 1 1,aB aI (z:Int),aB aI (aAC z:Int),aB aI (fG z:Int),aA aJ 0 0,aA x s.h.aAh t] 67)) 0 (sW (⟨aK ⟨b.heap.size,0,aJ⟩,1,1,aJ,0,0,x,s.h.aAh,t,⟨[n],z,aAC z,fG z,[],List.replicate s.h.aAh (-1)⟩⟩:Cc)::f.rows s):=dL.cons (bs:=b.heap.size) D.out.r.own (r':=sW (⟨aK ⟨b.heap.size,0,aJ⟩,1,1,aJ,0,0,x,s.h.aAh,t,⟨[n],z,aAC z,fG z,[],List.replicate s.h.aAh (-1)⟩⟩:Cc)) (own_below VT.out q (gT _)) (gU _) λr hr g hg=>u.out.r.lt r hr g hg
     have o2:dL (wr.alloc (aO #[aA (aK ⟨b.heap.size,0,aJ⟩) 1 1,aB aI (z:Int),aB aI (aAC z:Int),aB aI (fG z:Int),aA aJ 0 0,aA x s.h.aAh t] 67)) 0 (nT (⟨aK ⟨b.heap.size,0,aJ⟩,1,1,aJ,0,0,x,s.h.aAh,t,⟨[n],z,aAC z,fG z,[],List.replicate s.h.aAh (-1)⟩⟩:Cc)::sW (⟨aK ⟨b.heap.size,0,aJ⟩,1,1,aJ,0,0,x,s.h.aAh,t,⟨[n],z,aAC z,fG z,[],List.replicate s.h.aAh (-1)⟩⟩:Cc)::f.rows s):=dL.cons (bs:=(wr.alloc (aO #[aA (aK ⟨b.heap.size,0,aJ⟩) 1 1,aB aI (z:Int),aB aI (aAC z:Int),aB aI (fG z:Int),aA aJ 0 0,aA x s.h.aAh t] 67)).heap.size) o1 (r':=nT (⟨aK ⟨b.heap.size,0,aJ⟩,1,1,aJ,0,0,x,s.h.aAh,t,⟨[n],z,aAC z,fG z,[],List.replicate s.h.aAh (-1)⟩⟩:Cc)) (World.ownsRow_nil _ _ _ _) (gU _) λr hr g hg=>(o1.lt r hr g hg).2
     have o3:dL (wr.alloc (aO #[aA (aK ⟨b.heap.size,0,aJ⟩) 1 1,aB aI (z:Int),aB aI (aAC z:Int),aB aI (fG z:Int),aA aJ 0 0,aA x s.h.aAh t] 67)) 0 (rX (⟨aK ⟨b.heap.size,0,aJ⟩,1,1,aJ,0,0,x,s.h.aAh,t,⟨[n],z,aAC z,fG z,[],List.replicate s.h.aAh (-1)⟩⟩:Cc)::nT (⟨aK ⟨b.heap.size,0,aJ⟩,1,1,aJ,0,0,x,s.h.aAh,t,⟨[n],z,aAC z,fG z,[],List.replicate s.h.aAh (-1)⟩⟩:Cc)::sW (⟨aK ⟨b.heap.size,0,aJ⟩,1,1,aJ,0,0,x,s.h.aAh,t,⟨[n],z,aAC z,fG z,[],List.replicate s.h.aAh (-1)⟩⟩:Cc)::f.rows s):=dL.cons (bs:=w9.heap.size) o2 (r':=rX (⟨aK ⟨b.heap.size,0,aJ⟩,1,1,aJ,0,0,x,s.h.aAh,t,⟨[n],z,aAC z,fG z,[],List.replicate s.h.aAh (-1)⟩⟩:Cc)) (own_below H.out q (gT _)) (gU _) λr hr g hg=>by
      rcases gY.1 hr with rfl | hr
      ·simp[nT,gTh]at hg
      ·rcases gY.1 hr with rfl | hr
       ·have:b.heap.size=g:=by simpa[sW,gTh]using hg
        omega
       ·have:=u.out.r.lt r hr g hg;omega
     have hfr:∀r∈aAU (⟨aK ⟨b.heap.size,0,aJ⟩,1,1,aJ,0,0,x,s.h.aAh,t,⟨[n],z,aAC z,fG z,[],List.replicate s.h.aAh (-1)⟩⟩:Cc),∀g,r.v.ownBlock=aK g->f.fr s w.heap.size (λk=>k<w.heap.size∨k=w.heap.size+1∨k=w.heap.size+2) g:=λr hr g hg=>u.out.r.fresh (by
      simp only[aAU,gY,List.not_mem_nil,or_false]at hr;rcases hr with rfl | rfl | rfl
      ·have:b.heap.size=g:=by simpa[sW,gTh]using hg
       omega
      ·simp[nT,gTh]at hg
      ·have:=(H.out.lt g hg).1;omega)
     have HO3:=gO o3;have wB:=gO hfr;have HCS:Hid ((nJ f).on (wr.alloc (aO #[aA (aK ⟨b.heap.size,0,aJ⟩) 1 1,aB aI (z:Int),aB aI (aAC z:Int),aB aI (fG z:Int),aA aJ 0 0,aA x s.h.aAh t] 67)) 0):=D.out.r.own.each _ (jF f _);have HNE:Hid ((nJ f).v.ownBlock≠aK w.heap.size):=λe=>(D.out.r.og _ (jF f _) _ e).1 rfl
     have zF:=gO (World.news_of_block (heap_alloc_new wr (aO #[aA (aK ⟨b.heap.size,0,aJ⟩) 1 1,aB aI (z:Int),aB aI (aAC z:Int),aB aI (fG z:Int),aA aJ 0 0,aA x s.h.aAh t] 67)));obtain⟨ti,hti,htz,hts,htb⟩:=info_parts Uc;have hgs:=D.out.r.hr.gs;clear o1 o2 o3 hfr q qK VT H BA HFj HRj RI rM;go_upto_region 28 with (at_builtin;refine wpList_append_lies _ rfl _ _ 40 rfl 0 67 ti (aC #[aA aJ 0 0,aB aI 0,aB aI 0,aB aI 0,aA aJ 0 0,aA aJ 0 0]) 6 96 underlying40 hti htz hts htb rfl (by decide) (aA f.a2 f.ys.length f.c2) f.ys.length (flat dX f.ys) rfl HCS.out ⟨wr.heap.size,0,aJ⟩ 1 1 [aA (aK ⟨b.heap.size,0,aJ⟩) 1 1,aB aI (z:Int),aB aI (aAC z:Int),aB aI (fG z:Int),aA aJ 0 0,aA x s.h.aAh t] rfl rfl zF.out (by simp[Value.oneCell']) (by decide) (by unfold maxLen;omega) (by omega) (gU _) _ rfl ?_;intro g9 cap9 wg ho9 G hl9 aA6;have q9:=(bD D.out.k D.out.r.hr.gs G (λe=>HNE.out e.symm) 6).trans (show _=aK (aA f.a2 f.ys.length f.c2)from rfl);have f9:=bG D.out.fz D.out.r.hr.gs G (λe=>HNE.out e.symm) 6)
     obtain⟨aHd,sf9⟩:=D.out.aFD (y:=(⟨aK ⟨b.heap.size,0,aJ⟩,1,1,aJ,0,0,x,s.h.aAh,t,⟨[n],z,aAC z,fG z,[],List.replicate s.h.aAh (-1)⟩⟩:Cc)) HO3.out wB.out G (by rw[aS,fJ];exact ho9) (by
      rcases hl9 with h1 | h1
      ·exact .inl h1
      ·exact .inr (Nat.le_of_eq h1.symm))
     have hex:∃d,SS (wg.setCell ⟨w.heap.size,6,aJ⟩ (aA (aK ⟨g9,0,aJ⟩) (f.ys.length+1) cap9)) w.heap.size (λk=>k<w.heap.size∨k=w.heap.size+1∨k=w.heap.size+2) s' d:=⟨_,by rw[Wx.out];exact aHd⟩
     obtain⟨d,hse⟩:=hex;have I:=gO hse;have J:=gO (sf9.box HRA.out htA (.inr (.inr rfl)));have HUe:=gO (sf9.Xe HUA.out htA (.inr (.inr rfl)));have HBe:=gO (Safe.after Ik.out sf9 (λk hk=> .inl hk) Ik.out.size);clear aHd sf9 hse ho9 G hl9 aA6 q9 f9 D HRA HUA Ik HO3 wB HCS HNE zF C q0 q1 q2 q3 q4 q5 Wx aKr hs9;generalize wg.setCell _ _=we at*;have x0:=I.out.k 0;have x1:=I.out.k 1;have x2:=I.out.k 2;have x3:=I.out.k 3;have x4:=I.out.k 4;have x5:=I.out.k 5;have C:=I.out.k 6;unfold Sc.vals at x0 x1 x2 x3 x4 x5 C;have y0:=J.out 0;have y1:=J.out 1;have y2:=J.out 2;have y3:=J.out 3;have y4:=J.out 4;have y5:=J.out 5;have y6:=J.out 6;obtain⟨f0,f1,f2,f3,f4,f5,f6⟩:=gF7 HUe.out;simp only[gB,gC,gD]at x0 x1 x2 x3 x4 x5 C y0 y1 y2 y3 y4 y5 y6;have V:w.heap.size<=w.heap.size+1+1:=by omega
     have KX:=(CU J.out d s')
     have m:(λk=>k<w.heap.size∨k=w.heap.size+1∨k=w.heap.size+2) (w.heap.size+1+1):= .inr (.inr rfl);have A0:=I.out;have A1:=A0.dD m 0 (aA d.a1 d.n1 d.c1);have A2:=A1.dD m 1 (aA d.hc.az 2 d.hc.cz);have A3:=A2.dD m 2 (aA d.hc.am 2 d.hc.cm);have A4:=A3.dD m 3 (aB aI (s'.h.aAh:Int));have A5:=A4.dD m 4 (aA d.hc.al d.hc.lc.length d.hc.cl);have A6:=A5.dD m 5 (aA d.hc.av s'.h.live.length d.hc.cv);have A7:=A6.dD m 6 (aA d.a2 d.ys.length d.c2);have oI:=gO (A7.sub (Y:=λk=>k<w.heap.size) (λk hk=> .inl hk)).r;have jA:=gO (aAz HBe.out V d s');clear A0 A1 A2 A3 A4 A5 A6 A7 m;go_wp2_with fail
     generalize ((((((we.setCell _ _).setCell _ _).setCell _ _).setCell _ _).setCell _ _).setCell _ _).setCell _ _=wx at*;exact bodyPost_ret (v:=aG #[aC #[aA d.a1 d.n1 d.c1,aA d.hc.az 2 d.hc.cz,aA d.hc.am 2 d.hc.cm,aB aI (s'.h.aAh:Int),aA d.hc.al d.hc.lc.length d.hc.cl,aA d.hc.av s'.h.live.length d.hc.cv,aA d.a2 d.ys.length d.c2],aB aI 0]) (by simp[results,results50,go_sem,KX]) rfl ⟨d,rfl,oI.out,jA.out⟩
theorem Gj (v:Sc)(s s':Sy)(n:List UInt8)(z:Nat)(w:World)(hs:lZ w v s)(hk:bQ s)(hf:∀c∈s.cs,c.ns.length<=999)(hnm:nameB n=true)(hz:1<=z/\z<=64)(hno:s.named n=aJ)(hcr:s.create n z=aK s'):
 Calls prog 50 #[aC #[aA v.a1 v.n1 v.c1,aA v.hc.az 2 v.hc.cz,aA v.hc.am 2 v.hc.cm,aB aI (s.h.aAh:Int),aA v.hc.al v.hc.lc.length v.hc.cl,aA v.hc.av s.h.live.length v.hc.cv,aA v.a2 v.ys.length v.c2],aF ⟨n.toArray⟩,aB aI z,aB aI 1] w (aAy s' w):=DL 1 v s s' n z w hs hk hf hnm hz hno hcr (.inl rfl)
theorem Si (v:Sc)(s s':Sy)(n:List UInt8)(z:Nat)(w:World)(hs:lZ w v s)(hk:bQ s)(hf:∀c∈s.cs,c.ns.length<=999)(hnm:nameB n=true)(hz:1<=z/\z<=64)(hno:s.named n=aJ)(hcr:s.create n z=aK s')(hz2:z%2=0):
 Calls prog 50 #[aC #[aA v.a1 v.n1 v.c1,aA v.hc.az 2 v.hc.cz,aA v.hc.am 2 v.hc.cm,aB aI (s.h.aAh:Int),aA v.hc.al v.hc.lc.length v.hc.cl,aA v.hc.av s.h.live.length v.hc.cv,aA v.a2 v.ys.length v.c2],aF ⟨n.toArray⟩,aB aI z,aB aI 2] w (aAy s' w):=DL 2 v s s' n z w hs hk hf hnm hz hno hcr (.inr ⟨rfl,hz2⟩)
theorem small1 (w:World):Calls prog 169 #[aB aI 1] w λev w'=>ev=aN (aF ⟨#[49]⟩)/\w=w':=by
 go_enter func169,ntmps169
 go_wp2
 go_ret
 exact⟨rfl,rfl⟩
theorem form1 (w:World):Calls prog 152 #[aB aI 1,aB aI 10] w λev w'=>ev=aN (aF ⟨#[49]⟩)/\w=w':=by
 go_enter func152,ntmps152
 go_wp2_with (go_at_call 169;refine(small1 _).mono ?_;rintro ev w' ⟨rfl,rfl⟩)
 go_ret
 exact⟨rfl,rfl⟩
theorem itoaI1 (w:World):Calls prog 134 #[aB aI 1] w λev w'=>ev=aN (aF ⟨#[49]⟩)/\w=w':=by
 go_enter func134,ntmps134
 go_wp2_with (go_at_call 152;refine(form1 _).mono ?_;rintro ev w' ⟨rfl,rfl⟩)
 go_ret
 exact⟨rfl,rfl⟩
theorem itoa1 (w:World):Calls prog 103 #[aB aI 1] w λev w'=>ev=aN (aF ⟨#[49]⟩)/\w=w':=by
 go_enter func103,ntmps103
 go_wp2_with (go_at_call 134;refine(itoaI1 _).mono ?_;rintro ev w' ⟨rfl,rfl⟩)
 go_ret
 exact⟨rfl,rfl⟩
theorem kname1 (w:World):Calls prog 51 #[aB aI 1] w λev w'=>ev=aN (aF ⟨#[107,49]⟩)/\w=w':=by
 go_enter func51,ntmps51
 go_wp2_with (go_at_call 103;refine(itoa1 _).mono ?_;rintro ev w' ⟨rfl,rfl⟩)
 go_ret
 exact⟨rfl,rfl⟩
theorem small2 (w:World):Calls prog 169 #[aB aI 2] w λev w'=>ev=aN (aF ⟨#[50]⟩)/\w=w':=by
 go_enter func169,ntmps169
 go_wp2
 go_ret
 exact⟨rfl,rfl⟩
theorem form2 (w:World):Calls prog 152 #[aB aI 2,aB aI 10] w λev w'=>ev=aN (aF ⟨#[50]⟩)/\w=w':=by
 go_enter func152,ntmps152
 go_wp2_with (go_at_call 169;refine(small2 _).mono ?_;rintro ev w' ⟨rfl,rfl⟩)
 go_ret
 exact⟨rfl,rfl⟩
theorem itoaI2 (w:World):Calls prog 134 #[aB aI 2] w λev w'=>ev=aN (aF ⟨#[50]⟩)/\w=w':=by
 go_enter func134,ntmps134
 go_wp2_with (go_at_call 152;refine(form2 _).mono ?_;rintro ev w' ⟨rfl,rfl⟩)
 go_ret
 exact⟨rfl,rfl⟩
theorem itoa2 (w:World):Calls prog 103 #[aB aI 2] w λev w'=>ev=aN (aF ⟨#[50]⟩)/\w=w':=by
 go_enter func103,ntmps103
 go_wp2_with (go_at_call 134;refine(itoaI2 _).mono ?_;rintro ev w' ⟨rfl,rfl⟩)
 go_ret
 exact⟨rfl,rfl⟩
theorem kname2 (w:World):Calls prog 51 #[aB aI 2] w λev w'=>ev=aN (aF ⟨#[107,50]⟩)/\w=w':=by
 go_enter func51,ntmps51
 go_wp2_with (go_at_call 103;refine(itoa2 _).mono ?_;rintro ev w' ⟨rfl,rfl⟩)
 go_ret
 exact⟨rfl,rfl⟩
theorem small4 (w:World):Calls prog 169 #[aB aI 4] w λev w'=>ev=aN (aF ⟨#[52]⟩)/\w=w':=by
 go_enter func169,ntmps169
 go_wp2
 go_ret
 exact⟨rfl,rfl⟩
theorem form4 (w:World):Calls prog 152 #[aB aI 4,aB aI 10] w λev w'=>ev=aN (aF ⟨#[52]⟩)/\w=w':=by
 go_enter func152,ntmps152
 go_wp2_with (go_at_call 169;refine(small4 _).mono ?_;rintro ev w' ⟨rfl,rfl⟩)
 go_ret
 exact⟨rfl,rfl⟩
theorem itoaI4 (w:World):Calls prog 134 #[aB aI 4] w λev w'=>ev=aN (aF ⟨#[52]⟩)/\w=w':=by
 go_enter func134,ntmps134
 go_wp2_with (go_at_call 152;refine(form4 _).mono ?_;rintro ev w' ⟨rfl,rfl⟩)
 go_ret
 exact⟨rfl,rfl⟩
theorem itoa4 (w:World):Calls prog 103 #[aB aI 4] w λev w'=>ev=aN (aF ⟨#[52]⟩)/\w=w':=by
 go_enter func103,ntmps103
 go_wp2_with (go_at_call 134;refine(itoaI4 _).mono ?_;rintro ev w' ⟨rfl,rfl⟩)
 go_ret
 exact⟨rfl,rfl⟩
theorem kname4 (w:World):Calls prog 51 #[aB aI 4] w λev w'=>ev=aN (aF ⟨#[107,52]⟩)/\w=w':=by
 go_enter func51,ntmps51
 go_wp2_with (go_at_call 103;refine(itoa4 _).mono ?_;rintro ev w' ⟨rfl,rfl⟩)
 go_ret
 exact⟨rfl,rfl⟩
theorem small8 (w:World):Calls prog 169 #[aB aI 8] w λev w'=>ev=aN (aF ⟨#[56]⟩)/\w=w':=by
 go_enter func169,ntmps169
 go_wp2
 go_ret
 exact⟨rfl,rfl⟩
theorem form8 (w:World):Calls prog 152 #[aB aI 8,aB aI 10] w λev w'=>ev=aN (aF ⟨#[56]⟩)/\w=w':=by
 go_enter func152,ntmps152
 go_wp2_with (go_at_call 169;refine(small8 _).mono ?_;rintro ev w' ⟨rfl,rfl⟩)
 go_ret
 exact⟨rfl,rfl⟩
theorem itoaI8 (w:World):Calls prog 134 #[aB aI 8] w λev w'=>ev=aN (aF ⟨#[56]⟩)/\w=w':=by
 go_enter func134,ntmps134
 go_wp2_with (go_at_call 152;refine(form8 _).mono ?_;rintro ev w' ⟨rfl,rfl⟩)
 go_ret
 exact⟨rfl,rfl⟩
theorem itoa8 (w:World):Calls prog 103 #[aB aI 8] w λev w'=>ev=aN (aF ⟨#[56]⟩)/\w=w':=by
 go_enter func103,ntmps103
 go_wp2_with (go_at_call 134;refine(itoaI8 _).mono ?_;rintro ev w' ⟨rfl,rfl⟩)
 go_ret
 exact⟨rfl,rfl⟩
theorem kname8 (w:World):Calls prog 51 #[aB aI 8] w λev w'=>ev=aN (aF ⟨#[107,56]⟩)/\w=w':=by
 go_enter func51,ntmps51
 go_wp2_with (go_at_call 103;refine(itoa8 _).mono ?_;rintro ev w' ⟨rfl,rfl⟩)
 go_ret
 exact⟨rfl,rfl⟩
theorem small16 (w:World):Calls prog 169 #[aB aI 16] w λev w'=>ev=aN (aF ⟨#[49,54]⟩)/\w=w':=by
 go_enter func169,ntmps169
 go_wp2
 go_ret
 exact⟨rfl,rfl⟩
theorem form16 (w:World):Calls prog 152 #[aB aI 16,aB aI 10] w λev w'=>ev=aN (aF ⟨#[49,54]⟩)/\w=w':=by
 go_enter func152,ntmps152
 go_wp2_with (go_at_call 169;refine(small16 _).mono ?_;rintro ev w' ⟨rfl,rfl⟩)
 go_ret
 exact⟨rfl,rfl⟩
theorem itoaI16 (w:World):Calls prog 134 #[aB aI 16] w λev w'=>ev=aN (aF ⟨#[49,54]⟩)/\w=w':=by
 go_enter func134,ntmps134
 go_wp2_with (go_at_call 152;refine(form16 _).mono ?_;rintro ev w' ⟨rfl,rfl⟩)
 go_ret
 exact⟨rfl,rfl⟩
theorem itoa16 (w:World):Calls prog 103 #[aB aI 16] w λev w'=>ev=aN (aF ⟨#[49,54]⟩)/\w=w':=by
 go_enter func103,ntmps103
 go_wp2_with (go_at_call 134;refine(itoaI16 _).mono ?_;rintro ev w' ⟨rfl,rfl⟩)
 go_ret
 exact⟨rfl,rfl⟩
theorem kname16 (w:World):Calls prog 51 #[aB aI 16] w λev w'=>ev=aN (aF ⟨#[107,49,54]⟩)/\w=w':=by
 go_enter func51,ntmps51
 go_wp2_with (go_at_call 103;refine(itoa16 _).mono ?_;rintro ev w' ⟨rfl,rfl⟩)
 go_ret
 exact⟨rfl,rfl⟩
theorem small32 (w:World):Calls prog 169 #[aB aI 32] w λev w'=>ev=aN (aF ⟨#[51,50]⟩)/\w=w':=by
 go_enter func169,ntmps169
 go_wp2
 go_ret
 exact⟨rfl,rfl⟩
theorem form32 (w:World):Calls prog 152 #[aB aI 32,aB aI 10] w λev w'=>ev=aN (aF ⟨#[51,50]⟩)/\w=w':=by
 go_enter func152,ntmps152
 go_wp2_with (go_at_call 169;refine(small32 _).mono ?_;rintro ev w' ⟨rfl,rfl⟩)
 go_ret
 exact⟨rfl,rfl⟩
theorem itoaI32 (w:World):Calls prog 134 #[aB aI 32] w λev w'=>ev=aN (aF ⟨#[51,50]⟩)/\w=w':=by
 go_enter func134,ntmps134
 go_wp2_with (go_at_call 152;refine(form32 _).mono ?_;rintro ev w' ⟨rfl,rfl⟩)
 go_ret
 exact⟨rfl,rfl⟩
theorem itoa32 (w:World):Calls prog 103 #[aB aI 32] w λev w'=>ev=aN (aF ⟨#[51,50]⟩)/\w=w':=by
 go_enter func103,ntmps103
 go_wp2_with (go_at_call 134;refine(itoaI32 _).mono ?_;rintro ev w' ⟨rfl,rfl⟩)
 go_ret
 exact⟨rfl,rfl⟩
theorem kname32 (w:World):Calls prog 51 #[aB aI 32] w λev w'=>ev=aN (aF ⟨#[107,51,50]⟩)/\w=w':=by
 go_enter func51,ntmps51
 go_wp2_with (go_at_call 103;refine(itoa32 _).mono ?_;rintro ev w' ⟨rfl,rfl⟩)
 go_ret
 exact⟨rfl,rfl⟩
theorem aBt (a:Option Addr)(n cap:Nat)(l:List Rg)(split least aAh:Nat)(w:World)(hn:l.length=n)(hr:Row w a (flat iI l))(hl:dM l=true)(h1:split<=256)(h2:split%16=0)(h3:least<=256)(h4:1<=aAh/\aAh<=4):
 Calls prog 48 #[aA a n cap,aB aI split,aB aI least,aB aI aAh] w λev w'=>∃c':Hc,ev=aN (aG #[.agg (c'.vals (newH l split least aAh)),aB aI 0])/\kR w' w.heap.size (newH l split least aAh) c'/\Below w.heap.size w w':=by
 obtain⟨K8,F8,hsz,hbw⟩:=boxes1 w #[aA aJ 0 0,aA aJ 0 0,aB aI 0,aA aJ 0 0,aA aJ 0 0] 39;have aOD:=zK hl;have HL:=gO hl;have HR:=gO (hr.below hbw);have HRW:=gO hr;have u:=gO hbw;clear hr hbw;go_enter func48,ntmps48
 go_upto_region 1 with fail
 generalize w.alloc _=w1 at*;go_wp2_with fail
 refine(AU a aJ n 0 cap 0 l [] w1 hn rfl (by omega) (by omega) HR.out (Row.nil _ _) (vG HL.out) (by simp) HL.out (by decide)).mono ?_;rintro ev w2 ⟨rfl,p⟩;have K8a:=aAp K8 hsz p;have F8a:=aAt F8 hsz p;have HR2:=gO (HR.out.below p);have HB2:=gO (gW u.out p);have O:w.heap.size<w2.heap.size:=gI hsz p.size;clear K8 F8 HR u p hsz;go_wp2_with fail
 refine(QT 0 split (split/8) w2 (gU _) h1 rfl h2 (by omega)).mono ?_;rintro ev w3 ⟨a2,c2,rfl,hz3,hb3⟩;have hX3:∀k,(k=w.heap.size∨k=w3.heap.size)->(k<w2.heap.size∨w3.heap.size<=k)/\k<=w3.heap.size:=λk hk=>by have:=hb3.size;omega
 have HZ:=gO (Pv (Z:=w.heap.size) hz3 (gR O) hX3);unfold Un at HZ;have K8b:=aAp K8a O hb3;have F8b:=aAt F8a O hb3;have HR3:=gO (HR2.out.below hb3);have HB3:=gO (gW HB2.out hb3);have P:w.heap.size<w3.heap.size:=gI O hb3.size;clear hX3;go_upto_region 4 with fail
 have hb4:=aAq w3 (aO #[aB aI (0:Nat),aB aI (split:Int),aA aJ 0 0,aA a2 (split/8) c2] 79);have K8c:=aAp K8b P hb4;have F8c:=aAt F8b P hb4;have HR4:=gO (HR3.out.below hb4);have HB4:=gO (gW HB3.out hb4);have qG:w.heap.size<(w3.alloc (aO #[aB aI (0:Nat),aB aI (split:Int),aA aJ 0 0,aA a2 (split/8) c2] 79)).heap.size:=gI P hb4.size;have hwB:w.heap.size<w3.heap.size:=P;obtain⟨c,aEf⟩:∃B,w3.heap.size=B:=⟨_,rfl⟩
 rw[aEf]at HZ hwB ⊢;clear HR3 HB3 HR2 HB2 K8a F8a K8b F8b O P hb4 hz3 hb3;change Hid (pI (w3.alloc (aO #[aB aI (0:Nat),aB aI (split:Int),aA aJ 0 0,aA a2 (split/8) c2] 79)) _ _ _ _ _ _ _ _ _ _)at HZ;rw[show(aB aI 0)=aB aI ((0:Nat):Int)from rfl];generalize w3.alloc _=w4 at*;go_wp2_with fail
 refine(QT split 256 ((256-split)/8) w4 h1 (gT _) h2 rfl rfl).mono ?_;rintro ev w5 ⟨a3,c3,rfl,hz5,hb5⟩;have hX5:∀k,(k=w.heap.size∨k=c∨k=w5.heap.size)->(k<w4.heap.size∨w5.heap.size<=k)/\k<=w5.heap.size:=λk hk=>by have:=hb5.size;have:=HZ.out.lt;omega
 have HY:=gO (Pv (Z:=w.heap.size) hz5 (gR qG) hX5);unfold Un at HY;have hb6:=aAq w5 (aO #[aB aI (split:Int),aB aI (256:Nat),aA aJ 0 0,aA a3 ((256-split)/8) c3] 79);have SH:=gW hb5 hb6;have K8d:=aAp K8c qG SH;have F8d:=aAt F8c qG SH;have HR6:=gO (HR4.out.below SH);have HB6:=gO (gW HB4.out SH);have HZ6:=gO (HZ.out.new (Y:=λk=>k=w.heap.size∨k=c∨k=w5.heap.size) SH (λk hk=>by have:=hb5.size;have:=hb6.size;simp at this;rcases hk with h | h | h;exact .inl (.inl h);exact .inl (.inr h);exact .inr (by simp;omega)));have VD:w.heap.size<(w5.alloc (aO #[aB aI (split:Int),aB aI (256:Nat),aA aJ 0 0,aA a3 ((256-split)/8) c3] 79)).heap.size:=gI qG SH.size;have aCK:c<w5.heap.size:=gI HZ.out.lt hb5.size;have hx1:decide ((least:Int)<0)=false:=gV (by omega);have hx2:decide ((256:Int)<least)=false:=gV (by omega);have hx3:decide ((aAh:Int)<1)=false:=gV (by omega);have hx4:decide ((4:Int)<aAh)=false:=gV (by omega);have hx5:decide (256<least)=false:=gV (by omega);have hx6:decide (aAh<1)=false:=gV (by omega);have hx7:decide (4<aAh)=false:=gV (by omega);go_upto_region 5 with fail
 obtain⟨d,aEg⟩:∃B,w5.heap.size=B:=⟨_,rfl⟩
 rw[aEg]at HY HZ6 aCK ⊢;clear HZ HR4 HB4 K8c F8c qG hb6 hz5 hb5 hX5 SH;change Hid (pI (w5.alloc (aO #[aB aI (split:Int),aB aI (256:Nat),aA aJ 0 0,aA a3 ((256-split)/8) c3] 79)) _ _ _ _ _ _ _ _ _ _)at HY;rw[show(aB aI 256)=aB aI ((256:Nat):Int)from rfl];generalize w5.alloc _=w6 at*;go_upto_region 7 with fail
 clear hx1 hx2 hx3 hx4 hx5 hx6 hx7 HR6;go_wp2_with fail
 go_loopw [57] (λs57 wr=>∃(i:Nat) (E C:Option Addr) (D q d1 A:Nat) (y1 y2:Option Addr) (k1 k2 e1 e2:Nat),i<=n/\s57=aB aI (i:Int)/\Hid (pI wr w.heap.size c (λk=>k=w.heap.size∨k=c∨k=d) E C D q d1 A (fZ split (l.take i)).1)/\Hid (pI wr w.heap.size d (λk=>k=w.heap.size∨k=c∨k=d) y1 y2 k1 k2 e1 e2 (fZ split (l.take i)).2)/\Hid (Below w.heap.size w wr)/\Hid (∀o,wr.cell? ⟨w.heap.size,o,aJ⟩=(#[aA aJ 0 0,aA aJ 0 0,aB aI 0,aA aJ 0 0,aA aJ 0 0]:Array Value)[o]?)/\Hid (∀o,wr.frozen? ⟨w.heap.size,o,aJ⟩=false)) (λs57 _=>n-(intOf s57).toNat)
 case atStart=>exact⟨0,_,_,_,_,_,_,_,_,_,_,_,_,gU _,rfl,HZ6,HY,HB6,K8d,F8d⟩
 case round=>
  obtain⟨i,E,C,D,q,d1,A,y1,y2,k1,k2,e1,e2,hi,rfl,y,K,nM,H,R⟩:=hrel;clear HZ6 HY HB6 K8d F8d VD;by_cases hlt:i<n
  ·have hil:i<l.length:=by omega
   have hlt2:(i:Int)<n:=by omega
   obtain⟨b,off,ha,hb,hc⟩:=aAw jX (by decide) (HRW.out.below nM.out) hil;obtain rfl:=ha;have NS:=gO (WA HL.out h1 h2 hil);have Xk:=gO (qY HL.out h1 h2 i (gR hil));have TT:=gO (Gs split l i hil);obtain⟨r,hrr⟩:∃r,l[i]=r:=⟨_,rfl⟩
   rw[hrr]at hc NS TT;have c0:=hc 0 _ rfl;have c1:=hc 1 _ rfl;simp only[vI,Nat.add_zero]at c0 c1;rw[NS.out.f]at c0;rw[NS.out.s]at c1;have hfs:=NS.out.fs;have hs1:=NS.out.s1;have hlo:=NS.out.lo;have aHi:r.lo split=min (r.f.toNat+r.s.toNat) split-r.f.toNat:=rfl;have aBv:=gO aHi;clear hc aHi hrr;generalize fZ split (l.take i)=z at*;obtain⟨F,hF⟩:∃F,r.f.toNat=F:=⟨_,rfl⟩
   obtain⟨S,hS⟩:∃S,r.s.toNat=S:=⟨_,rfl⟩
   rw[hF]at c0 hfs aBv;rw[hS]at c1 hfs hs1 hlo aBv;have HF:=gO hF;have HSS:=gO hS;clear hF hS;go_upto_region 11 with fail
   obtain⟨M,hM⟩:∃M:Int,(if(split:Int)<(F:Int)+(S:Int)then(split:Int)else(F:Int)+(S:Int))=M:=⟨_,rfl⟩
   have hL:(if(F:Int)<M then M-(F:Int)else 0)=((r.lo split:Nat):Int):=by
    rw[aBv.out,<- hM];by_cases q1:(split:Int)<(F:Int)+(S:Int)
    ·rw[if_pos q1];by_cases q2:(F:Int)<(split:Int)
     ·rw[if_pos q2];omega
     ·rw[if_neg q2];omega
    ·rw[if_neg q1];rw[if_pos (by omega)];omega
   rw[hM,hL];clear hL hM;have hbr:=aAq wr (aO #[aB aI (F:Int),aB aI (S:Int)] 133);have x:=gO (y.out.below hbr);have t:=gO (K.out.below hbr);have u:=gO (gW nM.out hbr);have hwr:w.heap.size<wr.heap.size:=y.out.xs _ (.inl rfl);have T:=gO (aAp H.out hwr hbr);have I:=gO (aAt R.out hwr hbr);have KR:Hid (∀o,(wr.alloc (aO #[aB aI (F:Int),aB aI (S:Int)] 133)).cell? ⟨wr.heap.size,o,aJ⟩=(#[aB aI (F:Int),aB aI (S:Int)]:Array Value)[o]?):=aQ wr _ _;have ZC:wr.heap.size<(wr.alloc (aO #[aB aI (F:Int),aB aI (S:Int)] 133)).heap.size:=by simp
   have aKy:c<wr.heap.size/\d<wr.heap.size:=⟨y.out.lt,K.out.lt⟩
   clear y K nM H R c0 c1 hb hbr;obtain⟨BR,hBR⟩:∃BR,wr.heap.size=BR:=⟨_,rfl⟩
   rw[hBR]at KR ZC aKy hwr ⊢;generalize wr.alloc _=w7 at*;obtain⟨L,Xl⟩:∃L,r.lo split=L:=⟨_,rfl⟩
   have HLL:=gO Xl;rw[Xl]at hlo ⊢;have hle:=NS.out.le;have hhi:=NS.out.hi;have hd0:=NS.out.d0;have hd1:=NS.out.d1;have hnx:=NS.out.next;unfold newStep at hnx;rw[HF.out,Xl]at hle hhi hd0 hd1 hnx;rw[HSS.out]at hhi hd1 hnx;have HD0:=gO hd0;have HD1:=gO hd1;have aOF:=gO hnx;have DT:Hid (fZ split (l.take (i+1))=(eX z.1 F L,eX z.2 (F+L) (S-L))):=by
    unfold Hid;rw[TT.out];unfold newStep;rw[HF.out,HSS.out,Xl]
   clear hd0 hd1 hnx Xl TT NS aBv HLL
   go_upto_if 73 with fail
   go_cut [] (λwx=>∃(E C:Option Addr) (D q d1 A:Nat),Hid (pI wx w.heap.size c (λk=>k=w.heap.size∨k=c∨k=d) E C D q d1 A (eX z.1 F L))/\Hid (pI wx w.heap.size d (λk=>k=w.heap.size∨k=c∨k=d) y1 y2 k1 k2 e1 e2 z.2)/\Hid (Below w.heap.size w wx)/\Hid (∀o,wx.cell? ⟨w.heap.size,o,aJ⟩=(#[aA aJ 0 0,aA aJ 0 0,aB aI 0,aA aJ 0 0,aA aJ 0 0]:Array Value)[o]?)/\Hid (∀o,wx.frozen? ⟨w.heap.size,o,aJ⟩=false)/\Hid (∀o,wx.cell? ⟨BR,o,aJ⟩=(#[aB aI (F:Int),aB aI (S:Int)]:Array Value)[o]?)/\BR<wx.heap.size)
   case first=>
    by_cases hL0:0<L
    ·have aKz:(0:Int)<L:=by omega
     have aHj:=hle hL0;obtain⟨q0,q1,q2,q3⟩:=x.out.cells;have u0:=KR.out 0;simp only[gB,gC]at u0;go_wp2_with fail
     refine(Pq E C D q d1 A z.1 F L w7 x.out.own.at Xk.out.o0 HD0.out (by rw[Xk.out.f0];exact gU _) (by rw[Xk.out.e0];exact aHj)).mono ?_;rintro ev w8 ⟨J,W,X,U,Q,rfl,ho8,j⟩;have HGF:=(oK Xk.out.o0 HD0.out (by rw[Xk.out.f0];exact gU _) (by rw[Xk.out.e0];exact aHj) L (gT _))
     have HZ2:=gO (x.out.put (.inr (.inl rfl)) (by omega) j ho8);rw[HGF.2.1,HGF.2.2.1]at HZ2;have hne:d≠c:=by omega
     have HY2:=gO (((t.out.below j).far4 (g:=c) (.inr (.inl rfl)) hne (aB aI z.1.f) (aB aI z.1.e) (aA J X U) (aA W q Q)));have hB:=x.out.below j;obtain⟨p0,p1,p2,p3⟩:=hB.cells;have g0:=hB.fz 0;have g1:=hB.fz 1;have g2:=hB.fz 2;have g3:=hB.fz 3;have aEf:=hB.lt;have m:w.heap.size≠c:=by omega
     have MB:BR≠c:=by omega
     have K82:=gO (aAc (aAc (aAc (aAc (aAp T.out (by omega) j) m 0 (aB aI z.1.f)) m 1 (aB aI z.1.e)) m 2 (aA J X U)) m 3 (aA W q Q));have F82:=gO (aAs (aAs (aAs (aAs (aAt I.out (by omega) j) ⟨c,0,aJ⟩ (aB aI z.1.f)) ⟨c,1,aJ⟩ (aB aI z.1.e)) ⟨c,2,aJ⟩ (aA J X U)) ⟨c,3,aJ⟩ (aA W q Q));have KR2:=gO (aAc (aAc (aAc (aAc (aAp KR.out ZC j) MB 0 (aB aI z.1.f)) MB 1 (aB aI z.1.e)) MB 2 (aA J X U)) MB 3 (aA W q Q));have AX:w.heap.size<=c:=gR hwB;have HB2:=gO (gS (gS (gS (gS (gW u.out j) c 0 AX (aB aI z.1.f)) c 1 AX (aB aI z.1.e)) c 2 AX (aA J X U)) c 3 AX (aA W q Q));have aCN:BR<((((w8.setCell ⟨c,0,aJ⟩ (aB aI z.1.f)).setCell ⟨c,1,aJ⟩ (aB aI z.1.e)).setCell ⟨c,2,aJ⟩ (aA J X U)).setCell ⟨c,3,aJ⟩ (aA W q Q)).heap.size:=by have:=j.size;simp;omega
     clear q0 q1 q2 q3 u0 hB ho8 j x t u T I KR HGF;go_wp2_with fail
     go_meet
     case rel=>exact⟨J,W,X,q,U,Q,HZ2,HY2,HB2,K82,F82,KR2,aCN⟩
    ·have aKz:¬(0:Int)<L:=by omega
     obtain rfl:L=0:=by omega
     go_wp2_with fail
     go_meet
     case rel=>exact⟨E,C,D,q,d1,A,x,t,u,T,I,KR,ZC⟩
   case rest=>
    obtain⟨E,C,D,q,d1,A,x,t,u,T,I,KR,ZC⟩:=hcut;have u1:=KR.out 1;simp only[gB,gC,gD]at u1
    go_upto_if 85 with fail
    clear hle;by_cases hSL:L<S
    ·have aKA:(L:Int)<S:=by omega
     have aHk:=hhi hSL;obtain⟨q0,q1,q2,q3⟩:=t.out.cells;have u0:=KR.out 0;simp only[gB,gC]at u0;have Jm:=Pq y1 y2 k1 k2 e1 e2 z.2 (F+L) (S-L) wc t.out.own.at Xk.out.o1 HD1.out (by rw[Xk.out.f1];exact aHk) (by rw[Xk.out.e1];omega);rw[show((F+L:Nat):Int)=(F:Int)+L from by omega,show((S-L:Nat):Int)=(S:Int)-L from by omega]at Jm;go_wp2_with fail
     refine Jm.mono ?_;rintro ev w9 ⟨J,W,X,U,Q,rfl,ho8,j⟩;have ho8:iH w9 wc.heap.size J W X k2 U Q (eX z.2 (F+L) (S-L)):=ho8;have HGF:=(oK Xk.out.o1 HD1.out (by rw[Xk.out.f1];exact aHk) (by rw[Xk.out.e1];omega) (S-L) (gT _))
     have HY2:=gO (t.out.put (.inr (.inr rfl)) (by omega) j ho8);rw[HGF.2.1,HGF.2.2.1]at HY2;have hne:c≠d:=by omega
     have HZ2:=gO (((x.out.below j).far4 (g:=d) (.inr (.inr rfl)) hne (aB aI z.2.f) (aB aI z.2.e) (aA J X U) (aA W k2 Q)));have hB:=t.out.below j;obtain⟨p0,p1,p2,p3⟩:=hB.cells;have g0:=hB.fz 0;have g1:=hB.fz 1;have g2:=hB.fz 2;have g3:=hB.fz 3;have aEg:=hB.lt;have m:w.heap.size≠d:=by omega
     have MB:BR≠d:=by omega
     have K82:=gO (aAc (aAc (aAc (aAc (aAp T.out (by omega) j) m 0 (aB aI z.2.f)) m 1 (aB aI z.2.e)) m 2 (aA J X U)) m 3 (aA W k2 Q));have F82:=gO (aAs (aAs (aAs (aAs (aAt I.out (by omega) j) ⟨d,0,aJ⟩ (aB aI z.2.f)) ⟨d,1,aJ⟩ (aB aI z.2.e)) ⟨d,2,aJ⟩ (aA J X U)) ⟨d,3,aJ⟩ (aA W k2 Q));have KR2:=gO (aAc (aAc (aAc (aAc (aAp KR.out ZC j) MB 0 (aB aI z.2.f)) MB 1 (aB aI z.2.e)) MB 2 (aA J X U)) MB 3 (aA W k2 Q));have AX:w.heap.size<=d:=gR (Nat.lt_trans hwB aCK);have HB2:=gO (gS (gS (gS (gS (gW u.out j) d 0 AX (aB aI z.2.f)) d 1 AX (aB aI z.2.e)) d 2 AX (aA J X U)) d 3 AX (aA W k2 Q));have aCN:BR<((((w9.setCell ⟨d,0,aJ⟩ (aB aI z.2.f)).setCell ⟨d,1,aJ⟩ (aB aI z.2.e)).setCell ⟨d,2,aJ⟩ (aA J X U)).setCell ⟨d,3,aJ⟩ (aA W k2 Q)).heap.size:=by have:=j.size;simp;omega
     clear q0 q1 q2 q3 u0 hB ho8 j t x u T I KR HGF Jm;go_wp2_with fail
     go_roundw
     case rel=>first | exact⟨i+1,E,C,D,q,d1,A,J,W,X,k2,U,Q,by omega,by go_num,by rw[DT.out];exact HZ2,by rw[DT.out];exact HY2,HB2,K82,F82⟩ | ((repeat apply Exists.intro);exact⟨⟨i+1,E,C,D,q,d1,A,J,W,X,k2,U,Q,by omega,by go_num,by rw[DT.out];exact HZ2,by rw[DT.out];exact HY2,HB2,K82,F82⟩,rfl⟩)
     case measure=>simp[intOf];omega
    ·have aKA:¬(L:Int)<S:=by omega
     have aHl:S-L=0:=by omega
     go_wp2_with fail
     go_roundw
     case rel=>first | exact⟨i+1,E,C,D,q,d1,A,y1,y2,k1,k2,e1,e2,by omega,by go_num,by rw[DT.out];exact x,by rw[DT.out];rw[aHl];exact t,u,T,I⟩ | ((repeat apply Exists.intro);exact⟨⟨i+1,E,C,D,q,d1,A,y1,y2,k1,k2,e1,e2,by omega,by go_num,by rw[DT.out];exact x,by rw[DT.out];rw[aHl];exact t,u,T,I⟩,rfl⟩)
     case measure=>simp[intOf];omega
  ·obtain rfl:i=n:=by omega
   have e:l.take i=l:=gTf (by omega);rw[e]at y K;obtain⟨p0,p1,p2,p3⟩:=y.out.cells;obtain⟨q0,q1,q2,q3⟩:=K.out.cells;have k80:=H.out 0;have k81:=H.out 1;have k82:=H.out 2;have k83:=H.out 3;have k84:=H.out 4;have f80:=R.out 0;have f81:=R.out 1;have f82:=R.out 2;have f83:=R.out 3;have f84:=R.out 4;simp only[gB,gC,gD]at k80 k81 k82 k83 k84;have aEf:=y.out.lt;have aEg:=K.out.lt;have hwr:w.heap.size<wr.heap.size:=y.out.xs _ (.inl rfl);have Px:c≠w.heap.size:=by omega
   have Py:d≠w.heap.size:=by omega
   obtain⟨V0,hV0⟩:∃V:Value,V=aA (aK ⟨wr.heap.size,0,aJ⟩) 2 2:=⟨_,rfl⟩
   obtain⟨V1,hV1⟩:∃V:Value,V=aA (aK ⟨wr.heap.size+1,0,aJ⟩) 2 2:=⟨_,rfl⟩
   have HZ5:=gO (((((y.out.far (.inl rfl) Px 0 V0).far (.inl rfl) Px 1 V1).far (.inl rfl) Px 2 (aB aI (aAh:Int))).far (.inl rfl) Px 3 (aA aJ 0 0)).far (.inl rfl) Px 4 (aA aJ 0 0));have HY5:=gO (((((K.out.far (.inl rfl) Py 0 V0).far (.inl rfl) Py 1 V1).far (.inl rfl) Py 2 (aB aI (aAh:Int))).far (.inl rfl) Py 3 (aA aJ 0 0)).far (.inl rfl) Py 4 (aA aJ 0 0));have K5:=gO (aAr (aAr (aAr (aAr (aAr H.out 0 V0) 1 V1) 2 (aB aI (aAh:Int))) 3 (aA aJ 0 0)) 4 (aA aJ 0 0));have HB5:=gO (gS (gS (gS (gS (gS nM.out w.heap.size 0 (gT _) V0) w.heap.size 1 (gT _) V1) w.heap.size 2 (gT _) (aB aI (aAh:Int))) w.heap.size 3 (gT _) (aA aJ 0 0)) w.heap.size 4 (gT _) (aA aJ 0 0));have iL:Hid ((((((wr.setCell ⟨w.heap.size,0,aJ⟩ V0).setCell ⟨w.heap.size,1,aJ⟩ V1).setCell ⟨w.heap.size,2,aJ⟩ (aB aI (aAh:Int))).setCell ⟨w.heap.size,3,aJ⟩ (aA aJ 0 0)).setCell ⟨w.heap.size,4,aJ⟩ (aA aJ 0 0)).heap.size=wr.heap.size):=by simp[Hid]
   have HV0:=gO hV0;have HV1:=gO hV1;clear hV0 hV1 y K H R nM;go_wp2
   rw[<- HV0.out,<- HV1.out];generalize ((((wr.setCell _ _).setCell _ _).setCell _ _).setCell _ _).setCell _ _=W5 at*;have hs:=iL.out;have hb1:=aAq W5 (.cells (flat nK [⟨(fZ split l).1,E,C,D,q,d1,A⟩,⟨(fZ split l).2,y1,y2,k1,k2,e1,e2⟩]).toArray 79);have p:=aAq (W5.alloc (.cells (flat nK [⟨(fZ split l).1,E,C,D,q,d1,A⟩,⟨(fZ split l).2,y1,y2,k1,k2,e1,e2⟩]).toArray 79)) (.cells (flat iF [least,least]).toArray 3);have r1:((W5.alloc (.cells (flat nK [⟨(fZ split l).1,E,C,D,q,d1,A⟩,⟨(fZ split l).2,y1,y2,k1,k2,e1,e2⟩]).toArray 79)).alloc (.cells (flat iF [least,least]).toArray 3)).ownsRow 0 79 4 (aA (aK ⟨wr.heap.size,0,aJ⟩) 2 2) 2 (flat nK [⟨(fZ split l).1,E,C,D,q,d1,A⟩,⟨(fZ split l).2,y1,y2,k1,k2,e1,e2⟩]):=by
    rw[<- hs];exact own_below (Uo W5 (gU _) rfl (by decide)) p (gT _)
   have r2:((W5.alloc (.cells (flat nK [⟨(fZ split l).1,E,C,D,q,d1,A⟩,⟨(fZ split l).2,y1,y2,k1,k2,e1,e2⟩]).toArray 79)).alloc (.cells (flat iF [least,least]).toArray 3)).ownsRow 0 3 1 (aA (aK ⟨wr.heap.size+1,0,aJ⟩) 2 2) 2 (flat iF [least,least]):=by
    rw[show wr.heap.size+1=(W5.alloc (.cells (flat nK [⟨(fZ split l).1,E,C,D,q,d1,A⟩,⟨(fZ split l).2,y1,y2,k1,k2,e1,e2⟩]).toArray 79)).heap.size by simp[hs]];exact Uo _ (gU _) rfl (by decide)
   have t0:=(HZ5.out.below hb1).below p;have t1:=(HY5.out.below hb1).below p;have t0l:=HZ5.out.own;have t1l:=HY5.out.own;have HRX:=aBs r1 r2 t0.own t1.own (G:=w.heap.size) (N:=wr.heap.size) t0l t1l hs (HZ5.out.ne _ (.inl rfl)) (HY5.out.ne _ (.inl rfl)) hwr (by have h9:=hb1.size;have h8:=p.size;omega) (newH l split least aAh) rfl rfl rfl rfl rfl rfl;have KX:=aAp (aAp K5.out (by omega) hb1) (by have:=hb1.size;omega) p;have jA:=gW (gW HB5.out hb1) p;have hwx:∃wx,wx=(W5.alloc (.cells (flat nK [⟨(fZ split l).1,E,C,D,q,d1,A⟩,⟨(fZ split l).2,y1,y2,k1,k2,e1,e2⟩]).toArray 79)).alloc (.cells (flat iF [least,least]).toArray 3):=⟨_,rfl⟩
   obtain⟨wx,hwx⟩:=hwx;rw[<- hwx]at HRX KX jA;change wx=(W5.alloc (aO #[aB aI ((fZ split l).1.f:Int),aB aI ((fZ split l).1.e:Int),aA E D d1,aA C q A,aB aI ((fZ split l).2.f:Int),aB aI ((fZ split l).2.e:Int),aA y1 k1 e1,aA y2 k2 e2] 79)).alloc (aO #[aB aI (least:Int),aB aI (least:Int)] 3)at hwx;rw[<- hwx];change ∀o,wx.cell? ⟨w.heap.size,o,aJ⟩=(#[V0,V1,aB aI (aAh:Int),aA aJ 0 0,aA aJ 0 0]:Array Value)[o]? at KX;clear hwx hb1 p;refine bodyPost_ret (v:=aG #[aC #[V0,V1,aB aI (aAh:Int),aA aJ 0 0,aA aJ 0 0],aB aI 0]) (by simp[results,results48,go_sem,KX]) rfl ⟨⟨aK ⟨wr.heap.size,0,aJ⟩,2,aK ⟨wr.heap.size+1,0,aJ⟩,2,aJ,0,aJ,0,⟨(fZ split l).1,E,C,D,q,d1,A⟩,⟨(fZ split l).2,y1,y2,k1,k2,e1,e2⟩,[]⟩,?_,HRX,jA⟩;rw[HV0.out,HV1.out];rfl
theorem aBw (k:Nat):List.replicate k (aB aI 0)=(List.replicate k (0:Int)).map vI:=by
 rw[List.map_replicate];rfl
theorem WB (w:World):Calls prog 49 #[aB aI 256] w λev w'=>∃(a':Option Addr) (c':Nat),ev=aN (aG #[aA a' 4096 c',aB aI 0])/\w'.ownsRow w.heap.size 3 1 (aA a' 4096 c') 4096 ((List.replicate 4096 (0:Int)).map vI)/\Below w.heap.size w w':=by
 obtain⟨f,i,j,c,e⟩:=info_parts lM;go_enter func49,ntmps49
 go_wp2_with (at_make;refine wpList_make_full _ rfl _ _ 34 rfl w.heap.size 3 f (aB aI 0) 1 underlying34 i j c .i64 .i64 _ _ 4096 rfl rfl rfl rfl ?q1 ?q2 ?q3 ?_)
 case q1=>rw[e];decide
 case q2=>unfold maxLen;omega
 case q3=>exact gT _
 intro k a b;rw[toList_madeCells_one,aBw]at a;have g:=gO a;have d:=(gX w.heap.size w).grown b (gT _) (by simp);have h:=gO d;clear a d b;go_wp2
 exact bodyPost_ret (v:=aG #[aA (aK ⟨w.heap.size,0,aJ⟩) 4096 4096,aB aI 0]) (by simp[results,results49,go_sem]) rfl ⟨_,_,rfl,g.out,h.out⟩
structure yD (w:World):Prop where
 sz:0<w.heap.size
 c:∀i v,(#[aB aI 1,aB aI 2,aB aI 4,aB aI 8,aB aI 16,aB aI 32]:Array Value)[i]? =aK v->w.cell? ⟨0,i,aJ⟩=aK v
theorem yD.below {w w':World}(h:yD w)(hb:Below w.heap.size w w'):yD w':=
 ⟨gI h.sz hb.size,λi v a=>(hb.cell (p:=⟨0,i,aJ⟩) h.sz).trans (h.c i v a)⟩
theorem SI (hj:j<6)(w:World):Calls prog 51 #[aB aI (([1,2,4,8,16,32].getD j 0:Nat):Int)] w λev w'=>ev=aN (aF ⟨(kN ([1,2,4,8,16,32].getD j 0)).toArray⟩)/\w=w':=by
 obtain rfl | rfl | rfl | rfl | rfl | rfl:j=0∨j=1∨j=2∨j=3∨j=4∨j=5:=by omega
 ·exact kname1 w
 ·exact kname2 w
 ·exact kname4 w
 ·exact kname8 w
 ·exact kname16 w
 ·exact kname32 w
theorem Ju {h:Hp}(hk:eY h):∀j,j<=6->bQ (dK h j)
 | 0,_=>NI hk
 | j+1,hj=>by
  obtain⟨h1,h2,h3⟩:=yZ h (j:=j) (by omega);have a:1<=[1,2,4,8,16,32].getD j 0/\[1,2,4,8,16,32].getD j 0<=64:=by
   obtain rfl | rfl | rfl | rfl | rfl | rfl:j=0∨j=1∨j=2∨j=3∨j=4∨j=5:=by omega
   all_goals decide
  exact((Ju hk j (by omega)).create h3 a h1 h2).1
theorem Pz (h:Hp)(j:Nat):∀c∈(dK h j).cs,c.ns.length<=999:=λc a=>by
 unfold dK at a;obtain⟨k,_,rfl⟩:=List.mem_map.1 a;show[kN k].length<=999;simp
theorem ZE (hj:j<6)(w:World):(Instr.index 118 (aC #[aB aI 1,aB aI 2,aB aI 4,aB aI 8,aB aI 16,aB aI 32]) (aB aI (j:Int))).run prog w= .ok (aB aI (([1,2,4,8,16,32].getD j 0:Nat):Int)) w:=by
 obtain rfl | rfl | rfl | rfl | rfl | rfl:j=0∨j=1∨j=2∨j=3∨j=4∨j=5:=by omega
 all_goals kernel_rfl
def DU (h:Hp)(w:World)(ev:Ending)(w':World):Prop:=∃a,ev=aN (aG #[.agg (a.vals (dK h 6)),aB aI 0])/\fO w' w.heap.size (dK h 6) a/\Below w.heap.size w w'
theorem Ur (m1 m2:Option Addr)(n1 n2 d1 d2:Nat)(b:Bt)(split least aAh:Nat)(w:World)(hbt:vZ w m1 m2 n1 n2 b)(hm:dM b.m=true)(hrr:dM b.r=true)(hfr:dM (iJ b)=true)(h1:split<=256)(h2:split%16=0)(h3:least<=256)(h4:1<=aAh/\aAh<=4)(hsz:yD w):
 Calls prog 20 #[aC #[aA m1 n1 d1,aA m2 n2 d2,aB aI (split:Int),aB aI (least:Int),aB aI (aAh:Int)]] w (DU (newH (iJ b) split least aAh) w):=by
 obtain⟨K1,K2,F1,F2,hsb,hbw⟩:=boxes2 w #[aA m1 n1 d1,aA m2 n2 d2,aB aI (split:Int),aB aI (least:Int),aB aI (aAh:Int)] 29 #[aA aJ 0 0,aA aJ 0 0,aA aJ 0 0,aB aI 0,aA aJ 0 0,aA aJ 0 0,aA aJ 0 0] 42;have YS:=gO (hbt.below hbw);have iL:=gO hsz;have HB1:=gO hbw;have wB:=gO hfr;have HM:=gO hm;have HRR:=gO hrr;have HH4:=gO h4;obtain⟨hk0,hc0⟩:=Me hfr h1 h2 h3 h4;have HK0:=gO hk0;have HK1:=gO K1;have HK2:=gO K2;have HF2:=gO F2;have K:w.heap.size<((w.alloc (aO #[aA m1 n1 d1,aA m2 n2 d2,aB aI (split:Int),aB aI (least:Int),aB aI (aAh:Int)] 29)).alloc (aO #[aA aJ 0 0,aA aJ 0 0,aA aJ 0 0,aB aI 0,aA aJ 0 0,aA aJ 0 0,aA aJ 0 0] 42)).heap.size:=by omega
 have Q:=K1 0;have k1:=K1 1;simp only[gB,gC,gD]at Q k1;clear hbt hsz hbw hfr hm hrr h4 hk0 hc0 K1 K2 F1 F2;go_enter func20,ntmps20
 go_upto_region 1 with fail
 generalize (w.alloc _).alloc _=w2 at*;go_upto_region 4 with (go_at_call 47;refine(Wy m1 m2 n1 n2 d1 d2 b w2 YS.out HM.out HRR.out).mono ?_;rintro L w3 ⟨aR,cR,rfl,hoR,hb3⟩)
 have Ox:=gO (aV hoR);have H:=gO hb3;have F:=aAp HK1.out K hb3;have k2:=F 2;have M:=F 3;have O:=F 4;simp only[gB,gC,gD]at k2 M O;clear Q k1 F hoR hb3;go_upto_region 7 with (go_at_call 48;refine(aBt aR (iJ b).length cR (iJ b) split least aAh w3 rfl Ox.out wB.out h1 h2 h3 HH4.out).mono ?_;rintro L w4 ⟨d,he,hn4,hb4⟩;unfold Hc.vals at he;subst he)
 have HN4:=gO hn4;have HB4:=gO (gW H.out hb4);clear k2 M O hn4 hb4;have bA:=aAq w4 (aO #[aA d.az 2 d.cz,aA d.am 2 d.cm,aB aI ((newH (iJ b) split least aAh).aAh:Int),aA d.al d.lc.length d.cl,aA d.av (newH (iJ b) split least aAh).live.length d.cv] 39);have K6:=aQ w4 #[aA d.az 2 d.cz,aA d.am 2 d.cm,aB aI ((newH (iJ b) split least aAh).aAh:Int),aA d.al d.lc.length d.cl,aA d.av (newH (iJ b) split least aAh).live.length d.cv] 39;have s46:w4.heap.size<(w4.alloc (aO #[aA d.az 2 d.cz,aA d.am 2 d.cm,aB aI ((newH (iJ b) split least aAh).aAh:Int),aA d.al d.lc.length d.cl,aA d.av (newH (iJ b) split least aAh).live.length d.cv] 39)).heap.size:=by simp
 have HKH:=gO K6;have HB5:=gO (gW HB4.out bA);have A:=gO (HR.below HN4.out bA);have aKB:=H.out.size;clear K6 bA;generalize hh:newH (iJ b) split least aAh=h at*;clear hh;go_upto_region 8 with (go_at_call 49;refine(WB _).mono ?_;rintro L B ⟨X,cw,rfl,Y,D⟩)
 have K66:=aAp HKH.out s46 D;obtain⟨Q,k1,k2,M,O⟩:=gA5 K66;clear K66;go_upto_region 9 with fail
 have b7:=aAq B (aO #[aA X 4096 cw,aA d.az 2 d.cz,aA d.am 2 d.cm,aB aI (h.aAh:Int),aA d.al d.lc.length d.cl,aA d.av h.live.length d.cv,aA aJ 0 0] 42);have aKC:=D.size;have hs2:=HB1.out.size;have aKD:=H.out.size;have aKE:=HB5.out.size;have s67:B.heap.size<(B.alloc (aO #[aA X 4096 cw,aA d.az 2 d.cz,aA d.am 2 d.cm,aB aI (h.aAh:Int),aA d.al d.lc.length d.cl,aA d.av h.live.length d.cv,aA aJ 0 0] 42)).heap.size:=by simp
 have C:∀q∈d.rows h++d.reads h,∀k,q.v.ownBlock=aK k->w3.heap.size<=k/\k<(w4.alloc (aO #[aA d.az 2 d.cz,aA d.am 2 d.cm,aB aI (h.aAh:Int),aA d.al d.lc.length d.cl,aA d.av h.live.length d.cv] 39)).heap.size:=λq E k e=>by
  refine⟨?_,HR.lt A.out q E k e⟩;rcases gZ.1 E with E | E
  ·exact Nat.le_of_not_lt (A.out.og q E k e).2
  ·exact Nat.le_of_not_lt (A.out.rx q E k e)
 have hstart:SR (B.alloc (aO #[aA X 4096 cw,aA d.az 2 d.cz,aA d.am 2 d.cm,aB aI (h.aAh:Int),aA d.al d.lc.length d.cl,aA d.av h.live.length d.cv,aA aJ 0 0] 42)) B.heap.size (λk=>k<w.heap.size+2) ⟨List.replicate 4096 0,h,[]⟩ ⟨X,4096,cw,d,aJ,0,[]⟩:=
  SR.start (own_base (own_below Y b7 (gT _)) (gU _)) ((HR.below (HR.below A.out D) b7).any s67 (λq E k e=>by
   have:=C q E k e;omega) (λk hk=>by omega) (by omega)) λg e=>by
   have h9:=Y.lt g e;refine⟨by omega,by omega,λq E e2=> ?_⟩;have:=C q E g e2;omega
 have HS7:Hid (SS (B.alloc (aO #[aA X 4096 cw,aA d.az 2 d.cz,aA d.am 2 d.cm,aB aI (h.aAh:Int),aA d.al d.lc.length d.cl,aA d.av h.live.length d.cv,aA aJ 0 0] 42)) B.heap.size (λk=>k<w.heap.size+2) (dK h 0) ⟨X,4096,cw,d,aJ,0,[]⟩):=⟨hstart,aQ _ _ _,eG _ _ _⟩
 have G:Below w2.heap.size w2 (B.alloc (aO #[aA X 4096 cw,aA d.az 2 d.cz,aA d.am 2 d.cm,aB aI (h.aAh:Int),aA d.al d.lc.length d.cl,aA d.av h.live.length d.cv,aA aJ 0 0] 42)):=gW HB5.out (gW D b7);have HR7:=gO (aAp HK2.out hsb G);have HU7:=gO (aAt HF2.out hsb G);have HB7:=gO (HB1.out.trans (G.mono hs2));have u:=iL.out.below HB7.out;have z0:=u.c 0 _ rfl;have z1:=u.c 1 _ rfl;have z2:=u.c 2 _ rfl;have z3:=u.c 3 _ rfl;have z4:=u.c 4 _ rfl;have z5:=u.c 5 _ rfl;have aOJ:w.heap.size+1<B.heap.size:=by omega
 clear b7 G hstart C Y D Q k1 k2 M O HKH A HN4 HB4 HB5 H Ox YS u HK1 HK2 HF2 HB1 s46 aKB aKC aKD aKE K;generalize (B.alloc _)=w7 at*;generalize B.heap.size=p at*;go_wp2_with fail
 clear z0 z1 z2 z3 z4 z5;go_loopw [45] (λS wr=>∃(j:Nat) (f:Sc),j<=6/\S=aB aI (j:Int)/\Hid (SS wr p (λk=>k<w.heap.size+2) (dK h j) f)/\Hid (∀o,wr.cell? ⟨w.heap.size+1,o,aJ⟩=(#[aA aJ 0 0,aA aJ 0 0,aA aJ 0 0,aB aI 0,aA aJ 0 0,aA aJ 0 0,aA aJ 0 0]:Array Value)[o]?)/\Hid (∀o,wr.frozen? ⟨w.heap.size+1,o,aJ⟩=false)/\Hid (Below w.heap.size w wr)) (λS _=>6-(intOf S).toNat)
 case atStart=>exact⟨0,_,gU _,rfl,HS7,HR7,HU7,HB7⟩
 case round=>
  obtain⟨j,f,hj,rfl,n,i,RI,rM⟩:=hrel;clear HS7 HR7 HU7 HB7;by_cases V:j<6
  ·have hji:(j:Int)<6:=by omega
   obtain⟨z,hz⟩:∃z,[1,2,4,8,16,32].getD j 0=z:=⟨_,rfl⟩
   have HZ:=gO hz;clear hz;have P:=ZE V wr;rw[HZ.out]at P;go_upto_region 12 with fail
   obtain⟨U,hcr,T⟩:=yZ h V;rw[HZ.out]at U hcr T;have aKF:1<=z/\z<=64:=by
    rw[<- HZ.out];obtain rfl | rfl | rfl | rfl | rfl | rfl:j=0∨j=1∨j=2∨j=3∨j=4∨j=5:=by omega
    all_goals decide
   have hd:=(gX wr.heap.size wr).drew;have s:=gO (n.out.below hd);have HRd:=gO (aAp i.out (show w.heap.size+1<wr.heap.size by have:=n.out.r.hr.xs (w.heap.size+1) (by show w.heap.size+1<w.heap.size+2;omega);exact this) hd);have HUd:=gO (aAt RI.out (show w.heap.size+1<wr.heap.size by have:=n.out.r.hr.xs (w.heap.size+1) (by show w.heap.size+1<w.heap.size+2;omega);exact this) hd);have HBd:=gO (rM.out.trans (hd.mono (show w.heap.size<=wr.heap.size from rM.out.size)));have hwd:w.heap.size<=wr.drew.heap.size:=HBd.out.size;have VX:Hid (∀W,Calls prog 51 #[aB aI (z:Int)] W λL w'=>L=aN (aF ⟨(kN z).toArray⟩)/\W=w'):=λW=>by
    have h9:=SI V W;rw[HZ.out]at h9;exact h9
   have HCR:Hid (Calls prog 50 #[aC #[aA f.a1 f.n1 f.c1,aA f.hc.az 2 f.hc.cz,aA f.hc.am 2 f.hc.cm,aB aI (h.aAh:Int),aA f.hc.al f.hc.lc.length f.hc.cl,aA f.hc.av h.live.length f.hc.cv,aA f.a2 f.ys.length f.c2],aF ⟨(kN z).toArray⟩,aB aI z,aB aI 1] wr.drew λL w'=>∃a,L=aN (aG #[aC #[aA a.a1 a.n1 a.c1,aA a.hc.az 2 a.hc.cz,aA a.hc.am 2 a.hc.cm,aB aI (h.aAh:Int),aA a.hc.al a.hc.lc.length a.hc.cl,aA a.hc.av h.live.length a.hc.cv,aA a.a2 a.ys.length a.c2],aB aI 0])/\fO w' wr.drew.heap.size (dK h (j+1)) a/\Below wr.drew.heap.size wr.drew w'):=
    Gj f (dK h j) (dK h (j+1)) (kN z) z wr.drew s.out.r.at (Ju HK0.out j (by omega)) (Pz h j) T aKF U hcr
   have Q:=n.out.k 0;have k1:=n.out.k 1;have k2:=n.out.k 2;have M:=n.out.k 3;have O:=n.out.k 4;have k5:=n.out.k 5;have k6:=n.out.k 6;unfold Sc.vals dK at Q k1 k2 M O k5 k6;simp only[gB,gC,gD]at Q k1 k2 M O k5 k6;have Z:p<wr.drew.heap.size:=s.out.r.hr.gs;have ZF:=s.out.r.hr.xg;have x:w.heap.size<=p:=Nat.le_of_not_lt λh9=>ZF (by show p<w.heap.size+2;omega)
   have htd:w.heap.size+1<wr.drew.heap.size:=s.out.r.hr.xs (w.heap.size+1) (by show w.heap.size+1<w.heap.size+2;omega);have SK:w.heap.size+1≠p:=λe=>ZF (by show p<w.heap.size+2;omega)
   have KD:=gO s.out.k;have FD:=gO s.out.fz;clear hd U hcr T P ZF n i RI rM;go_region_law (first | (go_simp;go_at_call 51;refine(VX.out _).mono ?_;rintro L wn ⟨rfl,rfl⟩) | (go_simp;go_at_call 50;refine HCR.out.mono ?_;rintro L w5 ⟨a,rfl,R,y⟩;have J:=aAp KD.out Z y;have I:=aAt FD.out Z y;have y0:=J 0;have y1:=J 1;have y2:=J 2;have y3:=J 3;have y4:=J 4;have y5:=J 5;have y6:=J 6;have f0:=I 0;have f1:=I 1;have f2:=I 2;have f3:=I 3;have f4:=I 4;have f5:=I 5;have f6:=I 6;unfold Sc.vals dK at y0 y1 y2 y3 y4 y5 y6;simp only[gB,gC,gD]at y0 y1 y2 y3 y4 y5 y6;have HK5:=gO J;have HF5:=gO I;clear J I))
   all_goals
    have nH:SR w5 p (λk=>k<w.heap.size+2) (dK h (j+1)) a:=SR.lift R Z (λk hk=>s.out.r.hr.xs k hk) s.out.r.hr.xg;have N:=SS.put7 nH (a0:=aA f.a1 f.n1 f.c1) (a1:=aA f.hc.az 2 f.hc.cz) (a2:=aA f.hc.am 2 f.hc.cm) (a3:=aB aI (h.aAh:Int)) (a4:=aA f.hc.al f.hc.lc.length f.hc.cl) (a5:=aA f.hc.av h.live.length f.hc.cv) (a6:=aA f.a2 f.ys.length f.c2) HK5.out HF5.out;have HS6:=gO N;have R0:=aAp HRd.out htd y;have U0:=aAt HUd.out htd y;have R1:=aAc R0 SK 0 (aA a.a1 a.n1 a.c1);have U1:=aAs U0 ⟨p,0,aJ⟩ (aA a.a1 a.n1 a.c1);have R2:=aAc R1 SK 1 (aA a.hc.az 2 a.hc.cz);have U2:=aAs U1 ⟨p,1,aJ⟩ (aA a.hc.az 2 a.hc.cz);have R3:=aAc R2 SK 2 (aA a.hc.am 2 a.hc.cm);have U3:=aAs U2 ⟨p,2,aJ⟩ (aA a.hc.am 2 a.hc.cm);have R4:=aAc R3 SK 3 (aB aI (h.aAh:Int));have U4:=aAs U3 ⟨p,3,aJ⟩ (aB aI (h.aAh:Int));have R5:=aAc R4 SK 4 (aA a.hc.al a.hc.lc.length a.hc.cl);have U5:=aAs U4 ⟨p,4,aJ⟩ (aA a.hc.al a.hc.lc.length a.hc.cl);have R6:=aAc R5 SK 5 (aA a.hc.av h.live.length a.hc.cv);have U6:=aAs U5 ⟨p,5,aJ⟩ (aA a.hc.av h.live.length a.hc.cv);have R7:=aAc R6 SK 6 (aA a.a2 a.ys.length a.c2);have U7:=aAs U6 ⟨p,6,aJ⟩ (aA a.a2 a.ys.length a.c2);have HR6:=gO R7;have HU6:=gO U7;have HB6:=gO (gS (gS (gS (gS (gS (gS (gS (HBd.out.trans (y.mono hwd)) p 0 x (aA a.a1 a.n1 a.c1)) p 1 x (aA a.hc.az 2 a.hc.cz)) p 2 x (aA a.hc.am 2 a.hc.cm)) p 3 x (aB aI (h.aAh:Int))) p 4 x (aA a.hc.al a.hc.lc.length a.hc.cl)) p 5 x (aA a.hc.av h.live.length a.hc.cv)) p 6 x (aA a.a2 a.ys.length a.c2));clear nH N y0 y1 y2 y3 y4 y5 y6 f0 f1 f2 f3 f4 f5 f6 HK5 HF5 R0 R1 R2 R3 R4 R5 R6 R7 U0 U1 U2 U3 U4 U5 U6 U7 R y Q k1 k2 M O k5 k6 s HRd HUd HBd KD FD HCR VX;go_wp2
    go_roundw
    case rel=>exact⟨j+1,a,by omega,by go_num,HS6,HR6,HU6,HB6⟩
    case measure=>simp[intOf];omega
  ·obtain rfl:j=6:=by omega
   have x0:=n.out.k 0;have x1:=n.out.k 1;have x2:=n.out.k 2;have x3:=n.out.k 3;have x4:=n.out.k 4;have x5:=n.out.k 5;have x6:=n.out.k 6;have y0:=i.out 0;have y1:=i.out 1;have y2:=i.out 2;have y3:=i.out 3;have y4:=i.out 4;have y5:=i.out 5;have y6:=i.out 6;obtain⟨f0,f1,f2,f3,f4,f5,f6⟩:=gF7 RI.out;unfold Sc.vals dK at x0 x1 x2 x3 x4 x5 x6;simp only[gB,gC,gD]at x0 x1 x2 x3 x4 x5 x6 y0 y1 y2 y3 y4 y5 y6;have l:w.heap.size<=w.heap.size+1:=by omega
   have KX:=(aAr (aAr (aAr (aAr (aAr (aAr (aAr i.out 0 (aA f.a1 f.n1 f.c1)) 1 (aA f.hc.az 2 f.hc.cz)) 2 (aA f.hc.am 2 f.hc.cm)) 3 (aB aI (h.aAh:Int))) 4 (aA f.hc.al f.hc.lc.length f.hc.cl)) 5 (aA f.hc.av h.live.length f.hc.cv)) 6 (aA f.a2 f.ys.length f.c2))
   simp only[gE,gG,gH]at KX;have t:(λk=>k<w.heap.size+2) (w.heap.size+1):=by show w.heap.size+1<w.heap.size+2;omega
   have A0:=n.out;have A1:=A0.dD t 0 (aA f.a1 f.n1 f.c1);have A2:=A1.dD t 1 (aA f.hc.az 2 f.hc.cz);have A3:=A2.dD t 2 (aA f.hc.am 2 f.hc.cm);have A4:=A3.dD t 3 (aB aI (h.aAh:Int));have A5:=A4.dD t 4 (aA f.hc.al f.hc.lc.length f.hc.cl);have A6:=A5.dD t 5 (aA f.hc.av h.live.length f.hc.cv);have A7:=A6.dD t 6 (aA f.a2 f.ys.length f.c2);have ZF:=n.out.r.hr.xg;have oI:=gO A7;have jA:=gO (gS (gS (gS (gS (gS (gS (gS rM.out (w.heap.size+1) 0 l (aA f.a1 f.n1 f.c1)) (w.heap.size+1) 1 l (aA f.hc.az 2 f.hc.cz)) (w.heap.size+1) 2 l (aA f.hc.am 2 f.hc.cm)) (w.heap.size+1) 3 l (aB aI (h.aAh:Int))) (w.heap.size+1) 4 l (aA f.hc.al f.hc.lc.length f.hc.cl)) (w.heap.size+1) 5 l (aA f.hc.av h.live.length f.hc.cv)) (w.heap.size+1) 6 l (aA f.a2 f.ys.length f.c2));have hwX:w.heap.size<wr.heap.size:=Nat.lt_of_succ_lt (n.out.r.hr.xs (w.heap.size+1) (by show w.heap.size+1<w.heap.size+2;omega));clear A0 A1 A2 A3 A4 A5 A6 A7 t ZF n i RI rM;go_wp2_with fail
   generalize ((((((wr.setCell _ _).setCell _ _).setCell _ _).setCell _ _).setCell _ _).setCell _ _).setCell _ _=wx at*;refine bodyPost_ret (v:=aG #[.agg (f.vals (dK h 6)),aB aI 0]) (by unfold Sc.vals dK;simp[results,results20,go_sem,KX]) rfl ⟨f,rfl,oI.out.r.toX (by show w.heap.size<w.heap.size+2;omega) (λk hk=>by show k<w.heap.size+2;omega) (Nat.lt_irrefl _),jA.out⟩
end Go.Proofs.YtjaogfhcnmjkiaaGreatDoor
