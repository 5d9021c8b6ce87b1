/- joined. -/
import Derived.Test.YtjaogfhcnmjkiaaGreatDoorSG20
import Derived.Test.YtjaogfhcnmjkiaaGreatDoorSG22
set_option linter.all false
set_option maxRecDepth 100000
set_option maxHeartbeats 0
namespace Go.Proofs.YtjaogfhcnmjkiaaGreatDoor
open Go.RowKit
open Go.Value renaming slice->aA,int->aB,agg->aC,string->aF,tuple->aG,pointer->aH,ownBlock->gTh
open Go.IntKind renaming i64->aI
open Option renaming none->aJ,some->aK
open Go.Ending renaming returned->aN
open Go.Obj renaming cells->aO
open Go.Proofs.Tryz
def ZQ (r:Option Sy)(w:World)(ev:Ending)(w':World):Prop:=(r=aJ/\ev=aN (aG #[aC #[aA aJ 0 0,aA aJ 0 0,aA aJ 0 0,aB aI 0,aA aJ 0 0,aA aJ 0 0,aA aJ 0 0],aB aI 4])/\Below w.heap.size w w')∨(∃a b,r=aK a/\ev=aN (aG #[.agg (b.vals a),aB aI 0])/\fO w' w.heap.size a b/\Below w.heap.size w w')
theorem uF (v:Sc)(s:Sy)(cpu:Nat)(a:Int)(w:World)(hs:lZ w v s)(hk:bQ s)(hf:∀c∈s.cs,c.ns.length<=1000)(bJ:cpu<s.h.aAh)(hsz:yD w)(hab: -1000000<=a/\a<=10000):
 Calls prog 16 #[aC #[aA v.a1 v.n1 v.c1,aA v.hc.az 2 v.hc.cz,aA v.hc.am 2 v.hc.cm,aB aI (s.h.aAh:Int),aA v.hc.al v.hc.lc.length v.hc.cl,aA v.hc.av s.h.live.length v.hc.cv,aA v.a2 v.ys.length v.c2],aB aI cpu,aB aI a] w (ZQ (s.fM cpu a) w):=by
 obtain⟨K1,K2,F1,F2,o,hbw⟩:=boxes2 w #[aA v.a1 v.n1 v.c1,aA v.hc.az 2 v.hc.cz,aA v.hc.am 2 v.hc.cm,aB aI (s.h.aAh:Int),aA v.hc.al v.hc.lc.length v.hc.cl,aA v.hc.av s.h.live.length v.hc.cv,aA v.a2 v.ys.length v.c2] 42 #[aA aJ 0 0,aA aJ 0 0,aA aJ 0 0,aB aI 0,aA aJ 0 0,aA aJ 0 0,aA aJ 0 0] 42;have P:=hs.below hbw;obtain⟨rZ,ZL⟩:∃rZ,s.fM cpu a=rZ:=⟨_,rfl⟩
 rw[ZL];generalize hw1:(w.alloc (aO #[aA v.a1 v.n1 v.c1,aA v.hc.az 2 v.hc.cz,aA v.hc.am 2 v.hc.cm,aB aI (s.h.aAh:Int),aA v.hc.al v.hc.lc.length v.hc.cl,aA v.hc.av s.h.live.length v.hc.cv,aA v.a2 v.ys.length v.c2] 42)).alloc (aO #[aA aJ 0 0,aA aJ 0 0,aA aJ 0 0,aB aI 0,aA aJ 0 0,aA aJ 0 0,aA aJ 0 0] 42)=w1 at*;have q:w.heap.size<w1.heap.size:=by omega
 have qI:=gO (kE v s w1 P hk hf);have Oz:Hid (∀W,Below w1.heap.size w1 W->Calls prog 18 #[aC #[aA v.a1 v.n1 v.c1,aA v.hc.az 2 v.hc.cz,aA v.hc.am 2 v.hc.cm,aB aI (s.h.aAh:Int),aA v.hc.al v.hc.lc.length v.hc.cl,aA v.hc.av s.h.live.length v.hc.cv,aA v.a2 v.ys.length v.c2],aB aI a] W λg r=>DK s a g/\Below W.heap.size W r):=λW hW=>yC v s a W (P.below hW) hk hf (by omega)
 have HWH:Hid (∀W,Below w1.heap.size w1 W->Calls prog 41 #[aC #[aA v.a1 v.n1 v.c1,aA v.hc.az 2 v.hc.cz,aA v.hc.am 2 v.hc.cm,aB aI (s.h.aAh:Int),aA v.hc.al v.hc.lc.length v.hc.cl,aA v.hc.av s.h.live.length v.hc.cv,aA v.a2 v.ys.length v.c2],aB aI a] W λg r=>xC s a g/\Below W.heap.size W r):=λW hW=>Jw v s a W (P.below hW) hk hab
 have Hf:Hid (∀W,Below w1.heap.size w1 W->Calls prog 12 #[aC #[aA v.a1 v.n1 v.c1,aA v.hc.az 2 v.hc.cz,aA v.hc.am 2 v.hc.cm,aB aI (s.h.aAh:Int),aA v.hc.al v.hc.lc.length v.hc.cl,aA v.hc.av s.h.live.length v.hc.cv,aA v.a2 v.ys.length v.c2]] W λg r=>∃F,g=aN (aC #[aA F.a1 F.n1 F.c1,aA F.hc.az 2 F.hc.cz,aA F.hc.am 2 F.hc.cm,aB aI (s.h.aAh:Int),aA F.hc.al F.hc.lc.length F.hc.cl,aA F.hc.av s.h.live.length F.hc.cv,aA F.a2 F.ys.length F.c2])/\fO r W.heap.size s F/\Below W.heap.size W r):=λW hW=>oJ v s W (P.below hW) hk hf
 have N:=gO P;have Y:=gO hk;have HF:=gO hf;have HSZ1:=gO (hsz.below hbw);have HB1:=gO hbw;have O:=gO K1;have HF1:=gO F1;have HK2:=gO K2;have HF2:=gO F2;have Qr:=gO ZL;have hc0:¬(cpu:Int)<0:=by omega
 have hc1:¬(s.h.aAh:Int)<=cpu:=by omega
 obtain⟨H,k1,k2,C,E,D,A⟩:=gA7 K1;clear hs hk hf P K1 F1 K2 F2 hbw hsz ZL;go_enter func16,ntmps16
 go_upto_region 1 with fail
 try rw[hw1]
 clear hw1;go_upto_region 4 with (go_at_call 11;refine qI.out.mono ?_;rintro g w2 ⟨rfl,hb2⟩)
 have Z:=aAp O.out q hb2;clear H k1 k2 C E D A qI;have M:=gO (Oz.out w2 hb2);have HB2:=gO hb2;obtain⟨H,k1,k2,C,E,D,A⟩:=gA7 Z;clear Z Oz hb2;go_upto_region 6 with fail
 cases hfo:s.oL a
 case' none=>
  have hm:s.fP a=aJ:=by
   unfold Sy.fP;rw[hfo]
  have HFN:Hid (Calls prog 18 #[aC #[aA v.a1 v.n1 v.c1,aA v.hc.az 2 v.hc.cz,aA v.hc.am 2 v.hc.cm,aB aI (s.h.aAh:Int),aA v.hc.al v.hc.lc.length v.hc.cl,aA v.hc.av s.h.live.length v.hc.cv,aA v.a2 v.ys.length v.c2],aB aI a] w2 λg r=>g=aN (aG #[aB aI 0,aB aI 0,aB aI 4])/\Below w2.heap.size w2 r):=by
   refine M.out.mono ?_;rintro g r ⟨h,hb⟩;exact⟨Gx hfo h,hb⟩
  have HM:=gO hm;clear M hfo hm;go_upto_region 9 with (go_at_call 18;refine HFN.out.mono ?_;rintro g B ⟨rfl,u⟩)
  have z:=gO (gW HB2.out u);clear HFN H k1 k2 C E D A u HB2;obtain⟨V,rfl⟩:∃V,V=B:=⟨_,rfl⟩
  have I:=z;clear z
 case' some p=>
  obtain⟨i,k⟩:=p;obtain⟨c,x,hc,hx,ho⟩:=tV hfo;have HFS:Hid (Calls prog 18 #[aC #[aA v.a1 v.n1 v.c1,aA v.hc.az 2 v.hc.cz,aA v.hc.am 2 v.hc.cm,aB aI (s.h.aAh:Int),aA v.hc.al v.hc.lc.length v.hc.cl,aA v.hc.av s.h.live.length v.hc.cv,aA v.a2 v.ys.length v.c2],aB aI a] w2 λg r=>g=aN (aG #[aB aI (i:Int),aB aI (k:Int),aB aI 0])/\Below w2.heap.size w2 r):=by
   refine M.out.mono ?_;rintro g r ⟨h,hb⟩;exact⟨Gw Y.out hfo h,hb⟩
  have hil:=(gK.1 hc).1;have hiy:i<v.ys.length:=by
   have h:=congrArg List.length N.out.cy;rw[gTe]at h;omega
  have hyl:v.ys.length<=20:=by
   have h:=congrArg List.length N.out.cy;rw[gTe]at h;rw[h];exact Y.out.cl
  have Zb:v.ys[i].c=c:=by
   have h1:=congrArg (·[i]?) N.out.cy;simp only[List.getElem?_map,gJ hiy,Option.map_some]at h1;rw[hc]at h1;exact gP h1
  have hii:(i:Int)<v.ys.length:=by omega
  have HFO:=gO hfo;have DI:=gO hc;have ZP:=gO Zb;have HAW:=gO (show s.eF i k a from⟨c,x,hc,hx,ho⟩);have HXX:=gO hx;have HOO:=gO ho;clear M hfo hc hx ho hil Zb;go_upto_region 7 with (go_at_call 18;refine HFS.out.mono ?_;rintro g B ⟨rfl,u⟩)
  have Q:=gW HB2.out u;have z:=gO Q;have K13:=aAp O.out q Q;clear HFS H k1 k2 C E D A u HB2;obtain⟨H,k1,k2,C,E,D,A⟩:=gA7 K13;have hs3:=N.out.below Q;obtain⟨bb,off,hba,hbb,hbc⟩:=aAw eH (by decide) hs3.rc hiy;have R:=hs3.ca _ (gL hiy);obtain⟨y,hy⟩:∃y,v.ys[i]=y:=⟨_,rfl⟩
  rw[hy]at hbc R ZP;obtain⟨e0,e1,e2,e3,e4,e5⟩:=kP hbc;rw[hba]at A;have hyn:y.n1<=1000000:=by
   rw[<- R.l1,ZP.out];exact gQ (HF.out c (gM DI.out)) (by decide)
  have OE:=gO (PE y B R hyn (HSZ1.out.below Q));have hmy:jY y.c.ns=jY c.ns:=by rw[ZP.out]
  rw[hmy]at OE;clear hmy;have HBC:=gO (fun(W:World) (hW:Below B.heap.size B W)=>(hW.cell (p:=⟨bb,off+i*6,aJ⟩) hbb).trans e0);have HR1:=gO R.r1;have HL1:=gO R.l1;have HHS3:=gO hs3;have HK13:=gO K13;have hsz3:=gI q Q.size;have Ik:=gO hba;clear K13 hs3 hba hbc R hy hyn Q;cases hmb:jY c.ns
  case true=>
   rw[hmb]at OE;have hm:s.fP a=aK (i,k,c):=by
    unfold Sy.fP;rw[HFO.out];simp only[DI.out,hmb,if_true]
   obtain⟨X,Nh⟩:∃X,s.free i k a.toNat cpu=X:=⟨_,rfl⟩
   have HE:Hid (rZ=aK X):=by
    unfold Hid;rw[<- Qr.out];unfold Sy.fM;rw[hm];simp only[Nh]
   have hck:=Y.out.ck c (gM DI.out);have hns:y.c.ns=c.ns:=by rw[ZP.out]
   obtain⟨n0,nr,hnn⟩:∃n0 nr,c.ns=n0::nr:=by
    cases hh:c.ns with
    | nil=>exact absurd hh hck.ns
    | cons x l=>exact⟨x,l,rfl⟩
   have hnm:s.named n0=aK i:=by
    unfold Sy.named;rw[List.findIdx?_eq_some_iff_getElem];obtain⟨hil,hic⟩:=gK.1 DI.out;refine⟨hil,?_,λj hj=> ?_⟩
    ·rw[hic,hnn];exact List.contains_iff_mem.2 (by simp)
    ·intro hcon;have h9:=gN.1 Y.out.nd j i (by omega) hil hj n0 (List.contains_iff_mem.1 hcon);rw[hic,hnn]at h9;exact h9 (by simp)
   have ha0:0<=a:=by have:=(jV HOO.out.1).1;omega
   have hat:((a.toNat:Nat):Int)=a:=Int.toNat_of_nonneg ha0;have hn1:0<y.n1:=by rw[<- HL1.out,hns,hnn];simp
   have hni:(0:Int)<y.n1:=by omega
   have HNN:Hid (y.c.ns=n0::nr):=by unfold Hid;rw[hns,hnn]
   have BD:=gO hnm;have HAT:=gO hat
   have Yt:=gO Nh;clear hm hmb Nh hck hns hnn hnm hat ha0 hn1;go_upto_region 8 with (go_at_call 39;refine OE.out.mono ?_;rintro g L ⟨rfl,e⟩)
   have K14:=aAp HK13.out hsz3 e;have e14:=HBC.out L e;have U:=HHS3.out.below e;obtain⟨nb,no,hna,hnl,hnc⟩:=(HR1.out.below e) 0 (sV n0) (by rw[HNN.out];rfl);unfold sV at hnc;rw[Nat.add_zero]at hnc;rw[hna]at e14;have hd:=(gX L.heap.size L).drew;have hfr:=PU v s n0 cpu i k a.toNat c x L.drew (U.below hd) Y.out HF.out BD.out bJ DI.out HXX.out (by rw[HAT.out];exact HOO.out);rw[HAT.out,Yt.out,Ik.out]at hfr;have wB:Hid (Calls prog 40 #[aC #[aA v.a1 v.n1 v.c1,aA v.hc.az 2 v.hc.cz,aA v.hc.am 2 v.hc.cm,aB aI (s.h.aAh:Int),aA v.hc.al v.hc.lc.length v.hc.cl,aA v.hc.av s.h.live.length v.hc.cv,aA (aK ⟨bb,off,aJ⟩) v.ys.length v.c2],aF ⟨n0.toArray⟩,aB aI cpu,aB aI a] L.drew λg r=>∃f,g=aN (aG #[aC #[aA f.a1 f.n1 f.c1,aA f.hc.az 2 f.hc.cz,aA f.hc.am 2 f.hc.cm,aB aI (X.h.aAh:Int),aA f.hc.al f.hc.lc.length f.hc.cl,aA f.hc.av X.h.live.length f.hc.cv,aA f.a2 f.ys.length f.c2],aB aI 0])/\fO r L.drew.heap.size X f/\Below L.drew.heap.size L.drew r):=hfr;have J:=gI (gI o z.out.size) e.size;have HTD:=gO (aAp (aAp HK2.out o (gW z.out e)) J hd);have HUD:=gO (aAt (aAt HF2.out o (gW z.out e)) J hd);have VZ:=gO (gW (gW HB1.out (gW z.out e)) hd);have hTd:w.heap.size+1<L.drew.heap.size:=gI J hd.size;clear H k1 k2 C E D A e0 e1 e2 e3 e4 e5 hfr hd U J;obtain⟨H,k1,k2,C,E,D,A⟩:=gA7 K14;rw[Ik.out]at A;clear K14 OE HR1
   go_region_with (go_at_call 40;refine wB.out.mono ?_;rintro g w5 ⟨f,rfl,S,n⟩;have KT:=aAp HTD.out hTd n;have FT:=aAt HUD.out hTd n;obtain⟨y0,y1,y2,y3,y4,y5,y6⟩:=gA7 KT;obtain⟨f0,f1,f2,f3,f4,f5,f6⟩:=gF7 FT;skip)
   all_goals
    have KX:=CU KT f X;have oI:=gO (fO.put7 (T:=w.heap.size+1) (G:=w.heap.size) S hTd (by omega));have jA:=gO (aAz (T:=w.heap.size+1) (gW VZ.out n) (Nat.le_succ _) f X);clear KT FT y0 y1 y2 y3 y4 y5 y6 f0 f1 f2 f3 f4 f5 f6 S n H k1 k2 C E D A;go_wp2_with fail
    generalize ((((((w5.setCell _ _).setCell _ _).setCell _ _).setCell _ _).setCell _ _).setCell _ _).setCell _ _=wx at*;exact bodyPost_ret (v:=aG #[aC #[aA f.a1 f.n1 f.c1,aA f.hc.az 2 f.hc.cz,aA f.hc.am 2 f.hc.cm,aB aI (X.h.aAh:Int),aA f.hc.al f.hc.lc.length f.hc.cl,aA f.hc.av X.h.live.length f.hc.cv,aA f.a2 f.ys.length f.c2],aB aI 0]) (by simp[results,results16,go_sem,KX]) rfl (.inr ⟨X,f,HE.out,rfl,oI.out,jA.out⟩)
  case' false=>
   rw[hmb]at OE;have hm:s.fP a=aJ:=by
    unfold Sy.fP;rw[HFO.out];simp only[DI.out,hmb];rfl
   have HM:=gO hm;clear hm hmb;go_upto_region 9 with (go_at_call 39;refine OE.out.mono ?_;rintro g L ⟨rfl,e⟩)
   have HB4:=gO (gW z.out e);clear H k1 k2 C E D A e0 e1 e2 e3 e4 e5 OE HBC HK13 Ik z e HAW HXX HOO HR1 HL1 HHS3;obtain⟨V,rfl⟩:∃V,V=L:=⟨_,rfl⟩
   have I:=HB4;clear HB4
 all_goals
  have ZM:=aAp O.out q I.out;obtain⟨H,k1,k2,C,E,D,A⟩:=gA7 ZM;have K:=gO (HWH.out V I.out);clear ZM HWH;cases hwo:s.kT a with
  | none=>
   have HE:Hid (rZ=aJ):=by
    unfold Hid;rw[<- Qr.out];unfold Sy.fM;rw[HM.out];simp only[hwo];rfl
   have ZN:Hid (Calls prog 41 #[aC #[aA v.a1 v.n1 v.c1,aA v.hc.az 2 v.hc.cz,aA v.hc.am 2 v.hc.cm,aB aI (s.h.aAh:Int),aA v.hc.al v.hc.lc.length v.hc.cl,aA v.hc.av s.h.live.length v.hc.cv,aA v.a2 v.ys.length v.c2],aB aI a] V λg r=>(∃j:Nat,g=aN (aG #[aB aI (j:Int),.bool false]))/\Below V.heap.size V r):=by
    refine K.out.mono ?_;rintro g r ⟨h,hb⟩;exact⟨rD hwo h,hb⟩
   clear K hwo;go_upto_region 11 with (go_at_call 41;refine ZN.out.mono ?_;rintro g w9 ⟨⟨j,rfl⟩,hb9⟩)
   have iM:=gO (aAp HK2.out o (gW I.out hb9));have tX:=gO (aAt HF2.out o (gW I.out hb9));have qL:=gO (gW HB1.out (gW I.out hb9));clear hb9 ZN H k1 k2 C E D A;obtain⟨q0,q1,q2,q3,q4,q5,q6⟩:=gA7 iM.out;obtain⟨f0,f1,f2,f3,f4,f5,f6⟩:=gF7 tX.out;have jP:=nil7 iM.out qL.out (show w.heap.size<=w.heap.size+1 by omega);have KX:=jP.1;have jA:=gO jP.2;clear jP iM tX qL;go_wp2_with fail
   generalize ((((((w9.setCell _ _).setCell _ _).setCell _ _).setCell _ _).setCell _ _).setCell _ _).setCell _ _=wx at*;exact bodyPost_ret (v:=aG #[aC #[aA aJ 0 0,aA aJ 0 0,aA aJ 0 0,aB aI 0,aA aJ 0 0,aA aJ 0 0,aA aJ 0 0],aB aI 4]) (by simp[results,results16,go_sem,KX]) rfl (.inl ⟨HE.out,rfl,jA.out⟩)
  | some b=>
   obtain⟨hwb,ZR⟩:=nX hwo;have HE:Hid (rZ=aK (s.iK cpu b)):=by
    unfold Hid;rw[<- Qr.out];unfold Sy.fM;rw[HM.out];simp only[hwo];rfl
   obtain⟨g1,g2,g3,⟨hi0,hlb⟩,g5⟩:=Y.out.iK bJ hwb;have ZO:Hid (Calls prog 41 #[aC #[aA v.a1 v.n1 v.c1,aA v.hc.az 2 v.hc.cz,aA v.hc.am 2 v.hc.cm,aB aI (s.h.aAh:Int),aA v.hc.al v.hc.lc.length v.hc.cl,aA v.hc.av s.h.live.length v.hc.cv,aA v.a2 v.ys.length v.c2],aB aI a] V λg r=>(∃j:Nat,g=aN (aG #[aB aI (j:Int),.bool true]))/\Below V.heap.size V r):=by
    refine K.out.mono ?_;rintro g r ⟨h,hb⟩;obtain⟨_,_,h3⟩:=rC Y.out hwo h;exact⟨⟨_,h3⟩,hb⟩
   have hba:=(Y.out.hk.lv b hwb.1).1.2.2.1;have hq:a.tdiv 16=(b.a:Int):=by rw[ZR,Int.tdiv_eq_ediv_of_nonneg (by omega)];omega
   have HPF:Hid (∀W,Below w1.heap.size w1 W->Calls prog 42 #[aC #[aA v.hc.az 2 v.hc.cz,aA v.hc.am 2 v.hc.cm,aB aI (s.h.aAh:Int),aA v.hc.al v.hc.lc.length v.hc.cl,aA v.hc.av s.h.live.length v.hc.cv],aB aI cpu,aB aI (b.a:Int)] W λg r=>∃d,g=aN (aG #[aC #[aA d.az 2 d.cz,aA d.am 2 d.cm,aB aI ((s.iK cpu b).h.aAh:Int),aA d.al d.lc.length d.cl,aA d.av (s.iK cpu b).h.live.length d.cv],aB aI 0])/\kR r W.heap.size (s.iK cpu b).h d/\Below W.heap.size W r):=λW hW=>by
    have h:=AP v.hc.az v.hc.am v.hc.al v.hc.av v.hc.cz v.hc.cm v.hc.cl v.hc.cv v.hc.lc.length s.h.live.length v.hc.y0 v.hc.y1 v.hc.lc s.h cpu b.a W (N.out.below hW).hh Y.out.hk (by have:=(N.out.hh.ll);have h9:=congrArg List.length this;rw[gTe]at h9;rw[h9];have:=Y.out.hk.oQ;omega) (by have:=Y.out.hk.iU;omega) bJ (by omega) g5;refine h.mono ?_;rintro g r ⟨h1,d,hi,h2,h3⟩;rw[hlb]at h2 h3;exact⟨d,h2,h3,h1⟩
   have hw64:wrap64 (b.a:Int)=(b.a:Int):=IntWalk.wrap64_in _ (by omega);obtain⟨t,hh'⟩:∃t,(s.iK cpu b).h=t:=⟨_,rfl⟩
   have HEE:Hid (s.iK cpu b={s with h:=t}):=by unfold Hid;rw[<- hh'];rfl
   rw[hh']at HPF;clear K hwo hwb hlb ZR g1 g2 g3 g5 hba hi0 hh';go_upto_region 12 with (go_at_call 41;refine ZO.out.mono ?_;rintro g wr ⟨⟨j,rfl⟩,hbr⟩)
   have fK:=gW I.out hbr;have Z:=aAp O.out q fK;clear H k1 k2 C E D A hbr ZO;obtain⟨H,k1,k2,C,E,D,A⟩:=gA7 Z;have qZ:w.heap.size<wr.heap.size:=gI q fK.size;have tZ:w.heap.size+1<wr.heap.size:=gI o fK.size;have SX:=gO (HPF.out wr fK);clear HPF;go_upto_region 13 with (go_at_call 42;refine SX.out.mono ?_;rintro g B ⟨d,rfl,hn3,u⟩)
   have ba:=aAq B (aO #[aA d.az 2 d.cz,aA d.am 2 d.cm,aB aI (t.aAh:Int),aA d.al d.lc.length d.cl,aA d.av t.live.length d.cv] 39);have K14:=aQ B #[aA d.az 2 d.cz,aA d.am 2 d.cm,aB aI (t.aAh:Int),aA d.al d.lc.length d.cl,aA d.av t.live.length d.cv] 39;have e:=gW u ba;have PO:B.heap.size<(B.alloc (aO #[aA d.az 2 d.cz,aA d.am 2 d.cm,aB aI (t.aAh:Int),aA d.al d.lc.length d.cl,aA d.av t.live.length d.cv] 39)).heap.size:=by simp
   have aHp:wr.heap.size<=B.heap.size:=u.size;have hX1:∀k,(k<w.heap.size∨k=w.heap.size+1)->k<wr.heap.size:=λk hk=>by omega
   have hHR:HR (B.alloc (aO #[aA d.az 2 d.cz,aA d.am 2 d.cm,aB aI (t.aAh:Int),aA d.al d.lc.length d.cl,aA d.av t.live.length d.cv] 39)) w.heap.size (λk=>k<w.heap.size∨k=w.heap.size+1) t d:=(HR.lift hn3 qZ hX1 (by omega)).below ba;have ZK:=gO hHR;have KG4:=gO (aAp (aAp O.out q fK) qZ e);have FG4:=gO (aAt (aAt HF1.out q fK) qZ e);have KT4:=gO (aAp (aAp HK2.out o fK) tZ e);have FT4:=gO (aAt (aAt HF2.out o fK) tZ e);have HB4:=gO (gW (gW HB1.out fK) e);have HCP4:=gO (Hf.out _ (fK.trans (e.mono fK.size)));have PS:=gO K14;have hw4:wr.heap.size<=(B.alloc (aO #[aA d.az 2 d.cz,aA d.am 2 d.cm,aB aI (t.aAh:Int),aA d.al d.lc.length d.cl,aA d.av t.live.length d.cv] 39)).heap.size:=e.size;have hBne:B.heap.size≠w.heap.size:=by omega
   clear u e ba hHR K14 hn3 O HF1 HK2 HF2 SX Hf Z H k1 k2 C E D A;generalize B.alloc _=L at*;generalize B.heap.size=B14 at*;obtain⟨H,k1,k2,C,E,D,A⟩:=gA7 KG4.out;have U:w.heap.size<L.heap.size:=gI qZ hw4;have J:w.heap.size+1<L.heap.size:=gI tZ hw4;go_upto_region 16 with (go_at_call 12;refine HCP4.out.mono ?_;rintro g w5 ⟨m,rfl,S,n⟩;have K5:=aAp KG4.out U n;have F5:=aAt FG4.out U n;obtain⟨y0,y1,y2,y3,y4,y5,y6⟩:=gA7 K5;obtain⟨f0,f1,f2,f3,f4,f5,f6⟩:=gF7 F5;skip)
   have nH:SR w5 w.heap.size (λk=>k<w.heap.size∨k=w.heap.size+1) s m:=SR.lift S U (λk hk=>gI (hX1 k hk) hw4) (by omega);have HS6:=gO (SS.put7 nH K5 F5);have hoff:=fO.MF S ZK.out (gT _);have HR6:Hid (HR (((((((w5.setCell ⟨w.heap.size,0,aJ⟩ (aA m.a1 m.n1 m.c1)).setCell ⟨w.heap.size,1,aJ⟩ (aA m.hc.az 2 m.hc.cz)).setCell ⟨w.heap.size,2,aJ⟩ (aA m.hc.am 2 m.hc.cm)).setCell ⟨w.heap.size,3,aJ⟩ (aB aI (s.h.aAh:Int))).setCell ⟨w.heap.size,4,aJ⟩ (aA m.hc.al m.hc.lc.length m.hc.cl)).setCell ⟨w.heap.size,5,aJ⟩ (aA m.hc.av s.h.live.length m.hc.cv)).setCell ⟨w.heap.size,6,aJ⟩ (aA m.a2 m.ys.length m.c2)) w.heap.size (λk=>k<w.heap.size∨k=w.heap.size+1) t d):=((((((((ZK.out.below n).fE 0 _).fE 1 _).fE 2 _).fE 3 _).fE 4 _).fE 5 _).fE 6 _)
   have HOF:=gO hoff;have KT6:=gO (lW (T:=w.heap.size) (aAp KT4.out J n) (by omega) m s);have FT6:=gO (Gu (T:=w.heap.size) (aAt FT4.out J n) m s);have K146:=gO (lW (T:=w.heap.size) (aAp PS.out PO n) hBne m s);have HB6:=gO (aAz (T:=w.heap.size) (gW HB4.out n) (gT _) m s);clear K5 F5 y0 y1 y2 y3 y4 y5 y6 f0 f1 f2 f3 f4 f5 f6 H k1 k2 C E D A nH hoff S n HCP4 KG4 FG4 KT4 FT4 ZK PS HB4;generalize ((((((w5.setCell _ _).setCell _ _).setCell _ _).setCell _ _).setCell _ _).setCell _ _).setCell _ _=w6 at*;obtain⟨x0,x1,x2,x3,x4⟩:=gA5 K146.out;obtain⟨g0,g1,g2,g3,g4,g5,g6⟩:=gA7 HS6.out.k;obtain⟨f0,f1,f2,f3,f4,f5,f6⟩:=gF7 HS6.out.fz;go_upto_region 17 with fail
   have hput:=HS6.out.putH2 HR6.out HOF.out;have iL:=gO hput.1;have KT7:=(aAc (aAc (aAc (aAc (aAc KT6.out (show w.heap.size+1≠w.heap.size by omega) 1 (aA d.az 2 d.cz)) (show w.heap.size+1≠w.heap.size by omega) 2 (aA d.am 2 d.cm)) (show w.heap.size+1≠w.heap.size by omega) 3 (aB aI (t.aAh:Int))) (show w.heap.size+1≠w.heap.size by omega) 4 (aA d.al d.lc.length d.cl)) (show w.heap.size+1≠w.heap.size by omega) 5 (aA d.av t.live.length d.cv))
   have iM:=gO KT7;have tX:=gO (aAs (aAs (aAs (aAs (aAs FT6.out ⟨w.heap.size,1,aJ⟩ (aA d.az 2 d.cz)) ⟨w.heap.size,2,aJ⟩ (aA d.am 2 d.cm)) ⟨w.heap.size,3,aJ⟩ (aB aI (t.aAh:Int))) ⟨w.heap.size,4,aJ⟩ (aA d.al d.lc.length d.cl)) ⟨w.heap.size,5,aJ⟩ (aA d.av t.live.length d.cv));have qL:Hid (Below w.heap.size w (((((w6.setCell ⟨w.heap.size,1,aJ⟩ (aA d.az 2 d.cz)).setCell ⟨w.heap.size,2,aJ⟩ (aA d.am 2 d.cm)).setCell ⟨w.heap.size,3,aJ⟩ (aB aI (t.aAh:Int))).setCell ⟨w.heap.size,4,aJ⟩ (aA d.al d.lc.length d.cl)).setCell ⟨w.heap.size,5,aJ⟩ (aA d.av t.live.length d.cv))):=Safe.after HB6.out hput.2 (λk hk=> .inl hk) HB6.out.size;clear x0 x1 x2 x3 x4 g0 g1 g2 g3 g4 g5 g6 f0 f1 f2 f3 f4 f5 f6 hput KT7 HS6 HR6 HOF KT6 FT6 K146 HB6;generalize ((((w6.setCell _ _).setCell _ _).setCell _ _).setCell _ _).setCell _ _=w7 at*;obtain⟨z0,z1,z2,z3,z4,z5,z6⟩:=gA7 iL.out.k;obtain⟨q0,q1,q2,q3,q4,q5,q6⟩:=gA7 iM.out;obtain⟨f0,f1,f2,f3,f4,f5,f6⟩:=gF7 tX.out;have eU:=out7 iL.out (T:=w.heap.size+1) (.inr rfl) (λk hk=> .inl hk) (Nat.lt_succ_self _) iM.out qL.out
   dsimp only at eU
   have KX:=eU.1;have oI:=gO eU.2.1;have jA:=gO eU.2.2;clear eU iL iM tX qL;go_wp2_with fail
   generalize ((((((w7.setCell _ _).setCell _ _).setCell _ _).setCell _ _).setCell _ _).setCell _ _).setCell _ _=wx at*;exact bodyPost_ret (v:=aG #[aC #[aA m.a1 m.n1 m.c1,aA d.az 2 d.cz,aA d.am 2 d.cm,aB aI (t.aAh:Int),aA d.al d.lc.length d.cl,aA d.av t.live.length d.cv,aA m.a2 m.ys.length m.c2],aB aI 0]) (by simp[results,results16,go_sem,KX]) rfl (.inr ⟨{s with h:=t},{m with hc:=d},HE.out.trans (by rw[HEE.out]),rfl,oI.out,jA.out⟩)
end Go.Proofs.YtjaogfhcnmjkiaaGreatDoor
