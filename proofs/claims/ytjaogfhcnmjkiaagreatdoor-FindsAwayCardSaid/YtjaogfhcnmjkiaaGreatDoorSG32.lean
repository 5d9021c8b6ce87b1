/- joined. -/
import Derived.Test.YtjaogfhcnmjkiaaGreatDoorSG30
import Derived.Test.YtjaogfhcnmjkiaaGreatDoorSG31
set_option linter.all false
set_option maxRecDepth 100000
set_option maxHeartbeats 0
namespace Go.Proofs.YtjaogfhcnmjkiaaGreatDoor
open Go.RowKit
open Go.Value renaming slice->aA,int->aB,agg->aC,string->aF,tuple->aG,pointer->aH,ownBlock->gTh
open Go.IntKind renaming i64->aI
open Option renaming none->aJ,some->aK
open Go.Ending renaming returned->aN
open Go.Obj renaming cells->aO
open Go.Proofs.Tryz
theorem aBV (h:Hp)(hk:eY h)(hl0:h.live=[])(u0 u1 u2 u3 u4:Value)(a:Option Addr)(n cap:Nat)(l:List (Ac×Int))(w:World)(ho:sS w)(hsz:yD w)
 (hnew:∀W,Below w.heap.size w W->Calls prog 20 #[aC #[u0,u1,u2,u3,u4]] W (DU h W)) (hl:l.length=n) (hn:2<=n/\n<=42) (hr:Row w a (flat vT l)) (hask:∀j (hj:j<l.length),rE h.aAh j l[j].1 l[j].2):
 Calls prog 28 #[aC #[u0,u1,u2,u3,u4],aA a n cap] w (aAg h w):=by
 obtain⟨K1,F1,hsb,hbw⟩:=boxes1 w #[u0,u1,u2,u3,u4] 29;have oW:=gO (hnew _ hbw);have HO:=gO ho;have iL:=gO hsz;have HR:=gO hr;have aHP:=gO hask;have HK:=gO hk;have HL0:=gO hl0;have HL:=gO hl;have HB1:=gO hbw;unfold DU at oW;obtain⟨k0,k1,k2,k3,k4⟩:=gA5 K1;clear K1 F1 hbw ho hsz hnew hr hask hl;have HP0:=gO (Qs.start hk);clear hk hl0;obtain⟨I,hS0⟩:∃I,dK h 6=I:=⟨_,rfl⟩
 change Hid (Calls prog 20 _ _ λev w'=>∃z,ev=aN (aG #[.agg (z.vals (dK h 6)),aB aI 0])/\fO w' _ (dK h 6) z/\Below _ _ w')at oW;rw[hS0]at oW HP0;clear hS0;go_enter func28,ntmps28
 go_upto_region 1 with fail
 generalize w.alloc _=w1 at*;go_upto_region 2 with (go_at_call 20;refine oW.out.mono ?_;rintro ev w2 ⟨y,he,hn2,hb2⟩;(replace he:ev=aN (aG #[aC #[aA y.a1 y.n1 y.c1,aA y.hc.az 2 y.hc.cz,aA y.hc.am 2 y.hc.cm,aB aI (I.h.aAh:Int),aA y.hc.al y.hc.lc.length y.hc.cl,aA y.hc.av I.h.live.length y.hc.cv,aA y.a2 y.ys.length y.c2],aB aI 0]):=he);subst he)
 have hb3:=aAq w2 (aO #[aA y.a1 y.n1 y.c1,aA y.hc.az 2 y.hc.cz,aA y.hc.am 2 y.hc.cm,aB aI (I.h.aAh:Int),aA y.hc.al y.hc.lc.length y.hc.cl,aA y.hc.av I.h.live.length y.hc.cv,aA y.a2 y.ys.length y.c2] 42);have HN3:Hid (fO (w2.alloc (aO #[aA y.a1 y.n1 y.c1,aA y.hc.az 2 y.hc.cz,aA y.hc.am 2 y.hc.cm,aB aI (I.h.aAh:Int),aA y.hc.al y.hc.lc.length y.hc.cl,aA y.hc.av I.h.live.length y.hc.cv,aA y.a2 y.ys.length y.c2] 42)) w1.heap.size I y):=SR.below hn2 hb3;have HB3:=gO (Below.trans HB1.out ((gW hb2 hb3).mono HB1.out.size));have KB:=aQ w2 #[aA y.a1 y.n1 y.c1,aA y.hc.az 2 y.hc.cz,aA y.hc.am 2 y.hc.cm,aB aI (I.h.aAh:Int),aA y.hc.al y.hc.lc.length y.hc.cl,aA y.hc.av I.h.live.length y.hc.cv,aA y.a2 y.ys.length y.c2] 42;have hw1:=HB1.out.size;have hw2:=hb2.size;have hw3:=hb3.size;obtain⟨y0,y1,y2,y3,y4,y5,y6⟩:=gA7 KB;clear k0 k1 k2 k3 k4 oW hn2 hb2 hb3 KB HB1;generalize w2.alloc _=w3 at*;go_upto_region 3 with fail
 have HST0:=gO (dY.start (N0:=w.heap.size) HN3.out hw1);have HB4:=gO (gW HB3.out (aAq w3 (aO #[aA y.a1 y.n1 y.c1,aA y.hc.az 2 y.hc.cz,aA y.hc.am 2 y.hc.cm,aB aI (I.h.aAh:Int),aA y.hc.al y.hc.lc.length y.hc.cl,aA y.hc.av I.h.live.length y.hc.cv,aA y.a2 y.ys.length y.c2,aA aJ 0 0,aA aJ 0 0,aA aJ 0 0] 47)));have hG0:w.heap.size<=w3.heap.size:=HB3.out.size;clear y0 y1 y2 y3 y4 y5 y6 HN3 HB3 hw1 hw2 hw3 hsb;generalize w3.alloc _=w4 at*;generalize w3.heap.size=G at*;clear w3;go_upto_region 5 with fail
 go_wp2_with fail
 generalize aG #[aC #[aA y.a1 y.n1 y.c1,aA y.hc.az 2 y.hc.cz,aA y.hc.am 2 y.hc.cm,aB aI (I.h.aAh:Int),aA y.hc.al y.hc.lc.length y.hc.cl,aA y.hc.av I.h.live.length y.hc.cv,aA y.a2 y.ys.length y.c2],aB aI 0]=V0;generalize aC #[aA y.a1 y.n1 y.c1,aA y.hc.az 2 y.hc.cz,aA y.hc.am 2 y.hc.cm,aB aI (I.h.aAh:Int),aA y.hc.al y.hc.lc.length y.hc.cl,aA y.hc.av I.h.live.length y.hc.cv,aA y.a2 y.ys.length y.c2,aA aJ 0 0,aA aJ 0 0,aA aJ 0 0]=V1;generalize aC #[aA y.a1 y.n1 y.c1,aA y.hc.az 2 y.hc.cz,aA y.hc.am 2 y.hc.cm,aB aI (I.h.aAh:Int),aA y.hc.al y.hc.lc.length y.hc.cl,aA y.hc.av I.h.live.length y.hc.cv,aA y.a2 y.ys.length y.c2]=V2;go_loopw [27] (λs27 wr=>∃(j:Nat) (s:Sy) (v:Sc) (L:List Th) (B:List Ac) (qs:List Aq) (O N R:Pl),j<=n/\s27=aB aI (j:Int)/\Hid (dY wr G w.heap.size s v (rws B qs L O N R) qs)/\Hid (Qs h j s L B (qs.map (·.x)))/\Hid (Below w.heap.size w wr)/\L.length<=30*j/\B.length<=j/\qs.length<=j) (λs27 _=>n-(intOf s27).toNat)
 case atStart=>exact⟨0,I,y,[],[],[],⟨aJ,0⟩,⟨aJ,0⟩,⟨aJ,0⟩,gU _,rfl,HST0.out,HP0.out,HB4.out,gT _,gT _,gT _⟩
 case round=>
  obtain⟨j,s,v,L,B,qs,O,N,R,hj,rfl,T,SX,yO,Xl,hal,hql⟩:=hrel;clear HST0 HP0 HB4;by_cases hlt:j<n
  ·have hji:(j:Int)<n:=by omega
   have hjl:j<l.length:=by have:=HL.out;omega
   obtain⟨bb,off,ha1,hbb,hbc⟩:=aAw MP (by decide) (HR.out.below yO.out) hjl;obtain rfl:=ha1;have S:=gO (aHP.out j hjl);generalize l[j]=p at*;obtain⟨c,f⟩:=p;obtain⟨c0,c1,c2,c3,c4,c5,c6,c7⟩:=Qh hbc;replace S:Hid (rE h.aAh j c f):=S;have hba:=aAq wr (aO #[aB aI c.k,aB aI c.u,aB aI c.n,aB aI c.m,aB aI c.p,aB aI c.f,aF ⟨c.s.toArray⟩,aB aI f] 135);have KA:=aQ wr #[aB aI c.k,aB aI c.u,aB aI c.n,aB aI c.m,aB aI c.p,aB aI c.f,aF ⟨c.s.toArray⟩,aB aI f] 135;have FA:=eG wr #[aB aI c.k,aB aI c.u,aB aI c.n,aB aI c.m,aB aI c.p,aB aI c.f,aF ⟨c.s.toArray⟩,aB aI f] 135;have Z:wr.heap.size<(wr.alloc (aO #[aB aI c.k,aB aI c.u,aB aI c.n,aB aI c.m,aB aI c.p,aB aI c.f,aF ⟨c.s.toArray⟩,aB aI f] 135)).heap.size:=by simp
   have H:=gO (T.out.below hba);have HB5:=gO (gW yO.out hba);have hGA:=T.out.lt;have hwA:=yO.out.size;have HRB:Hid (∀r∈rws B qs L O N R,∀g,r.v.ownBlock=aK g->g<wr.heap.size):=λr hr g e=>(T.out.o.lt r hr g e).2
   have Ik:=gO hba;go_upto_region 8 with fail
   clear hba c0 c1 c2 c3 c4 c5 c6 c7 hbb hbc;generalize wr.alloc _=w5 at*;obtain⟨q0,q1,q2,q3,q4,q5,q6,q7⟩:=gA8 KA;have HKA:=gO KA;have HFA:=gO FA;clear KA FA
   go_upto_if 33 with fail
   go_cut [11] (λs11 wx=>∃(C:Ac) (iv:Int),s11=aB aI iv/\Hid (GL h wr.heap.size G w.heap.size j w s v L B qs O N R C f iv wx))
   case first=>
    by_cases hf:0<f
    ·obtain⟨hj2,hf9,hck⟩:=S.out.about hf;have aHQ:=aBR G R.c R.a R.c L c.k c.u c.n c.m c.p c.f f c.s w5 (H.out.k 9) H.out.lt (aV (H.out.o.each (oP L R) (by simp[rws]))) (by omega) ⟨by omega,hf9⟩ hck;have Hg:=gO aHQ;clear aHQ hck;go_upto_region 11 with (go_at_call 61;refine Hg.out.mono ?_;rintro ev w6 ⟨r,rfl,hpr,hb6⟩)
     have Q:=gO (H.out.below hb6);have HBA6:=gO (gW Ik.out hb6);have U:=gO (aAp HKA.out Z hb6);have HFA6:=gO (aAt HFA.out Z hb6);have aHR:=gI Z hb6.size;clear q0 q1 q2 q3 q4 q5 q6 q7 Hg hb6 H HB5 HKA HFA Z Ik;clear w5;rcases hpr with rfl | ⟨i,x,hi,hfx,rfl⟩
     ·go_wp2_with fail
      go_roundw
      case rel=>exact⟨j+1,s,v,L,B,qs,O,N,R,by omega,by go_num,Q.out,SX.out.skip S.out hf,Below.trans yO.out (HBA6.out.mono hwA),by omega,by omega,by omega⟩
      case measure=>simp[intOf];omega
     ·obtain⟨hil,hie⟩:=gK.1 hi;obtain⟨g,hg⟩:=Bc Q.out hil;obtain⟨ht,hf0,hgl⟩:=uI Q.out hil hg;rw[hie]at ht;have t0:w6.cell? ⟨g,i*6,aJ⟩=aK (aB aI x.a):=ht 0 _ rfl;have hii:(i:Int)<L.length:=by omega
      have hi0:¬(i:Int)<0:=by omega
      have k9:w6.cell? ⟨G,9,aJ⟩=aK (aA R.a L.length R.c):=Q.out.k 9;rw[hg]at k9;have f4:=HFA6.out 4;have q0:=U.out 0;have q4:=U.out 4;simp only[gB,gC,gD]at q0 q4;have hxa:=((SX.out.i2 hj2).room (gM hi))
      have TT:=gO (Nxt.thing HK.out HL0.out SX.out S.out hf hi hfx);have hbS:=gS HBA6.out wr.heap.size 4 (gT _) (aB aI x.a);have KS:=aAr U.out 4 (aB aI x.a);simp only[gE,gG,gH]at KS;clear hi hfx ht hf0 hie Q HFA6 U;by_cases hk2:c.k=2
      ·have HBS:=gO (gS hbS wr.heap.size 4 (gT _) (aB aI (x.a/16)));have KS2:=aAr KS 4 (aB aI (x.a/16));simp only[gE,gG,gH]at KS2;have HKS:=gO KS2;have hdv:x.a.tdiv 16=x.a/16:=Int.tdiv_eq_ediv_of_nonneg hxa.1;clear KS KS2 hbS;go_wp2_with fail
       go_meet
       refine⟨c.at x.a,i,rfl,T.out.below HBS.out,Below.trans yO.out (HBS.out.mono hwA),?_,by simpa using aHR,TT.out⟩;have e:(lT (c.at x.a)++[aB aI f]).toArray=#[aB aI c.k,aB aI c.u,aB aI c.n,aB aI c.m,aB aI (x.a/16),aB aI c.f,aF ⟨c.s.toArray⟩,aB aI f]:=by simp[lT,Ac.at,hk2]
       rw[e];exact HKS.out
      ·have HBS:=gO hbS;have HKS:=gO KS;clear KS hbS;go_wp2_with fail
       go_meet
       refine⟨c.at x.a,i,rfl,T.out.below HBS.out,Below.trans yO.out (HBS.out.mono hwA),?_,by simpa using aHR,TT.out⟩;have e:(lT (c.at x.a)++[aB aI f]).toArray=#[aB aI c.k,aB aI c.u,aB aI c.n,aB aI c.m,aB aI x.a,aB aI c.f,aF ⟨c.s.toArray⟩,aB aI f]:=by simp[lT,Ac.at,hk2]
       rw[e];exact HKS.out
    ·have TT:=gO (Nxt.zero HK.out HL0.out SX.out S.out (by omega));go_wp2_with fail
     go_meet
     exact⟨c,-1,rfl,H.out,HB5.out,HKA.out,Z,TT.out⟩
   case rest=>
    obtain⟨C,iv,rfl,E⟩:=hcut;obtain⟨W,rfl⟩:∃W,W=wc:=⟨_,rfl⟩
    obtain⟨i,⟨t,x⟩,hd,hg,hp,aEC,hnt⟩:=E.out.n;simp only at hp aEC hnt;have HD:=gO hd;have HG:=gO hg;have HP2:=gO hp;have HNT:=gO hnt;clear q0 q1 q2 q3 q4 q5 q6 q7 hd hg hp hnt H HB5 HKA HFA Z Ik SX S T yO;clear w5;have hAW:=E.out.a;have HDN:Hid (∀bs W',lU W s v s v Iu bs W'->Calls prog 21 #[aC #[aA v.a1 v.n1 v.c1,aA v.hc.az 2 v.hc.cz,aA v.hc.am 2 v.hc.cm,aB aI (s.h.aAh:Int),aA v.hc.al v.hc.lc.length v.hc.cl,aA v.hc.av s.h.live.length v.hc.cv,aA v.a2 v.ys.length v.c2],aC #[aB aI C.k,aB aI C.u,aB aI C.n,aB aI C.m,aB aI C.p,aB aI C.f,aF ⟨C.s.toArray⟩]] W' (λev w5=>∃(z:Sc) (d:Option Addr) (cap:Nat),ev=aN (aG #[aC #[aA z.a1 z.n1 z.c1,aA z.hc.az 2 z.hc.cz,aA z.hc.am 2 z.hc.cm,aB aI (t.h.aAh:Int),aA z.hc.al z.hc.lc.length z.hc.cl,aA z.hc.av t.h.live.length z.hc.cv,aA z.a2 z.ys.length z.c2],aC #[aB aI (x.c:Int),aB aI x.n,aA d x.l.length cap]])/\lU W s v t z ⟨x,d,cap⟩ bs w5/\Below W'.heap.size W' w5)):=by
     intro bs W' hL;refine(aBS v s C.k C.u C.n C.m C.p C.f C.s (t,x) W' (hL.c G _ E.out.st.r).at HG.out (HO.out.below (gW E.out.b hL.b)) (iL.out.below (gW E.out.b hL.b)) HD.out).mono ?_;rintro ev w5 ⟨z,d,cap,rfl,htr,hb,ho⟩;exact⟨z,d,cap,rfl,hL.call (q:=⟨x,d,cap⟩) htr hb ho,hb⟩
    have h0:=lU.start W s v;have h1:=h0.box #[aA aJ 0 0,aA aJ 0 0,aA aJ 0 0,aB aI 0,aA aJ 0 0,aA aJ 0 0,aA aJ 0 0] 42;have h2:=h0.box #[aB aI 0,aB aI 0,aA aJ 0 0] 72;have h3:=h1.aAf (n:=W.heap.size+1) (A:=#[aB aI 0,aB aI 0,aA aJ 0 0]) (by simp) 72;have h4:=h2.aAf (n:=W.heap.size+1) (A:=#[aA aJ 0 0,aA aJ 0 0,aA aJ 0 0,aB aI 0,aA aJ 0 0,aA aJ 0 0,aA aJ 0 0]) (by simp) 42;have HD0:=gO (HDN.out _ _ h0.drew);have HD1:=gO (HDN.out _ _ h1.drew);have HD2:=gO (HDN.out _ _ h2.drew);have HD3:=gO (HDN.out _ _ h3.drew);have HD4:=gO (HDN.out _ _ h4.drew);clear h0 h1 h2 h3 h4 HDN HD;obtain⟨k0,k1,k2,k3,k4,k5,k6⟩:=E.out.st.sv;obtain⟨q0,q1,q2,q3,q4,q5,q6⟩:=E.out.q;go_upto_region 15 with fail
    go_cut [12,13] (λs12 s13 wx=>∃(X Y:Nat) (z:Sc) (d:Option Addr) (cap:Nat),s12=aH (aK ⟨X,0,aJ⟩)/\s13=aH (aK ⟨Y,0,aJ⟩)/\lU W s v t z ⟨x,d,cap⟩ [(X,#[aA z.a1 z.n1 z.c1,aA z.hc.az 2 z.hc.cz,aA z.hc.am 2 z.hc.cm,aB aI (t.h.aAh:Int),aA z.hc.al z.hc.lc.length z.hc.cl,aA z.hc.av t.h.live.length z.hc.cv,aA z.a2 z.ys.length z.c2]),(Y,#[aB aI (x.c:Int),aB aI x.n,aA d x.l.length cap])] wx)
    case first=>
     have LG:=E.out.st.svB;have LA:=E.out.qB;clear HNT HP2 HRB aHP HK HL0 HL HR HG HO iL hn aEC hal hql Xl hlt hjl hji hj;clear k0 k1 k2 k3 k4 k5 k6 q0 q1 q2 q3 q4 q5 q6;go_region_held3 (λX=>Below W.heap.size W X) ((repeat (first | with_reducible assumption | with_reducible exact gX _ _ | with_reducible refine Below.setCell ?_ ?_ _ | with_reducible apply Below.drew | with_reducible refine gW ?_ (aAq _ _) | with_reducible refine gW ?_ (by with_reducible assumption) | (simp only;omega)))) (first | (go_at_call 21;(with_reducible refine HD0.out.mono ?_);rintro ev w5 ⟨z,d,cap,rfl,D,hb5⟩;have hs5:=D.b.size) | (go_at_call 21;(with_reducible refine HD1.out.mono ?_);rintro ev w5 ⟨z,d,cap,rfl,D,hb5⟩;have hs5:=D.b.size;obtain⟨K51,F51,WY⟩:=D.k1) | (go_at_call 21;(with_reducible refine HD2.out.mono ?_);rintro ev w5 ⟨z,d,cap,rfl,D,hb5⟩;have hs5:=D.b.size;obtain⟨K51,F51,WY⟩:=D.k1) | (go_at_call 21;(with_reducible refine HD3.out.mono ?_);rintro ev w5 ⟨z,d,cap,rfl,D,hb5⟩;have hs5:=D.b.size;obtain⟨K51,F51,WY⟩:=D.k1;obtain⟨K52,F52,aK7⟩:=D.k2) | (go_at_call 21;(with_reducible refine HD4.out.mono ?_);rintro ev w5 ⟨z,d,cap,rfl,D,hb5⟩;have hs5:=D.b.size;obtain⟨K51,F51,WY⟩:=D.k1;obtain⟨K52,F52,aK7⟩:=D.k2))
     all_goals (go_wp2_with fail;go_meet)
     all_goals refine⟨_,_,z,d,cap,rfl,rfl,?_⟩
     all_goals first
      |(repeat (first | with_reducible exact D | with_reducible apply lU.put7 | with_reducible apply lU.put3 | with_reducible apply lU.aCS | with_reducible apply lU.aCT | with_reducible refine lU.aAf ?_ (by simp) _));done
      |refine lU.swap ?_;(repeat (first | with_reducible exact D | with_reducible apply lU.put7 | with_reducible apply lU.put3 | with_reducible apply lU.aCS | with_reducible apply lU.aCT | with_reducible refine lU.aAf ?_ (by simp) _));done
    case rest=>
     obtain⟨X,Y,z,d,cap,rfl,rfl,Lr⟩:=hcut;obtain⟨W6,rfl⟩:∃W6,W6=wc:=⟨_,rfl⟩
     clear k0 k1 k2 k3 k4 k5 k6 q0 q1 q2 q3 q4 q5 q6 HD0 HD1 HD2 HD3 HD4;have HP:=gO Lr;have lx:=Lr.l _ (List.mem_cons_self ..);have ly:=Lr.l _ (List.mem_cons_of_mem _ (List.mem_cons_self ..));simp only at lx ly;have KX:=lx.2.2.1;have hY:=ly.1;have hY6:=ly.2.1;have HKY:=gO ly.2.2.1;have hW6:=Lr.b.size;obtain⟨x0,x1,x2,x3,x4,x5,x6⟩:=gA7 KX;clear lx ly Lr KX;obtain⟨k0,k1,k2,k3,k4,k5,k6⟩:=(E.out.st.below HP.out.b).sv;have HF6:=gO (E.out.st.below HP.out.b).fz;obtain⟨f0,f1,f2,f3,f4,f5,f6⟩:=gF7 HF6.out;have hAG:wr.heap.size≠G:=by omega
     have hYG:Y≠G:=by omega
     have NV:∀g,(Aq.sl ⟨x,d,cap⟩).ownBlock=aK g->W.heap.size<=g:=λg e=>(HP.out.o.lt g e).1
     have hs7:=(E.out.st.sys HP.out.b λX' hr=>(HP.out.c G X' hr).sub λk hk=> .inl hk).list (q:=⟨x,d,cap⟩) (own_base (uG HP.out.o (λe=>by have:=NV _ e;omega) z t) (gU _)) λg e=>⟨by have:=NV g e;omega,λr hr e'=>by have:=HRB.out r hr g e';have:=NV g e;omega⟩
     have J:Hid (Bj wr.heap.size Y G w.heap.size w t z (rws B qs L O N R) (qs++[⟨x,d,cap⟩]) C f ⟨x,d,cap⟩ (((((((W6.setCell ⟨G,0,aJ⟩ (aA z.a1 z.n1 z.c1)).setCell ⟨G,1,aJ⟩ (aA z.hc.az 2 z.hc.cz)).setCell ⟨G,2,aJ⟩ (aA z.hc.am 2 z.hc.cm)).setCell ⟨G,3,aJ⟩ (aB aI (t.h.aAh:Int))).setCell ⟨G,4,aJ⟩ (aA z.hc.al z.hc.lc.length z.hc.cl)).setCell ⟨G,5,aJ⟩ (aA z.hc.av t.h.live.length z.hc.cv)).setCell ⟨G,6,aJ⟩ (aA z.a2 z.ys.length z.c2))):=⟨hs7,aAz (gW E.out.b HP.out.b) hG0 z t,lW (aAp E.out.k E.out.a HP.out.b) hAG z t,lW HKY.out hYG z t,by have h9:(((((((W6.setCell ⟨G,0,aJ⟩ (aA z.a1 z.n1 z.c1)).setCell ⟨G,1,aJ⟩ (aA z.hc.az 2 z.hc.cz)).setCell ⟨G,2,aJ⟩ (aA z.hc.am 2 z.hc.cm)).setCell ⟨G,3,aJ⟩ (aB aI (t.h.aAh:Int))).setCell ⟨G,4,aJ⟩ (aA z.hc.al z.hc.lc.length z.hc.cl)).setCell ⟨G,5,aJ⟩ (aA z.hc.av t.h.live.length z.hc.cv)).setCell ⟨G,6,aJ⟩ (aA z.a2 z.ys.length z.c2)).heap.size=W6.heap.size:=(by simp);omega,⟨hAG,hYG⟩,λr hr=>⟨λe=>by have:=HRB.out r hr _ e;omega,λe=>by have:=HRB.out r hr _ e;omega⟩⟩
     clear hs7 NV E HF6 HKY;go_upto_region 17 with fail
     clear HP k0 k1 k2 k3 k4 k5 k6 f0 f1 f2 f3 f4 f5 f6 x0 x1 x2 x3 x4 x5 x6;have hWX:w.heap.size<=(((((((W6.setCell ⟨G,0,aJ⟩ (aA z.a1 z.n1 z.c1)).setCell ⟨G,1,aJ⟩ (aA z.hc.az 2 z.hc.cz)).setCell ⟨G,2,aJ⟩ (aA z.hc.am 2 z.hc.cm)).setCell ⟨G,3,aJ⟩ (aB aI (t.h.aAh:Int))).setCell ⟨G,4,aJ⟩ (aA z.hc.al z.hc.lc.length z.hc.cl)).setCell ⟨G,5,aJ⟩ (aA z.hc.av t.h.live.length z.hc.cv)).setCell ⟨G,6,aJ⟩ (aA z.a2 z.ys.length z.c2)).heap.size:=J.out.b.size;generalize (((((((W6.setCell _ _).setCell _ _).setCell _ _).setCell _ _).setCell _ _).setCell _ _).setCell _ _)=w7 at*;go_cut [] (λwx=>∃V,Hid (Bj wr.heap.size Y G w.heap.size w t z (rws (B++[C]) qs L V N R) (qs++[⟨x,d,cap⟩]) C f ⟨x,d,cap⟩ wx))
     case first=>
      obtain⟨q0,q1,q2,q3,q4,q5,q6,_⟩:=J.out.qs;have k7:w7.cell? ⟨G,7,aJ⟩=aK (aA O.a B.length O.c):=J.out.st.k 7;have Ec:(aA O.a B.length O.c).ownBlock≠aK G:=λe=>(J.out.st.og (Qc B O) (by simp[rws]) G e).1 rfl
      have Qy:=J.out.st.lt;have hAl:=J.out.a.1;have hYl:=J.out.a.2;have hbd:Below w7.heap.size w7 (w7.alloc (aO #[aB aI C.k,aB aI C.u,aB aI C.n,aB aI C.m,aB aI C.p,aB aI C.f,aF ⟨C.s.toArray⟩] 70)).drew:=(aAq w7 _).drew;have F:=gO (J.out.below (by omega:w.heap.size<=w7.heap.size) hbd);have zF:=gO (World.news_of_block (w:=(w7.alloc (aO #[aB aI C.k,aB aI C.u,aB aI C.n,aB aI C.m,aB aI C.p,aB aI C.f,aF ⟨C.s.toArray⟩] 70)).drew) (heap_alloc_new w7 _));have HO2:=gO (F.out.st.o.each (Qc B O) (by simp[rws]));have hds:=hbd.size;obtain⟨ti,hti,htz,hts,htb⟩:=info_parts aBU;go_region_law (refine step_append_lies _ rfl _ _ 43 rfl 0 70 ti (aC #[aB aI 0,aB aI 0,aB aI 0,aB aI 0,aB aI 0,aB aI 0,aF ⟨#[]⟩]) 7 64 underlying43 hti htz hts htb rfl (by decide) (aA O.a B.length O.c) B.length (flat lT B) rfl HO2.out ⟨w7.heap.size,0,aJ⟩ 1 1 [aB aI C.k,aB aI C.u,aB aI C.n,aB aI C.m,aB aI C.p,aB aI C.f,aF ⟨C.s.toArray⟩] rfl rfl zF.out (by simp[Value.oneCell']) (by decide) (by unfold maxLen;omega) (by omega) (gU _) _ rfl ?_;intro g7 P wq ho7 M hl7 lN;have k97:wq.cell? ⟨G,7,aJ⟩=aK (aA O.a B.length O.c):=bD F.out.st.k F.out.st.lt M (λe=>Ec e.symm) 7;have f97:wq.frozen? ⟨G,7,aJ⟩=false:=bG F.out.st.fz F.out.st.lt M (λe=>Ec e.symm) 7)
      all_goals (go_wp2_with fail)
      all_goals go_meet
      all_goals exact⟨⟨aK ⟨g7,0,aJ⟩,P⟩,F.out.grow hG0 (by omega) (i:=0) (show 0<3 by decide) M rfl hl7 7 (aA (aK ⟨g7,0,aJ⟩) (B.length+1) P) (aBP F.out.st (by omega) C ho7 M hl7 lN)⟩
     case rest=>
      obtain⟨V,K⟩:=hcut;obtain⟨w8,rfl⟩:∃w8,w8=wc:=⟨_,rfl⟩
      clear J hWX;clear w7;go_upto_region 18 with fail
      go_cut [] (λwx=>∃pt',Hid (Bj wr.heap.size Y G w.heap.size w t z (rws (B++[C]) (qs++[⟨x,d,cap⟩]) L V pt' R) (qs++[⟨x,d,cap⟩]) C f ⟨x,d,cap⟩ wx))
      case first=>
       obtain⟨_,_,_,_,_,_,_,y0,y1,y2⟩:=K.out.qs;have k8:w8.cell? ⟨G,8,aJ⟩=aK (aA N.a qs.length N.c):=K.out.st.k 8;have Ec:(aA N.a qs.length N.c).ownBlock≠aK G:=λe=>(K.out.st.og (Qd qs N) (by simp[rws]) G e).1 rfl
       have hWX:w.heap.size<=w8.heap.size:=K.out.b.size;have Qy:=K.out.st.lt;have hAl:=K.out.a.1;have hYl:=K.out.a.2;have hbd:Below w8.heap.size w8 (w8.alloc (aO #[aB aI (x.c:Int),aB aI x.n,aA d x.l.length cap] 72)).drew:=(aAq w8 _).drew;have F:=gO (K.out.below (by omega:w.heap.size<=w8.heap.size) hbd);have zF:=gO (World.news_of_block (w:=(w8.alloc (aO #[aB aI (x.c:Int),aB aI x.n,aA d x.l.length cap] 72)).drew) (heap_alloc_new w8 _));have HO2:=gO (F.out.st.o.each (Qd qs N) (by simp[rws]));have hds:=hbd.size;obtain⟨ti,hti,htz,hts,htb⟩:=info_parts Uy;go_region_law (refine step_append_lies _ rfl _ _ 44 rfl 0 72 ti (aC #[aB aI 0,aB aI 0,aA aJ 0 0]) 3 40 underlying44 hti htz hts htb rfl (by decide) (aA N.a qs.length N.c) qs.length (flat xK qs) rfl HO2.out ⟨w8.heap.size,0,aJ⟩ 1 1 [aB aI (x.c:Int),aB aI x.n,aA d x.l.length cap] rfl rfl zF.out (by simp[Value.oneCell']) (by decide) (by unfold maxLen;omega) (by omega) (gU _) _ rfl ?_;intro g7 P wq ho7 M hl7 lN;have k97:wq.cell? ⟨G,8,aJ⟩=aK (aA N.a qs.length N.c):=bD F.out.st.k F.out.st.lt M (λe=>Ec e.symm) 8;have f97:wq.frozen? ⟨G,8,aJ⟩=false:=bG F.out.st.fz F.out.st.lt M (λe=>Ec e.symm) 8)
       all_goals (go_wp2_with fail)
       all_goals go_meet
       all_goals exact⟨⟨aK ⟨g7,0,aJ⟩,P⟩,F.out.grow hG0 (by omega) (i:=1) (show 1<3 by decide) M rfl hl7 8 (aA (aK ⟨g7,0,aJ⟩) (qs.length+1) P) (aBQ F.out.st (by omega) ⟨x,d,cap⟩ ho7 M hl7 lN)⟩
      case rest=>
       obtain⟨pt',HM9⟩:=hcut;obtain⟨w9,rfl⟩:∃w9,w9=wc:=⟨_,rfl⟩
       clear K;clear w8;obtain⟨q0,q1,q2,q3,q4,q5,q6,y0,y1,y2⟩:=HM9.out.qs;have hml:((qs++[(⟨x,d,cap⟩:Aq)]).map (·.x))=qs.map (·.x)++[x]:=by rw[List.map_append];rfl
       have HML:=gO hml;have Ef:=gO (show(B++[C]).length<=j+1 by simp;omega);have HQL:=gO (show(qs++[(⟨x,d,cap⟩:Aq)]).length<=j+1 by simp;omega);clear hml;by_cases hx0:x.c=0
       ·have aK8:(x.c:Int)=0:=by omega
        have hll:=WX L C x i aEC;have hno:=aBO G w.heap.size t z (B++[C]) (qs++[⟨x,d,cap⟩]) (qs++[⟨x,d,cap⟩]) L V pt' R C.k C.u C.n C.m C.p C.f C.s x d cap i iv w9 HM9.out.st HM9.out.b.size (by omega) hG0 (List.mem_append_right _ (gTa.2 rfl)) (HNT.out hx0);rw[aK8]at hno;have VI:=gO hno;have HPN:Hid (Qs h (j+1) t (lF L C x i) (B++[C]) ((qs++[(⟨x,d,cap⟩:Aq)]).map (·.x))):=by
         rw[HML.out];have h9:=HP2.out;rw[if_pos hx0]at h9;exact h9
        have HX0:=gO hx0;clear hno hx0 HNT HP2;go_wp2_with (go_at_call 62;refine VI.out.mono ?_;rintro ev wn ⟨pw',rfl,hsn,hbn⟩)
        go_roundw
        case rel=>exact⟨j+1,t,z,lF L C x i,B++[C],qs++[Aq.mk x d cap],V,pt',pw',by omega,by go_num,hsn,HPN.out,Below.trans HM9.out.b hbn,by omega,Ef.out,HQL.out⟩
        case measure=>simp[intOf];omega
       ·have aK8:¬(x.c:Int)=0:=by omega
        have HPN:Hid (Qs h (j+1) t L (B++[C]) ((qs++[(⟨x,d,cap⟩:Aq)]).map (·.x))):=by
         rw[HML.out];have h9:=HP2.out;rw[if_neg hx0]at h9;exact h9
        clear hx0 HNT HP2;go_wp2_with fail
        go_roundw
        case rel=>exact⟨j+1,t,z,L,B++[C],qs++[Aq.mk x d cap],V,pt',R,by omega,by go_num,HM9.out.st,HPN.out,HM9.out.b,by omega,Ef.out,HQL.out⟩
        case measure=>simp[intOf];omega
  ·obtain rfl:j=n:=by omega
   go_wp2_with fail
   all_goals go_ret2
   all_goals exact⟨G,s,v,L,B,qs,O,N,R,j,rfl,hG0,T.out,SX.out,hn.1,hn.2,Xl,yO.out⟩
end Go.Proofs.YtjaogfhcnmjkiaaGreatDoor
