/- joined. -/
import Derived.Test.YtjaogfhcnmjkiaaGreatDoorAB14
set_option linter.all false
set_option maxRecDepth 100000
set_option maxHeartbeats 0
namespace Go.Proofs.YtjaogfhcnmjkiaaGreatDoor
open Go.RowKit
open Go.Value renaming slice->aA,int->aB,agg->aC,string->aF,tuple->aG,pointer->aH,ownBlock->gTh
open Go.IntKind renaming i64->aI
open Option renaming none->aJ,some->aK
open Go.Ending renaming returned->aN
open Go.Obj renaming cells->aO
open Go.Proofs.Tryz
variable {a:Option Addr}{f:Nat->Bool}
theorem Cm (az am al av:Option Addr)(cz cm cl cv nl nv:Nat)(y0 y1:Zc)(lc:List Lc)(h:Hp)(w:World)(hh:HAt w az am al av nl nv y0 y1 lc h)(hk:fG h)(hnl:nl<=1000)(QS:nv<=1000):
 Calls prog 23 #[aC #[aA az 2 cz,aA am 2 cm,aB aI h.aP,aA al nl cl,aA av nv cv]] w λev w'=>∃c':Hc,ev=aN (aG #[.agg (c'.vals h.drain),aB aI 0])/\lN w' w.heap.size h.drain c'/\Below w.heap.size w w':=by
 obtain⟨x,K2,F1,F2,y,u⟩:=boxes2 w #[aA az 2 cz,aA am 2 cm,aB aI (h.aP:Int),aA al nl cl,aA av nv cv] 39 #[aA aJ 0 0,aA aJ 0 0,aB aI 0,aA aJ 0 0,aA aJ 0 0] 39;have HH:=gO (hh.below u);have HK:=gO hk;have P:=gO u;have G:h.drain.aP=h.aP:=hk.drain.2.2.1.aP;have Ot:=gO G;have b:=x 0;have d:=x 1;have i:=x 2;have e:=x 3;have f:=x 4;simp only[gB,gC,gD]at b d i e f;clear hh hk u G;go_enter func23,ntmps23
 go_wp2_with fail
 generalize (w.alloc _).alloc _=w1 at*;refine(x9 _ _ _ _ _ _ _ _ _ _ _ _ _ h w1 HH.out HK.out hnl QS).mono ?_;rintro ev F ⟨rfl,n⟩;have C:=aQ x (by omega) n;have N:=aU F1 (by omega) n;have T:=aQ K2 y n;have M:=aU F2 y n;have U:=gO (HH.out.below n);have X:=gO (Below.trans P.out (n.mono P.out.size));have s:w.heap.size+1<F.heap.size:=gI y n.size;clear b d i e f n x F1 K2 F2;have b:=C 0;have d:=C 1;have i:=C 2;have e:=C 3;have f:=C 4;simp only[gB,gC,gD]at b d i e f;go_wp2_with fail
 refine(Ar _ _ _ _ _ _ _ _ _ _ _ _ _ h F U.out HK.out QS).mono ?_;rintro ev Z ⟨g,c,rfl,I,hg3,q⟩;have z:=aQ C (by omega) q;have D:=aU N (by omega) q;have S:=gO (aQ T s q);have K:=gO (aU M s q);have H:=gO (I.move (B:=w.heap.size) (show w.heap.size<F.heap.size by omega) z D);have L:=gO (Below.trans X.out (q.mono X.out.size));clear b d i e f C N T M I HH U hg3;have b:=z 0;have d:=z 1;have i:=z 2;have e:=z 3;have f:=z 4;have W:=D 0;have Q:=D 1;have O:=D 2;have Y:=D 3;have J:=D 4;simp only[gB,gC,gD]at b d i e f;unfold Hc.vals;go_wp2_with fail
 have Ht:Hid (HS (((((Z.setCell ⟨w.heap.size,0,aJ⟩ (aA c.az 2 c.cz)).setCell ⟨w.heap.size,1,aJ⟩ (aA c.am 2 c.cm)).setCell ⟨w.heap.size,2,aJ⟩ (aB aI (h.aP:Int))).setCell ⟨w.heap.size,3,aJ⟩ (aA c.al c.lc.length c.cl)).setCell ⟨w.heap.size,4,aJ⟩ (aA c.av h.live.length c.cv)) w.heap.size (λk=>k<F.heap.size/\k≠w.heap.size) h c):=H;have j:w.heap.size+1≠w.heap.size:=by omega
 have Ou:=gO (aS (aS (aS (aS (aS S.out j 0 (aA c.az 2 c.cz)) j 1 (aA c.am 2 c.cm)) j 2 (aB aI (h.aP:Int))) j 3 (aA c.al c.lc.length c.cl)) j 4 (aA c.av h.live.length c.cv));have Qy:=gO (aV (aV (aV (aV (aV K.out ⟨w.heap.size,0,aJ⟩ (aA c.az 2 c.cz)) ⟨w.heap.size,1,aJ⟩ (aA c.am 2 c.cm)) ⟨w.heap.size,2,aJ⟩ (aB aI (h.aP:Int))) ⟨w.heap.size,3,aJ⟩ (aA c.al c.lc.length c.cl)) ⟨w.heap.size,4,aJ⟩ (aA c.av h.live.length c.cv));have m:w.heap.size<=w.heap.size:=gT _;have R:=gO (gS (gS (gS (gS (gS L.out w.heap.size 0 m (aA c.az 2 c.cz)) w.heap.size 1 m (aA c.am 2 c.cm)) w.heap.size 2 m (aB aI (h.aP:Int))) w.heap.size 3 m (aA c.al c.lc.length c.cl)) w.heap.size 4 m (aA c.av h.live.length c.cv));have qR:w.heap.size+1<(((((Z.setCell ⟨w.heap.size,0,aJ⟩ (aA c.az 2 c.cz)).setCell ⟨w.heap.size,1,aJ⟩ (aA c.am 2 c.cm)).setCell ⟨w.heap.size,2,aJ⟩ (aB aI (h.aP:Int))).setCell ⟨w.heap.size,3,aJ⟩ (aA c.al c.lc.length c.cl)).setCell ⟨w.heap.size,4,aJ⟩ (aA c.av h.live.length c.cv)).heap.size:=by have:=q.size;simp;omega
 clear b d i e f W Q O Y J z D S K H q L;generalize (((((Z.setCell _ _).setCell _ _).setCell _ _).setCell _ _).setCell _ _)=w4 at*;have p:(λk=>k<F.heap.size/\k≠w.heap.size) (w.heap.size+1):=⟨s,j⟩
 refine(Ol w.heap.size (λk=>k<F.heap.size/\k≠w.heap.size) h c w4 Ht.out HK.out).mono ?_;rintro ev w5 ⟨rfl,⟨a,A⟩,t⟩;have E:=t.box Ou.out qR p;have V:=t.WV Qy.out qR p;have HB5:=gO (Safe.after R.out t (B:=w.heap.size) (λk hk=>⟨by omega,by omega⟩) (by omega));obtain⟨q0,q1,q2,q3,q4⟩:=A.words;have pO:=gO (((((A.far p 0 (aA a.az 2 a.cz)).far p 1 (aA a.am 2 a.cm)).far p 2 (aB aI (h.drain.aP:Int))).far p 3 (aA a.al a.lc.length a.cl)).far p 4 (aA a.av h.drain.live.length a.cv));have l:w.heap.size<=w.heap.size+1:=Nat.le_succ _;have kP:=gO (gS (gS (gS (gS (gS HB5.out (w.heap.size+1) 0 l (aA a.az 2 a.cz)) (w.heap.size+1) 1 l (aA a.am 2 a.cm)) (w.heap.size+1) 2 l (aB aI (h.drain.aP:Int))) (w.heap.size+1) 3 l (aA a.al a.lc.length a.cl)) (w.heap.size+1) 4 l (aA a.av h.drain.live.length a.cv));have KX:=aW (aW (aW (aW (aW E 0 (aA a.az 2 a.cz)) 1 (aA a.am 2 a.cm)) 2 (aB aI (h.drain.aP:Int))) 3 (aA a.al a.lc.length a.cl)) 4 (aA a.av h.drain.live.length a.cv);have b:=E 0;have d:=E 1;have i:=E 2;have e:=E 3;have f:=E 4;have W:=V 0;have Q:=V 1;have O:=V 2;have Y:=V 3;have J:=V 4;simp only[gB,gC,gD]at b d i e f;clear A t Ht Ou Qy R;go_wp2
 generalize (((((w5.setCell _ _).setCell _ _).setCell _ _).setCell _ _).setCell _ _)=wx at*;change ∀o,wx.cell? ⟨w.heap.size+1,o,aJ⟩=(#[aA a.az 2 a.cz,aA a.am 2 a.cm,aB aI (h.drain.aP:Int),aA a.al a.lc.length a.cl,aA a.av h.drain.live.length a.cv]:Array Value)[o]? at KX;refine bodyPost_ret (v:=aG #[aC #[aA a.az 2 a.cz,aA a.am 2 a.cm,aB aI (h.drain.aP:Int),aA a.al a.lc.length a.cl,aA a.av h.drain.live.length a.cv],aB aI 0]) (by simp[results,results23,go_sem,KX]) rfl ⟨a,rfl,pO.out.r.sub (λk hk=>⟨by omega,by omega⟩),kP.out⟩
theorem YK (flags:Nat):mP flags<3:=by unfold mP;split <;> (try split) <;> omega
theorem CB (az am al av:Option Addr)(cz cm cl cv nl nv:Nat)(y0 y1:Zc)(lc:List Lc)(h:Hp)(cpu order flags:Nat)(w:World)(hh:HAt w az am al av nl nv y0 y1 lc h)(hk:fG h)(hnl:nl<=1000)(QS:nv<=1000)(hc:cpu<h.aP)(hor:order<=4)(hf:flags<=15)(hff:¬(flags/2%2=1/\flags/4%2=1))(ho:vP w):
 Calls prog 52 #[aC #[aA az 2 cz,aA am 2 cm,aB aI h.aP,aA al nl cl,aA av nv cv],aB aI cpu,aB aI order,aB aI flags] w λev w'=>Below w.heap.size w w'/\((h.alloc cpu order (mP flags) (decide (flags/8%2=1)) (decide (flags%2=1))=aJ/\ev=aN (aG #[aC #[aA aJ 0 0,aA aJ 0 0,aB aI 0,aA aJ 0 0,aA aJ 0 0],aB aI 0,aB aI 6]))∨(∃(h':Hp) (a:Nat) (c':Hc),h.alloc cpu order (mP flags) (decide (flags/8%2=1)) (decide (flags%2=1))=aK (h',a)/\ev=aN (aG #[.agg (c'.vals h'),aB aI (a:Nat),aB aI 0])/\lN w' w.heap.size h' c')):=by
 obtain⟨K1,K2,F1,F2,hsz,hbw⟩:=boxes2 w #[aA az 2 cz,aA am 2 cm,aB aI (h.aP:Int),aA al nl cl,aA av nv cv] 39 #[aA aJ 0 0,aA aJ 0 0,aB aI 0,aA aJ 0 0,aA aJ 0 0] 39;have HH:=gO (hh.below hbw);have HK:=gO hk;have HB1:=gO hbw;have HO:=gO ho;have HLV:Hid (h.live.length<=1000):=by unfold Hid;rw[hh.nv];exact QS
 have h0w:=ho.sz;have l:=K1 0;have m:=K1 1;have p:=K1 2;have n:=K1 3;have j:=K1 4;simp only[gB,gC,gD]at l m p n j;clear hh hk hbw ho;go_enter func52,ntmps52
 go_wp2_with fail
 generalize (w.alloc _).alloc _=w1 at*;refine(x9 _ _ _ _ _ _ _ _ _ _ _ _ _ h w1 HH.out HK.out hnl QS).mono ?_;rintro ev w2 ⟨rfl,G⟩;have FK:=aQ K1 (by omega) G;have F1a:=aU F1 (by omega) G;have K2a:=aQ K2 hsz G;have F2a:=aU F2 hsz G;have HH2:=gO (HH.out.below G);have HB2:=gO (Below.trans HB1.out (G.mono HB1.out.size));have W:w.heap.size+1<w2.heap.size:=gI hsz G.size;clear l m p n j G K1 F1 K2 F2;have l:=FK 0;have m:=FK 1;have p:=FK 2;have n:=FK 3;have j:=FK 4;simp only[gB,gC,gD]at l m p n j;have d1:decide ((cpu:Int)<0)=false:=gV (by omega);have d2:decide (h.aP<=cpu)=false:=gV (by omega);have d3:decide ((order:Int)<0)=false:=gV (by omega);have d4:decide ((4:Int)<order)=false:=gV (by omega);go_wp2_with fail
 refine(Vf flags w2 hf hff).mono ?_;rintro ev _ ⟨rfl,rfl⟩;go_wp2_with fail
 refine(Ar _ _ _ _ _ _ _ _ _ _ _ _ _ h w2 HH2.out HK.out QS).mono ?_;rintro ev w3 ⟨g,c,rfl,hs3,hg3,M⟩;have Bc:=aQ FK (by omega) M;have FM:=aU F1a (by omega) M;have K2b:=gO (aQ K2a W M);have F2b:=gO (aU F2a W M);have HS4:=gO (hs3.move (B:=w.heap.size) (show w.heap.size<w2.heap.size by omega) Bc FM);have HB3:=gO (Below.trans HB2.out (M.mono HB2.out.size));clear l m p n j FK F1a K2a F2a hs3 HH HH2 hg3;have l:=Bc 0;have m:=Bc 1;have p:=Bc 2;have n:=Bc 3;have j:=Bc 4;have f10:=FM 0;have f11:=FM 1;have f12:=FM 2;have f13:=FM 3;have f14:=FM 4;simp only[gB,gC,gD]at l m p n j;unfold Hc.vals;go_wp2_with fail
 have Ht:Hid (HS (((((w3.setCell ⟨w.heap.size,0,aJ⟩ (aA c.az 2 c.cz)).setCell ⟨w.heap.size,1,aJ⟩ (aA c.am 2 c.cm)).setCell ⟨w.heap.size,2,aJ⟩ (aB aI (h.aP:Int))).setCell ⟨w.heap.size,3,aJ⟩ (aA c.al c.lc.length c.cl)).setCell ⟨w.heap.size,4,aJ⟩ (aA c.av h.live.length c.cv)) w.heap.size (λk=>k<w2.heap.size/\k≠w.heap.size) h c):=HS4;have A:w.heap.size+1≠w.heap.size:=by omega
 have Ou:=gO (aS (aS (aS (aS (aS K2b.out A 0 (aA c.az 2 c.cz)) A 1 (aA c.am 2 c.cm)) A 2 (aB aI (h.aP:Int))) A 3 (aA c.al c.lc.length c.cl)) A 4 (aA c.av h.live.length c.cv));have Qy:=gO (aV (aV (aV (aV (aV F2b.out ⟨w.heap.size,0,aJ⟩ (aA c.az 2 c.cz)) ⟨w.heap.size,1,aJ⟩ (aA c.am 2 c.cm)) ⟨w.heap.size,2,aJ⟩ (aB aI (h.aP:Int))) ⟨w.heap.size,3,aJ⟩ (aA c.al c.lc.length c.cl)) ⟨w.heap.size,4,aJ⟩ (aA c.av h.live.length c.cv));have H:w.heap.size<=w.heap.size:=gT _;have HB4:=gO (gS (gS (gS (gS (gS HB3.out w.heap.size 0 H (aA c.az 2 c.cz)) w.heap.size 1 H (aA c.am 2 c.cm)) w.heap.size 2 H (aB aI (h.aP:Int))) w.heap.size 3 H (aA c.al c.lc.length c.cl)) w.heap.size 4 H (aA c.av h.live.length c.cv));have qR:w.heap.size+1<(((((w3.setCell ⟨w.heap.size,0,aJ⟩ (aA c.az 2 c.cz)).setCell ⟨w.heap.size,1,aJ⟩ (aA c.am 2 c.cm)).setCell ⟨w.heap.size,2,aJ⟩ (aB aI (h.aP:Int))).setCell ⟨w.heap.size,3,aJ⟩ (aA c.al c.lc.length c.cl)).setCell ⟨w.heap.size,4,aJ⟩ (aA c.av h.live.length c.cv)).heap.size:=by have:=M.size;simp;omega
 clear l m p n j f10 f11 f12 f13 f14 Bc FM K2b F2b HS4 M HB3;generalize (((((w3.setCell _ _).setCell _ _).setCell _ _).setCell _ _).setCell _ _)=w4 at*;have f:(λk=>k<w2.heap.size/\k≠w.heap.size) (w.heap.size+1):=⟨W,A⟩
 have Z:=YK flags;obtain⟨t,ht⟩:∃t,mP flags=t:=⟨_,rfl⟩
 rw[ht]at Z ⊢;have HTT:=gO ht;clear ht;have hX0:(λk=>k<w2.heap.size/\k≠w.heap.size) 1:=⟨by omega,by omega⟩
 have HO4:Hid (vP w4):=HO.out.mono HB4.out (gT _);refine(FI w.heap.size cpu order t flags (λk=>k<w2.heap.size/\k≠w.heap.size) h c w4 Ht.out HK.out hc hor Z hf HO4.out hX0).mono ?_;rintro ev w5 (⟨U,rfl,V,T⟩ | ⟨h',a,b,N,rfl,V,T⟩)
 ·have HN1:=gO U;have x:=gO V;have P:=gO T;clear U V T;obtain⟨hkd,_,hsd,hld,hvd⟩:=HK.out.drain;have HKD:=gO hkd;have hcd:cpu<h.drain.aP:=by rw[hsd.aP];exact hc
  have HVD:=gO hvd;clear hkd hsd hld hvd;go_wp2_with fail
  refine(Ol w.heap.size (λk=>k<w2.heap.size/\k≠w.heap.size) h c w5 x.out HK.out).mono ?_;rintro ev Q ⟨rfl,⟨c6,hs6⟩,sf6⟩;have u:=gO hs6;have J:=gO (P.out.trans sf6);clear hs6 sf6 x P;have HO6:Hid (vP Q):=HO4.out.safe J.out hX0;go_wp2_with fail
  refine(FI w.heap.size cpu order t flags (λk=>k<w2.heap.size/\k≠w.heap.size) h.drain c6 Q u.out HKD.out hcd hor Z hf HO6.out hX0).mono ?_;rintro ev w7 (⟨U,rfl,hs7,Y⟩ | ⟨h',a,b,N,rfl,hs7,Y⟩)
  ·have HN2:=gO U;have s:=gO (J.out.trans Y);have z:=s.out.box Ou.out qR f;have F:=s.out.WV Qy.out qR f;have L:=gO (Safe.after HB4.out s.out (B:=w.heap.size) (λk hk=>⟨by omega,by omega⟩) (by omega));have d:w.heap.size<=w.heap.size+1:=Nat.le_succ _;have kP:=gO (gS (gS (gS (gS (gS L.out (w.heap.size+1) 0 d (aA aJ 0 0)) (w.heap.size+1) 1 d (aA aJ 0 0)) (w.heap.size+1) 2 d (aB aI 0)) (w.heap.size+1) 3 d (aA aJ 0 0)) (w.heap.size+1) 4 d (aA aJ 0 0));have KX:=(aW (aW (aW (aW (aW z 0 (aA aJ 0 0)) 1 (aA aJ 0 0)) 2 (aB aI 0)) 3 (aA aJ 0 0)) 4 (aA aJ 0 0))
   have l:=z 0;have m:=z 1;have p:=z 2;have n:=z 3;have j:=z 4;have f10:=F 0;have f11:=F 1;have f12:=F 2;have f13:=F 3;have f14:=F 4;simp only[gB,gC,gD]at l m p n j;have HAN:Hid (h.alloc cpu order t (decide (flags/8%2=1)) (decide (flags%2=1))=aJ):=by
    unfold Hid Hp.alloc;rw[HN1.out];simp only;rw[HN2.out]
   clear U hs7 Y;go_wp2
   generalize (((((w7.setCell _ _).setCell _ _).setCell _ _).setCell _ _).setCell _ _)=wx at*;change ∀o,wx.cell? ⟨w.heap.size+1,o,aJ⟩=(#[aA aJ 0 0,aA aJ 0 0,aB aI 0,aA aJ 0 0,aA aJ 0 0]:Array Value)[o]? at KX;refine bodyPost_ret (v:=aG #[aC #[aA aJ 0 0,aA aJ 0 0,aB aI 0,aA aJ 0 0,aA aJ 0 0],aB aI 0,aB aI 6]) (by simp[results,results52,go_sem,KX]) rfl ⟨kP.out,.inl ⟨by rw[HTT.out];exact HAN.out,rfl⟩⟩
  ·have hT:=HKD.out.attempt hcd hor Z N;have HT:=gO hT;have x:=gO hs7;have P:=gO (J.out.trans Y);have HNV:Hid (h'.live.length<=1000):=by unfold Hid;rw[hT.live,HVD.out];exact HLV.out
   have Ea:Hid (h.alloc cpu order t (decide (flags/8%2=1)) (decide (flags%2=1))=aK ({h' with live:=dG h'.live ⟨a,order,t⟩},a)):=by
    unfold Hid Hp.alloc;rw[HN1.out];simp only;rw[N]
   clear hs7 Y N hT u J;have YL:h'.live.length<=1000:=HNV.out;have ha5:a<=1000:=by have:=HT.out.fit.2.2.1;omega
   obtain⟨q0,q1,q2,q3,q4⟩:=x.out.words;have hB5:w.heap.size<w7.heap.size:=x.out.r.gs;go_wp2_with fail
   refine(Ku _ _ _ _ _ _ _ _ _ _ _ _ _ h' a w7 x.out.r.at HT.out.ok YL ha5).mono ?_;rintro ev C ⟨rfl,hb7⟩;have u:=gO (x.out.below hb7);have J:=gO (P.out.then hb7);clear q0 q1 q2 q3 q4 hB5 hb7;obtain⟨q0,q1,q2,q3,q4⟩:=u.out.words;have aJV:w.heap.size<C.heap.size:=u.out.r.gs;obtain⟨I,hI⟩:∃I,lb h'.live a=I:=⟨_,rfl⟩
   have Vy:I<=h'.live.length:=by rw[<- hI];exact vH _ _
   have HI:=gO hI;rw[hI];clear hI;have i:=gO (u.out.below (aT C (aO #[aB aI (a:Int),aB aI (order:Int),aB aI (t:Int)] 82)));have S:=gO (J.out.then (aT C (aO #[aB aI (a:Int),aB aI (order:Int),aB aI (t:Int)] 82)));have Kz:Hid ((C.alloc (aO #[aB aI (a:Int),aB aI (order:Int),aB aI (t:Int)] 82)).heap[C.heap.size]? =aK (aO #[aB aI (a:Int),aB aI (order:Int),aB aI (t:Int)] 82 (0,0))):=heap_alloc_new C _;have KO:Hid (aK C.heap.size≠gTh (aA b.av h'.live.length b.cv)):=λe=>by
    have:=(u.out.r.own.lt _ (kT b h') _ e.symm).2;omega
   go_wp2_with fail
   generalize C.alloc _=w8 at*;refine(FN 0 b.av h'.live.length b.cv C.heap.size I h'.live ⟨a,order,t⟩ w8 i.out.r.lv Vy YL (gU _) Kz.out KO.out).mono ?_;rintro ev w9x ⟨uJ,cv',rfl,K,E,R⟩;have y:h'.live.take I++⟨a,order,t⟩::h'.live.drop I=dG h'.live ⟨a,order,t⟩:=by unfold dG;rw[HI.out]
   have q:(dG h'.live ⟨a,order,t⟩).length=h'.live.length+1:=by rw[<- y];simp;omega
   rw[y]at K;obtain⟨D,O⟩:=i.out.away E (uJ:=uJ) (cv':=cv') (v':=dG h'.live ⟨a,order,t⟩) (by rw[q];exact K) (by rw[q];exact R);have X:w.heap.size<w8.heap.size:=i.out.r.gs;have yJ:Hid (aK w.heap.size≠gTh (aA b.av h'.live.length b.cv)):=λe=>(i.out.r.og _ (kT b h') _ e.symm).1 rfl
   have r4:=(bV i.out.k X E yJ.out 4).trans (show _=aK (aA b.av h'.live.length b.cv)from rfl);have g4:=bY i.out.fz X E yJ.out 4;rw[q]at D O;have HS9:=gO D;have s:=gO (S.out.trans O);obtain⟨p0,p1,p2,p3,p4⟩:=D.words;rw[q]at p4;have z:=s.out.box Ou.out qR f;have F:=s.out.WV Qy.out qR f;have L:=gO (Safe.after HB4.out s.out (B:=w.heap.size) (λk hk=>⟨by omega,by omega⟩) (by omega));have d:w.heap.size<=w.heap.size+1:=Nat.le_succ _;have pO:=gO (((((HS9.out.far f 0 (aA b.az 2 b.cz)).far f 1 (aA b.am 2 b.cm)).far f 2 (aB aI (h'.aP:Int))).far f 3 (aA b.al b.lc.length b.cl)).far f 4 (aA uJ (h'.live.length+1) cv'));have kP:=gO (gS (gS (gS (gS (gS L.out (w.heap.size+1) 0 d (aA b.az 2 b.cz)) (w.heap.size+1) 1 d (aA b.am 2 b.cm)) (w.heap.size+1) 2 d (aB aI (h'.aP:Int))) (w.heap.size+1) 3 d (aA b.al b.lc.length b.cl)) (w.heap.size+1) 4 d (aA uJ (h'.live.length+1) cv'));have KX:=(aW (aW (aW (aW (aW z 0 (aA b.az 2 b.cz)) 1 (aA b.am 2 b.cm)) 2 (aB aI (h'.aP:Int))) 3 (aA b.al b.lc.length b.cl)) 4 (aA uJ (h'.live.length+1) cv'))
   have l:=z 0;have m:=z 1;have p:=z 2;have n:=z 3;have j:=z 4;have f10:=F 0;have f11:=F 1;have f12:=F 2;have f13:=F 3;have f14:=F 4;simp only[gB,gC,gD]at l m p n j;have GK:=gO q;clear D O K E R HS9 s i S y q L;go_wp2
   generalize ((((((w9x.setCell _ _).setCell _ _).setCell _ _).setCell _ _).setCell _ _).setCell _ _)=wx at*;change ∀o,wx.cell? ⟨w.heap.size+1,o,aJ⟩=(#[aA b.az 2 b.cz,aA b.am 2 b.cm,aB aI (h'.aP:Int),aA b.al b.lc.length b.cl,aA uJ (h'.live.length+1) cv']:Array Value)[o]? at KX;refine bodyPost_ret (v:=aG #[aC #[aA b.az 2 b.cz,aA b.am 2 b.cm,aB aI (h'.aP:Int),aA b.al b.lc.length b.cl,aA uJ (h'.live.length+1) cv'],aB aI (a:Int),aB aI 0]) (by simp[results,results52,go_sem,KX]) rfl ⟨kP.out,.inr ⟨_,a,_,by rw[HTT.out];exact Ea.out,?_,pO.out.r.sub (λk hk=>⟨by omega,by omega⟩)⟩⟩;unfold Hc.vals;simp only[GK.out]
 ·have hT:=HK.out.attempt hc hor Z N;have HT:=gO hT;have x:=gO V;have P:=gO T;have HNV:Hid (h'.live.length<=1000):=by unfold Hid;rw[hT.live];exact HLV.out
  have Ea:Hid (h.alloc cpu order t (decide (flags/8%2=1)) (decide (flags%2=1))=aK ({h' with live:=dG h'.live ⟨a,order,t⟩},a)):=by
   unfold Hid Hp.alloc;rw[N]
  clear V T N hT;have YL:h'.live.length<=1000:=HNV.out;have ha5:a<=1000:=by have:=HT.out.fit.2.2.1;omega
  obtain⟨q0,q1,q2,q3,q4⟩:=x.out.words;have hB5:w.heap.size<w5.heap.size:=x.out.r.gs;go_wp2_with fail
  refine(Ku _ _ _ _ _ _ _ _ _ _ _ _ _ h' a w5 x.out.r.at HT.out.ok YL ha5).mono ?_;rintro ev Q ⟨rfl,hb6⟩;have u:=gO (x.out.below hb6);have J:=gO (P.out.then hb6);clear q0 q1 q2 q3 q4 hB5 hb6;obtain⟨q0,q1,q2,q3,q4⟩:=u.out.words;have aJV:w.heap.size<Q.heap.size:=u.out.r.gs;obtain⟨I,hI⟩:∃I,lb h'.live a=I:=⟨_,rfl⟩
  have Vy:I<=h'.live.length:=by rw[<- hI];exact vH _ _
  have HI:=gO hI;rw[hI];clear hI;have i:=gO (u.out.below (aT Q (aO #[aB aI (a:Int),aB aI (order:Int),aB aI (t:Int)] 82)));have S:=gO (J.out.then (aT Q (aO #[aB aI (a:Int),aB aI (order:Int),aB aI (t:Int)] 82)));have Kz:Hid ((Q.alloc (aO #[aB aI (a:Int),aB aI (order:Int),aB aI (t:Int)] 82)).heap[Q.heap.size]? =aK (aO #[aB aI (a:Int),aB aI (order:Int),aB aI (t:Int)] 82 (0,0))):=heap_alloc_new Q _;have KO:Hid (aK Q.heap.size≠gTh (aA b.av h'.live.length b.cv)):=λe=>by
   have:=(u.out.r.own.lt _ (kT b h') _ e.symm).2;omega
  go_wp2_with fail
  generalize Q.alloc _=w7 at*;refine(FN 0 b.av h'.live.length b.cv Q.heap.size I h'.live ⟨a,order,t⟩ w7 i.out.r.lv Vy YL (gU _) Kz.out KO.out).mono ?_;rintro ev w8 ⟨uJ,cv',rfl,K,E,R⟩;have y:h'.live.take I++⟨a,order,t⟩::h'.live.drop I=dG h'.live ⟨a,order,t⟩:=by unfold dG;rw[HI.out]
  have q:(dG h'.live ⟨a,order,t⟩).length=h'.live.length+1:=by rw[<- y];simp;omega
  rw[y]at K;obtain⟨D,O⟩:=i.out.away E (uJ:=uJ) (cv':=cv') (v':=dG h'.live ⟨a,order,t⟩) (by rw[q];exact K) (by rw[q];exact R);have X:w.heap.size<w7.heap.size:=i.out.r.gs;have yJ:Hid (aK w.heap.size≠gTh (aA b.av h'.live.length b.cv)):=λe=>(i.out.r.og _ (kT b h') _ e.symm).1 rfl
  have r4:=(bV i.out.k X E yJ.out 4).trans (show _=aK (aA b.av h'.live.length b.cv)from rfl);have g4:=bY i.out.fz X E yJ.out 4;rw[q]at D O;have HS9:=gO D;have s:=gO (S.out.trans O);obtain⟨p0,p1,p2,p3,p4⟩:=D.words;rw[q]at p4;have z:=s.out.box Ou.out qR f;have F:=s.out.WV Qy.out qR f;have L:=gO (Safe.after HB4.out s.out (B:=w.heap.size) (λk hk=>⟨by omega,by omega⟩) (by omega));have d:w.heap.size<=w.heap.size+1:=Nat.le_succ _;have pO:=gO (((((HS9.out.far f 0 (aA b.az 2 b.cz)).far f 1 (aA b.am 2 b.cm)).far f 2 (aB aI (h'.aP:Int))).far f 3 (aA b.al b.lc.length b.cl)).far f 4 (aA uJ (h'.live.length+1) cv'));have kP:=gO (gS (gS (gS (gS (gS L.out (w.heap.size+1) 0 d (aA b.az 2 b.cz)) (w.heap.size+1) 1 d (aA b.am 2 b.cm)) (w.heap.size+1) 2 d (aB aI (h'.aP:Int))) (w.heap.size+1) 3 d (aA b.al b.lc.length b.cl)) (w.heap.size+1) 4 d (aA uJ (h'.live.length+1) cv'));have KX:=(aW (aW (aW (aW (aW z 0 (aA b.az 2 b.cz)) 1 (aA b.am 2 b.cm)) 2 (aB aI (h'.aP:Int))) 3 (aA b.al b.lc.length b.cl)) 4 (aA uJ (h'.live.length+1) cv'))
  have l:=z 0;have m:=z 1;have p:=z 2;have n:=z 3;have j:=z 4;have f10:=F 0;have f11:=F 1;have f12:=F 2;have f13:=F 3;have f14:=F 4;simp only[gB,gC,gD]at l m p n j;have GK:=gO q;clear D O K E R HS9 s i S y q L;go_wp2
  generalize ((((((w8.setCell _ _).setCell _ _).setCell _ _).setCell _ _).setCell _ _).setCell _ _)=wx at*;change ∀o,wx.cell? ⟨w.heap.size+1,o,aJ⟩=(#[aA b.az 2 b.cz,aA b.am 2 b.cm,aB aI (h'.aP:Int),aA b.al b.lc.length b.cl,aA uJ (h'.live.length+1) cv']:Array Value)[o]? at KX;refine bodyPost_ret (v:=aG #[aC #[aA b.az 2 b.cz,aA b.am 2 b.cm,aB aI (h'.aP:Int),aA b.al b.lc.length b.cl,aA uJ (h'.live.length+1) cv'],aB aI (a:Int),aB aI 0]) (by simp[results,results52,go_sem,KX]) rfl ⟨kP.out,.inr ⟨_,a,_,by rw[HTT.out];exact Ea.out,?_,pO.out.r.sub (λk hk=>⟨by omega,by omega⟩)⟩⟩;unfold Hc.vals;simp only[GK.out]
theorem TV:(prog.info? 133).map (λi=>(i.zero,i.size,i.bytes))=aK (aK (aC #[aB aI 0,aB aI 0]),2,16):=by kernel_rfl
theorem Eo (w:World)(vs:List Value)(t:TypeId):Row (w.alloc (.cells vs.toArray t)) (aK ⟨w.heap.size,0,aJ⟩) vs:=by
 intro j u a;exact⟨w.heap.size,0,rfl,by simp,by rw[Nat.zero_add,bI];simpa using a⟩
theorem Jk (f:Nat->Bool):∀i,(iY f i).length<=i
 | 0=>by simp[iY]
 | i+1=>by
  have ih:=Jk f i;unfold iY;split
  ·unfold mY;split
   ·split
    ·have:0<i+1:=by omega
     simp only[gTb,List.length_dropLast,List.length_cons,List.length_nil];omega
    ·simp;omega
   ·simp
  ·omega
theorem Lu {w:World}(hr:Row w a ((bl f).map vB)){k:Nat}(h:k<256):
 ∃b off,a=aK ⟨b,off,aJ⟩/\b<w.heap.size/\w.cell? ⟨b,off+k,aJ⟩=aK (.bool (f k)):=
 hr k (vB (f k)) (by rw[List.getElem?_map,RJ f k h];rfl)
theorem OZ (a:Option Addr)(cap:Nat)(f:Nat->Bool)(w:World)(hr:Row w a ((bl f).map vB)):
 Calls prog 96 #[aA a 256 cap] w λe w'=>∃a' c',e=aN (aA a' (eF f).length c')/\w'.ownsRow w.heap.size 133 2 (aA a' (eF f).length c') (eF f).length (flat jE (eF f))/\Below w.heap.size w w':=by
 go_enter func96,ntmps96
 go_wp2
 go_loopw [3,4,5,6,9] (λs3 _ _ _ R wr=>∃(i:Nat) (E:Option Addr) (x:Nat),i<=256/\R=aB aI i/\s3=aA E (iY f i).length x/\Hid (wr.ownsRow w.heap.size 133 2 (aA E (iY f i).length x) (iY f i).length (flat jE (iY f i)))/\Below w.heap.size w wr) (λ_ _ _ _ R _=>256-(intOf R).toNat)
 case atStart=>exact⟨0,aJ,0,by omega,rfl,rfl,World.ownsRow_nil _ _ _ _,gX _ _⟩
 case round=>
  obtain⟨i,E,x,hi,rfl,rfl,c,l⟩:=hrel;by_cases Q:i<256
  ·obtain⟨b,off,rfl,hb,hc⟩:=Lu (hr.below l) Q;have B:=Jk f i;cases hf:f i with
   | false=>
    have I:iY f (i+1)=iY f i:=by conv=>lhs;unfold iY;rw[hf];simp
    have HS:=gO I;rw[hf]at hc;clear I hf;go_wp2
    go_roundw
    case rel=>exact⟨i+1,E,x,by omega,by go_num,by rw[HS.out],by rw[HS.out];exact c,l⟩
    case measure=>simp[intOf];omega
   | true=>
    have I:iY f (i+1)=mY (iY f i) i:=by conv=>lhs;unfold iY;rw[hf];simp
    have HS:=gO I;rw[hf]at hc;clear I hf;generalize Z:iY f i=L at*;have q:Ll f i L:=by rw[<- Z];exact oQ f i
    clear Z;rcases List.eq_nil_or_concat L with rfl | ⟨M,r,rfl⟩
    ·have T:=gO (own_below c.out (aT wr (aO #[aB aI (i:Int),aB aI 1] 133)) (gT _));have HN:=gO (Eo wr (jE ⟨i,1⟩) 133);have O:=l.size;have X:Below w.heap.size w (wr.alloc (aO #[aB aI (i:Int),aB aI 1] 133)):=gW l (aT _ _);go_wp2_with (at_builtin;refine jO rfl _ _ 25 rfl w.heap.size 133 (aC #[aB aI 0,aB aI 0]) 2 16 underlying25 TV rfl (by decide) (by decide) _ _ _ _ rfl T.out (aK ⟨wr.heap.size,0,aJ⟩) 1 1 (jE ⟨i,1⟩) rfl rfl HN.out (by simp[jE,vI,Value.oneCell']) (by simp) (by simp;omega) ?_)
     intro a' c' w2 n d;have U:=below_grown X T.out d (gT _) (by simp;omega);have S:=gO n;clear n T HN d;go_wp2
     go_roundw
     case rel=>exact⟨i+1,a',c',by omega,by go_num,by rw[HS.out];rfl,by rw[HS.out];exact S.out,U⟩
     case measure=>simp[intOf];omega
    ·simp only[List.concat_eq_append,gTb,List.length_cons,List.length_nil,Nat.zero_add]at c B HS q ⊢;have Y:=q.low r (by simp);have C:r.small:=by unfold Rg.small;omega
     obtain⟨g,rfl,hg,u,k,H⟩:=EK kU (by decide) c.out (j:=M.length) (by simp);have J:(M++[r])[M.length]'(by simp)=r:=by simp
     rw[J]at k;have z:=k 0 (vI r.f) rfl;have K:=k 1 (vI r.s) rfl;have W:=H (M.length*2+1);simp only[vI,Nat.add_zero]at z K;have hlm:M.length<=255:=by omega
     have O:=l.size;clear k H J q;cases he:(r.f+r.s == (i:Int))with
     | true=>
      have G:mY (M++[r]) i=M++[⟨r.f,r.s+1⟩]:=by
       unfold mY;rw[List.getLast?_concat];simp only[List.dropLast_concat];rw[if_pos (eq_of_beq he)]
      rw[G]at HS;clear G;go_wp2_with (go_at_call 128;refine(rO r _ C).mono ?_;rintro e y ⟨rfl,m⟩;have aOY:=(m.cell (p:=⟨g,M.length*2,aJ⟩) u).trans z;have aOZ:=(m.cell (p:=⟨g,M.length*2+1,aJ⟩) u).trans K;have aO0:=(m.frozen (p:=⟨g,M.length*2+1,aJ⟩) u).trans W)
      have h:=(World.ownsRow.stored (own_below c.out m (gT _)) (M.length*2+1) (vI (r.s+1))).1;have t:(flat jE (M++[r])).set (M.length*2+1) (vI (r.s+1))=flat jE (M++[⟨r.f,r.s+1⟩]):=by
       rw[bG,bG,List.set_append_right _ _ (by rw[flat_length kU];omega),flat_length kU,Nat.add_sub_cancel_left];rfl
      rw[t]at h;have HH:=gO h;clear h t;go_roundw
      case rel=>
       refine⟨i+1,aK ⟨g,0,aJ⟩,x,by omega,by go_num,by rw[HS.out];simp,?_,(gW l m).setCell hg _⟩;rw[HS.out];have A:=HH.out;simp only[gTb,List.length_cons,List.length_nil,Nat.zero_add]at A ⊢;exact A
      case measure=>simp[intOf];omega
     | false=>
      have G:mY (M++[r]) i=(M++[r])++[⟨i,1⟩]:=by
       unfold mY;rw[List.getLast?_concat];simp only;rw[if_neg (by rw[beq_eq_false_iff_ne]at he;exact he)]
      rw[G]at HS;clear G;go_wp2_with fail
      refine(rO r _ C).mono ?_;rintro e y ⟨rfl,m⟩;have v:=gO (own_below (own_below c.out m (gT _)) (aT y (aO #[aB aI (i:Int),aB aI 1] 133)) (gT _));have D:=gO (Eo y (jE ⟨i,1⟩) 133);have F:=gW l m;have qR:=F.size;have N:Below w.heap.size w (y.alloc (aO #[aB aI (i:Int),aB aI 1] 133)):=gW F (aT _ _);go_wp2_with (at_builtin;refine jO rfl _ _ 25 rfl w.heap.size 133 (aC #[aB aI 0,aB aI 0]) 2 16 underlying25 TV rfl (by decide) (by decide) _ _ _ _ rfl v.out (aK ⟨y.heap.size,0,aJ⟩) 1 1 (jE ⟨i,1⟩) rfl rfl D.out (by simp[jE,vI,Value.oneCell']) (by omega) (by simp;omega) ?_)
      intro a' c' w5 o d;have V:=below_grown N v.out d (gT _) (by simp;omega);have P:=gO o;clear o v D d;go_wp2
      go_roundw
      case rel=>
       refine⟨i+1,a',c',by omega,by go_num,by rw[HS.out];simp,?_,V⟩;rw[HS.out];have A:=P.out;rw[bG];simp only[gTb,List.length_cons,List.length_nil,Nat.zero_add]at A ⊢;exact A
      case measure=>simp[intOf];omega
  ·obtain rfl:i=256:=by omega
   go_wp2
   go_ret
   exact⟨E,x,rfl,c.out,l⟩
end Go.Proofs.YtjaogfhcnmjkiaaGreatDoor
