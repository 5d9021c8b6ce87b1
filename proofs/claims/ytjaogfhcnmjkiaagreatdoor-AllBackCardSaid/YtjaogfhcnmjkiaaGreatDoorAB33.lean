/- joined. -/
import Derived.Test.YtjaogfhcnmjkiaaGreatDoorAB31
import Derived.Test.YtjaogfhcnmjkiaaGreatDoorAB32
set_option linter.all false
set_option maxRecDepth 100000
set_option maxHeartbeats 0
namespace Go.Proofs.YtjaogfhcnmjkiaaGreatDoor
open Go.RowKit
open Go.Value renaming slice->aA,int->aB,agg->aC,string->aF,tuple->aG,pointer->aH,ownBlock->gTh
open Go.IntKind renaming i64->aI
open Option renaming none->aJ,some->aK
open Go.Ending renaming returned->aN
open Go.Obj renaming cells->aO
open Go.Proofs.Tryz
variable {L:List Th}{acts:List Ac}{h:Hp}{least split:Nat}{m1 m2:Option Addr}{qs:List Aq}{s:Sy}{v:Sc}{w':World}
structure Qc (ia ib ic:Int)(w:World)(h:Hp)(split least aP:Nat)(m1 m2:Option Addr)(d1 d2 G:Nat)(s:Sy)(v:Sc)(L:List Th)(acts:List Ac)(qs:List Aq)(pa pt pw:Pl)(w':World):Prop where
 hk:fG h
 hh:h=newH (jF (zM ia ib ic)) split least aP
 cp:1<=aP/\aP<=4
 sc:s.h.aP=aP
 r:Run Dn s (dW h 6) acts (qs.map (·.x))
 i:fK s L
 g:w.heap.size<=G
 st:fF w' G w.heap.size s v (rws acts qs L pa pt pw) []
 l:L.length<=2000
 b:Below w.heap.size w w'
 bt:vW w' m1 m2 2 2 (zM ia ib ic)
 new:∀W,Below w'.heap.size w' W->Bg W->Calls prog 20 #[aC #[aA m1 2 d1,aA m2 2 d2,aB aI (split:Int),aB aI (least:Int),aB aI (aP:Int)]] W (AA h W)
theorem Qc.below {ia ib ic:Int}{w w2:World}{aP:Nat}{d1 d2 G:Nat}{pa pt pw:Pl}(x:Qc ia ib ic w h split least aP m1 m2 d1 d2 G s v L acts qs pa pt pw w')(hb:Below w'.heap.size w' w2):Qc ia ib ic w h split least aP m1 m2 d1 d2 G s v L acts qs pa pt pw w2:=
 ⟨x.hk,x.hh,x.cp,x.sc,x.r,x.i,x.g,x.st.below hb,x.l,gW x.b hb,x.bt.below hb,λW c a=>x.new W (gW hb c) a⟩
theorem Qc.thing {ia ib ic:Int}{w:World}{aP:Nat}{d1 d2 G:Nat}{pa pt pw:Pl}(x:Qc ia ib ic w h split least aP m1 m2 d1 d2 G s v L acts qs pa pt pw w'){j:Nat}(hj:j<L.length):∃g,pw.a=aK ⟨g,0,aJ⟩/\g<w'.heap.size/\w'.cell? ⟨g,j*6,aJ⟩=aK (aB aI L[j].a)/\w'.cell? ⟨g,j*6+1,aJ⟩=aK (aB aI L[j].z)/\w'.cell? ⟨g,j*6+2,aJ⟩=aK (aB aI L[j].k)/\w'.cell? ⟨g,j*6+3,aJ⟩=aK (aF ⟨L[j].n.toArray⟩)/\w'.cell? ⟨g,j*6+4,aJ⟩=aK (aB aI L[j].w)/\w'.cell? ⟨g,j*6+5,aJ⟩=aK (.bool L[j].b):=by
 obtain⟨g,e⟩:=AV x.st hj;obtain⟨c,_,d⟩:=uI x.st hj e;exact⟨g,e,d,c 0 _ rfl,c 1 _ rfl,c 2 _ rfl,c 3 _ rfl,c 4 _ rfl,c 5 _ rfl⟩
def aAe (ia ib ic:Int)(w:World)(ev:Ending)(w':World):Prop:=∃(h:Hp) (a b aP:Nat) (g e:Option Addr) (f d G:Nat) (s:Sy) (v:Sc) (L:List Th) (c:List Ac) (qs:List Aq) (j k i:Pl),ev=aN (aG #[aH (aK ⟨G,0,aJ⟩),aC #[aA g 2 f,aA e 2 d,aB aI (a:Int),aB aI (b:Int),aB aI (aP:Int)],.bool true])/\Qc ia ib ic w h a b aP g e f d G s v L c qs j k i w'
theorem aAf (a:Option Addr)(n c:Nat)(l:List Rw)(ia ib ic:Int)(w:World)(hl:l.length=n)(hr:Row w a (flat yQ l))(hwf:∀r∈l,r.wf)(hn:n<=maxLen)(ha:in64 ia)(hb:in64 ib)(hc:in64 ic)(ho:vP w)(hsz:Bg w):
 Calls prog 10 #[aA a n c,aB aI ia,aB aI ib,aB aI ic] w (aAe ia ib ic w):=by
 obtain⟨b,e,aP,en1,en2,V,P,R,T,D,J⟩:=Um ia ib ic;have HSU:Hid (∀W,Calls prog 26 #[aB aI ia,aB aI ib,aB aI ic] W λev w'=>∃g f,ev=aN (aC #[aA (aK ⟨g,0,aJ⟩) 2 2,aA (aK ⟨f,0,aJ⟩) 2 2,aB aI (b:Int),aB aI (e:Int),aB aI (aP:Int)])/\vW w' (aK ⟨g,0,aJ⟩) (aK ⟨f,0,aJ⟩) 2 2 (zM ia ib ic)/\Below W.heap.size W w'/\W.heap.size<=g/\W.heap.size<=f):=λW=>by
  have h:=Jz ia ib ic W ha hb hc;rw[en1,en2,V]at h;exact h
 obtain⟨A,u⟩:∃A,A=newH (jF (zM ia ib ic)) b e aP:=⟨_,rfl⟩
 have hk0:fG A:=by
  rw[u];exact(LH (AZ ia ib ic) P R T ⟨D,J⟩).1
 have nP:Hid (∀(W:World) (m1 m2:Option Addr) (d1 d2:Nat),vW W m1 m2 2 2 (zM ia ib ic)->Bg W->Calls prog 20 #[aC #[aA m1 2 d1,aA m2 2 d2,aB aI (b:Int),aB aI (e:Int),aB aI (aP:Int)]] W (AA A W)):=λW m1 m2 d1 d2 h1 h2=>by
  rw[u];exact Ub m1 m2 2 2 d1 d2 (zM ia ib ic) b e aP W h1 (GH ia ib ic).1 (GH ia ib ic).2 (AZ ia ib ic) P R T ⟨D,J⟩ h2
 have U:A.aP=aP:=by rw[u];rfl
 have hlv:A.live=[]:=by rw[u];rfl
 have Ot:=gO U;have HLV:=gO hlv;have HK0:=gO hk0;have HH0:=gO u;have HO:=gO ho;have kH:=gO hsz;have HL:=gO hl;have Y:=gO hr;have HWF:=gO hwf;have HZ:=gO (bI w #[aA aJ 0 0,aA aJ 0 0,aB aI 0,aB aI 0,aB aI 0] 29);have HFZ:=gO (fP w #[aA aJ 0 0,aA aJ 0 0,aB aI 0,aB aI 0,aB aI 0] 29);have HB1:=gO (aT w (aO #[aA aJ 0 0,aA aJ 0 0,aB aI 0,aB aI 0,aB aI 0] 29));have hs1:w.heap.size<(w.alloc (aO #[aA aJ 0 0,aA aJ 0 0,aB aI 0,aB aI 0,aB aI 0] 29)).heap.size:=by simp
 clear en1 en2 V P R T hk0 u U hlv ho hsz hl hr hwf ha hb hc;go_enter func10,ntmps10
 go_upto_region 1 with fail
 generalize w.alloc _=w1 at*;go_upto_region 2 with (go_at_call 26;refine(HSU.out _).mono ?_;rintro ev C ⟨g,f,rfl,hbt,O,hg1,hg2⟩)
 have Q:=aT C (aO #[aA (aK ⟨g,0,aJ⟩) 2 2,aA (aK ⟨f,0,aJ⟩) 2 2,aB aI (b:Int),aB aI (e:Int),aB aI (aP:Int)] 29);have YO:=gO (hbt.below Q);have H:=gO (gW O Q);have KU:=bI C #[aA (aK ⟨g,0,aJ⟩) 2 2,aA (aK ⟨f,0,aJ⟩) 2 2,aB aI (b:Int),aB aI (e:Int),aB aI (aP:Int)] 29;have Z:C.heap.size<(C.alloc (aO #[aA (aK ⟨g,0,aJ⟩) 2 2,aA (aK ⟨f,0,aJ⟩) 2 2,aB aI (b:Int),aB aI (e:Int),aB aI (aP:Int)] 29)).heap.size:=by simp
 have hw2:=O.size;clear hbt O Q HSU;generalize C.alloc _=z at*;obtain⟨u0,u1,u2,u3,u4⟩:=gA5 KU;have HKU:=gO KU;have m:=gO (gW HB1.out H.out);have HAS:Hid (∀W,Below z.heap.size z W->Calls prog 29 #[aA a n c,aB aI (aP:Int),aB aI 40] W (aAa aP W)):=λW K=>aB6 a n c aP l W HL.out (Y.out.below (gW m.out K)) HWF.out ⟨D,J⟩ hn
 have GK:Hid (∀(W:World) (k:List (Ac×Int)) (d:Option Addr) (B:Nat),Below z.heap.size z W->2<=k.length->k.length<=42->Row W d (flat vN k)->(∀j (hj:j<k.length),rV aP j k[j].1 k[j].2)->Calls prog 28 #[aC #[aA (aK ⟨g,0,aJ⟩) 2 2,aA (aK ⟨f,0,aJ⟩) 2 2,aB aI (b:Int),aB aI (e:Int),aB aI (aP:Int)],aA d k.length B] W (ZX A W)):=λW k d B K h1 h2 h3 h4=>
  aB2 A HK0.out HLV.out _ _ _ _ _ d k.length B k W (HO.out.below (gW m.out K)) (kH.out.below (gW m.out K)) (λW2 F=>nP.out W2 _ _ 2 2 ((YO.out.below K).below F) ((kH.out.below (gW m.out K)).below F)) rfl ⟨h1,h2⟩ h3 (by rw[Ot.out];exact h4)
 clear KU Y HWF HO HL;go_cut [12,13] (λs12 s13 wx=>∃(wz:World),Below z.heap.size z wz/\Hid (ZX A wz (aN (aG #[s12,s13])) wx))
 case first=>
  have LU:∀X,Below z.heap.size z X->X.cell? ⟨C.heap.size,0,aJ⟩=aK (aA (aK ⟨g,0,aJ⟩) 2 2)/\X.cell? ⟨C.heap.size,1,aJ⟩=aK (aA (aK ⟨f,0,aJ⟩) 2 2)/\X.cell? ⟨C.heap.size,2,aJ⟩=aK (aB aI (b:Int))/\X.cell? ⟨C.heap.size,3,aJ⟩=aK (aB aI (e:Int))/\X.cell? ⟨C.heap.size,4,aJ⟩=aK (aB aI (aP:Int)):=λX hX=>by
   have k:=aQ HKU.out Z hX;exact⟨k 0,k 1,k 2,k 3,k 4⟩
  clear u0 u1 u2 u3 u4;go_region_held3 (λX=>Below z.heap.size z X) ((repeat (first | with_reducible assumption | with_reducible exact gX _ _ | with_reducible apply Below.drew | with_reducible refine gW ?_ (by with_reducible assumption)))) (first | (go_at_call 29;refine(HAS.out _ ((gX _ _).drew)).mono ?_;rintro ev w4 ⟨k,d,B,rfl,hk2,aLw,hok,hak,hb4⟩;have q:Below z.heap.size z w4:=gW ((gX _ _).drew) hb4) | (go_at_call 28;refine(GK.out _ k d B q hk2 aLw (bJ hok) hak).mono ?_;rintro ev w5 hpl;have hpl0:=hpl;obtain⟨G,s,v,L,p,qs,pa,pt,pw,j,rfl,i,S,N,hp4,hp5,hp6,I⟩:=hpl0))
  all_goals (go_wp2_with fail;go_meet)
  all_goals exact⟨_,q,hpl⟩
 case rest=>
  obtain⟨wz,q,HPP⟩:=hcut;obtain⟨G,s,v,L,p,qs,pa,pt,pw,j,he,i,S,N,hp4,hp5,hp6,I⟩:=HPP.out;obtain⟨M,rfl⟩:∃M,M=wc:=⟨_,rfl⟩
  simp only[Ending.returned.injEq,Value.tuple.injEq,Array.mk.injEq,List.cons.injEq,and_true]at he;obtain⟨rfl,rfl⟩:=he;have y:=gW q I;have HKU5:=gO (aQ HKU.out Z y);have HZ5:=gO (aQ HZ.out hs1 (gW H.out y));have HF5:=gO (aU HFZ.out hs1 (gW H.out y));have t:w.heap.size<wz.heap.size:=by have:=q.size;have:=H.out.size;omega
  have aIa:=gO (S.low (gT _) i);have aIb:=gO (YO.out.below y);have HBY:=gO (gW m.out y);have E:=gO N;have e1:g≠w.heap.size:=by omega
  have e2:f≠w.heap.size:=by omega
  have KX:=aW (aW (aW (aW (aW HZ5.out 0 (aA (aK ⟨g,0,aJ⟩) 2 2)) 1 (aA (aK ⟨f,0,aJ⟩) 2 2)) 2 (aB aI (b:Int))) 3 (aB aI (e:Int))) 4 (aB aI (aP:Int));simp only[gE,gG,gH]at KX;have hS:=((((aIa.out.dQ i t 0 (aA (aK ⟨g,0,aJ⟩) 2 2)).dQ i t 1 (aA (aK ⟨f,0,aJ⟩) 2 2)).dQ i t 2 (aB aI (b:Int))).dQ i t 3 (aB aI (e:Int))).dQ i t 4 (aB aI (aP:Int));have x:w.heap.size<=(⟨w.heap.size,0,aJ⟩:Addr).block:=gT _;have hB:=gS (gS (gS (gS (Below.setCell HBY.out x (aA (aK ⟨g,0,aJ⟩) 2 2)) w.heap.size 1 x (aA (aK ⟨f,0,aJ⟩) 2 2)) w.heap.size 2 x (aB aI (b:Int))) w.heap.size 3 x (aB aI (e:Int))) w.heap.size 4 x (aB aI (aP:Int));have hT:=((((aIb.out.set e1 e2 0 (aA (aK ⟨g,0,aJ⟩) 2 2)).set e1 e2 1 (aA (aK ⟨f,0,aJ⟩) 2 2)).set e1 e2 2 (aB aI (b:Int))).set e1 e2 3 (aB aI (e:Int))).set e1 e2 4 (aB aI (aP:Int));have aPF:(((((M.setCell ⟨w.heap.size,0,aJ⟩ (aA (aK ⟨g,0,aJ⟩) 2 2)).setCell ⟨w.heap.size,1,aJ⟩ (aA (aK ⟨f,0,aJ⟩) 2 2)).setCell ⟨w.heap.size,2,aJ⟩ (aB aI (b:Int))).setCell ⟨w.heap.size,3,aJ⟩ (aB aI (e:Int))).setCell ⟨w.heap.size,4,aJ⟩ (aB aI (aP:Int))).heap.size=M.heap.size:=by simp
  have Md:Hid (∀W,W=(((((M.setCell ⟨w.heap.size,0,aJ⟩ (aA (aK ⟨g,0,aJ⟩) 2 2)).setCell ⟨w.heap.size,1,aJ⟩ (aA (aK ⟨f,0,aJ⟩) 2 2)).setCell ⟨w.heap.size,2,aJ⟩ (aB aI (b:Int))).setCell ⟨w.heap.size,3,aJ⟩ (aB aI (e:Int))).setCell ⟨w.heap.size,4,aJ⟩ (aB aI (aP:Int))).drew->Qc ia ib ic w A b e aP (aK ⟨g,0,aJ⟩) (aK ⟨f,0,aJ⟩) 2 2 G s v L p qs pa pt pw W/\∀o,W.cell? ⟨w.heap.size,o,aJ⟩=(#[aA (aK ⟨g,0,aJ⟩) 2 2,aA (aK ⟨f,0,aJ⟩) 2 2,aB aI (b:Int),aB aI (e:Int),aB aI (aP:Int)]:Array Value)[o]?):=by
   have hwy:=HBY.out.size;have aPG:w.heap.size<M.heap.size:=gI t I.size;generalize (((((M.setCell _ _).setCell _ _).setCell _ _).setCell _ _).setCell _ _)=wq at*;intro W K;subst K;have hd:=(gX wq.heap.size wq).drew;have hBd:=gW hB hd;have hTd:=hT.below hd;have hi2:=E.out.i2 hp4;refine⟨⟨HK0.out,HH0.out,⟨D,J⟩,E.out.cp.trans Ot.out,E.out.r,hi2,by omega,(hS.below hd).low (by omega) i,by omega,hBd,hTd,λW2 F hs2=>nP.out W2 _ _ 2 2 (hTd.below F) hs2⟩,aQ KX (by omega) hd⟩
  clear hS hB hT KX x aIa aIb E i S N I q y HPP nP GK HAS kH;obtain⟨u0,u1,u2,u3,u4⟩:=gA5 HKU5.out;obtain⟨z0,z1,z2,z3,z4⟩:=gA5 HZ5.out;obtain⟨f0,f1,f2,f3,f4⟩:=gF5 HF5.out;go_upto_region 3 with fail
  go_cut [8,10] (λs8 s10 wx=>s8=aH (aK ⟨G,0,aJ⟩)/\s10= .bool true/\Hid (Qc ia ib ic w A b e aP (aK ⟨g,0,aJ⟩) (aK ⟨f,0,aJ⟩) 2 2 G s v L p qs pa pt pw wx/\∀o,wx.cell? ⟨w.heap.size,o,aJ⟩=(#[aA (aK ⟨g,0,aJ⟩) 2 2,aA (aK ⟨f,0,aJ⟩) 2 2,aB aI (b:Int),aB aI (e:Int),aB aI (aP:Int)]:Array Value)[o]?))
  case first=>
   go_region_law fail
   all_goals (go_wp2_with fail)
   all_goals go_meet
   all_goals exact⟨rfl,rfl,Md.out _ rfl⟩
  case rest=>
   obtain⟨rfl,rfl,HX⟩:=hcut;have KX:=HX.out.2;go_wp2_with fail
   exact bodyPost_ret (v:=aG #[aH (aK ⟨G,0,aJ⟩),aC #[aA (aK ⟨g,0,aJ⟩) 2 2,aA (aK ⟨f,0,aJ⟩) 2 2,aB aI (b:Int),aB aI (e:Int),aB aI (aP:Int)],.bool true]) (by simp[results,results10,go_sem,KX]) rfl ⟨A,b,e,aP,_,_,2,2,G,s,v,L,p,qs,pa,pt,pw,rfl,HX.out.1⟩
end Go.Proofs.YtjaogfhcnmjkiaaGreatDoor
