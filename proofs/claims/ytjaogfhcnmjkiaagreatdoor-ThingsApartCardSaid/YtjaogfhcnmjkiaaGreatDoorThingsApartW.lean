/- the walk of this law. -/
import Derived.Test.YtjaogfhcnmjkiaaGreatDoorSG34
set_option linter.all false
set_option maxRecDepth 100000
set_option maxHeartbeats 0
namespace Go.Proofs.YtjaogfhcnmjkiaaGreatDoor
open Go.Value renaming slice->aA,int->aB,agg->aC,string->aF,tuple->aG,pointer->aH,ownBlock->gTh
open Go.IntKind renaming i64->aI
open Option renaming none->aJ,some->aK
open Go.Ending renaming returned->aN
open Go.Obj renaming cells->aO
open Go.Proofs.Tryz
open Go.RowKit Go.WideShapes Go.ChangeShapes
def bw (f:Nat->Bool):List Bool:=(List.range 4096).map f
theorem pR (f:Nat->Bool):(bw f).length=4096:=by simp[bw]
theorem GZ {f g:Nat->Bool}(h:∀p,p<4096->f p=g p):bw f=bw g:=List.map_congr_left λp a=>h p (List.mem_range.1 a)
theorem aAo (f:Nat->Bool)(i:Nat)(h:i<4096):(bw f)[i]? =aK (f i):=by simp[bw,h]
theorem aEH (f:Nat->Bool)(i:Nat)(v:Bool):(bw f).set i v=bw (λp=>if p=i then v else f p):=by
 apply List.ext_getElem?;intro j;rw[List.getElem?_set];by_cases a:j<4096
 ·rw[aAo _ j a,aAo _ j a,pR];by_cases e:i=j
  ·subst e;simp[a]
  ·rw[if_neg e,if_neg (λh=>e h.symm)]
 ·have c:(bw f)[j]? =aJ:=List.getElem?_eq_none (by rw[pR];omega);have b:(bw (λp=>if p=i then v else f p))[j]? =aJ:=List.getElem?_eq_none (by rw[pR];omega);rw[c,b,pR];split
  ·rw[if_neg (by omega)]
  ·rfl
theorem aB7 (n:Nat)(hn:n=4096):(List.replicate n (Value.bool false))=(bw λ_=>false).map vB:=by
 subst hn;have e:(bw λ_=>false)=List.replicate 4096 false:=by
  unfold bw;rw[List.map_const',List.length_range]
 rw[e,List.map_replicate];rfl
def Ti (t:Th)(p:Nat):Bool:=decide (t.a<=(p:Int)/\(p:Int)<t.a+t.z)
def xR (L:List Th)(p:Nat):Bool:=L.any λt=>Ti t p
theorem Xb (L:List Th)(k:Nat)(hk:k<L.length)(p:Nat):xR (L.take (k+1)) p=(xR (L.take k) p||Ti L[k] p):=by
 unfold xR;rw[List.take_succ_eq_append_getElem hk,List.any_append];simp
theorem fF.free {s:Sy}{L:List Th}(h:fF s L){j:Nat}(hj:j<L.length){p:Nat}(hp:Ti L[j] p=true):xR (L.take j) p=false:=by
 unfold xR;rw[List.any_eq_false];intro t d;obtain⟨i,c,e⟩:=List.mem_iff_getElem.1 d;rw[List.getElem_take]at e;rw[gTc]at c;have f:i<j:=by omega
 have b:=h.apart (gJ (show i<L.length by omega)) (gJ hj) (by omega);rw[e]at b;unfold Ti at hp ⊢;have hp:=of_decide_eq_true hp;intro a;have a:=of_decide_eq_true a;omega
theorem Df (a:Option Addr)(n c:Nat)(l:List Rw)(hl:l.length=n){w:World}(hr:Row w a (flat rF l))(hnc:n<=c)(hcm:c<=maxLen)(hwf:∀r∈l,r.wf)(x:Int)(hx:(Lit.int .i64 x).wf=true)(y:Int)(hy:(Lit.int .i64 y).wf=true)(z:Int)(hz:(Lit.int .i64 z).wf=true)(ho:sS w)(hsz:yD w):
 Calls prog 4 #[aA a n c,aB aI x,aB aI y,aB aI z] w λev w'=>ev=aN (.bool true)/\Below w.heap.size w w':=by
 have HO:=gO ho;have iL:=gO hsz;have HST:Hid (∀W,Below w.heap.size w W->Calls prog 10 #[aA a n c,aB aI x,aB aI y,aB aI z] W (Dc x y z W)):=λW hW=>xO a n c l x y z W hl (hr.below hW) hwf (gQ hnc hcm) (bounds_i64 hx) (bounds_i64 hy) (bounds_i64 hz) (ho.below hW) (hsz.below hW)
 clear hr hwf hl ho hsz hx hy hz hnc hcm;go_enter func4,ntmps4
 go_upto_region 3 with (go_at_call 9;refine(kV _ HO.out iL.out).mono ?_;rintro ev w1 ⟨rfl,K⟩)
 have Bo:=gO (HST.out w1 K);clear HST;go_upto_region 4 with (go_at_call 10;refine Bo.out.mono ?_;rintro ev w2 ⟨h,q,m,aAh,m1,m2,d1,d2,G,s,v,L,acts,qs,pa,pt,⟨wa,wc9⟩,rfl,R⟩)
 have hb3:=aAq w2 (aO #[aA m1 2 d1,aA m2 2 d2,aB aI (q:Int),aB aI (m:Int),aB aI (aAh:Int)] 29);have KU:=gO (aQ w2 #[aA m1 2 d1,aA m2 2 d2,aB aI (q:Int),aB aI (m:Int),aB aI (aAh:Int)] 29);have hsU:w2.heap.size<(w2.alloc (aO #[aA m1 2 d1,aA m2 2 d2,aB aI (q:Int),aB aI (m:Int),aB aI (aAh:Int)] 29)).heap.size:=by simp
 have d:=gO (R.below hb3);have P:=gO (gW K (d.out.b));have BD:Hid (∀c∈s.cs,c.ns.length<=1000):=λc hc=>gQ (d.out.i.g.nm c hc) (by decide)
 clear R hb3 K Bo;generalize w2.alloc _=f at*;obtain⟨i0,hi,hz,D,hby⟩:=info_parts Jq;have O:v.n1=4096:=by rw[<- d.out.st.r.at.lw];exact d.out.i.g.ok.wl
 have k0:f.cell? ⟨G,0,aJ⟩=aK (aA v.a1 4096 v.c1):=by have h:=d.out.st.k 0;rw[<- O];exact h
 go_wp2_with (at_make;refine wpList_make_full _ rfl _ _ 50 rfl f.heap.size 4 i0 (.bool false) 1 underlying50 hi hz D .i64 .i64 _ _ 4096 rfl rfl rfl rfl ?q1 ?q2 ?q3 ?_)
 case q1=>rw[hby];omega
 case q2=>unfold maxLen;omega
 case q3=>exact gT _
 intro w4 u B;rw[toList_madeCells_one,aB7 _ rfl]at u;have HO4:Hid (w4.ownsRow f.heap.size 4 1 (aA (aK ⟨f.heap.size,0,aJ⟩) 4096 4096) 4096 ((bw (xR (L.take 0))).map vB)):=u;have E:=(gX f.heap.size f).grown B (gT _) (by simp);have T:=gO E;have N:=gO (d.out.below E);clear u B E k0 O;have k9:w4.cell? ⟨G,9,aJ⟩=aK (aA wa L.length wc9):=N.out.st.k 9;have hL:=d.out.l;have hM:=d.out.b.size;clear N;go_wp2_with fail
 go_loopw [39] (λF wr=>∃j:Nat,j<=L.length/\F=aB aI (j:Int)/\Hid (wr.ownsRow f.heap.size 4 1 (aA (aK ⟨f.heap.size,0,aJ⟩) 4096 4096) 4096 ((bw (xR (L.take j))).map vB))/\Hid (Below f.heap.size f wr)) (λF _=>L.length-(intOf F).toNat)
 case atStart=>exact⟨0,gU _,rfl,HO4.out,T.out⟩
 case round=>
  obtain⟨j,hj,rfl,I,yO⟩:=hrel;clear HO4 T k9;by_cases C:j<L.length
  ·have hji:(j:Int)<L.length:=by omega
   have JI:=gO (d.out.below yO.out);obtain⟨g,hg,hgl,t0,t1,t2,t3,t4,t5⟩:=JI.out.thing C;obtain rfl:wa=aK ⟨g,0,aJ⟩:=hg;have wB:Hid (∀p,Ti L[j] p=true->xR (L.take j) p=false):=λp hp=>d.out.i.free C hp
   have TT:Hid (∀p,xR (L.take (j+1)) p=(xR (L.take j) p||Ti L[j] p)):=Xb L j C;have J:=JI.out.i.room (gL C);generalize L[j]=t at*;obtain⟨A,hA⟩:∃A:Nat,t.a=(A:Int):=⟨t.a.toNat,by omega⟩
   obtain⟨Z,hZ⟩:∃Z:Nat,t.z=(Z:Int):=⟨t.z.toNat,by omega⟩
   obtain⟨ta,tz,tk,tn,tw,tb⟩:=t;simp only at hA hZ t0 t1 t2 t3 t4 t5 J;subst hA hZ;have hAZ:A+Z<=4096:=by omega
   have He:=aAq wr (aO #[aB aI (A:Int),aB aI (Z:Int),aB aI tk,aF ⟨tn.toArray⟩,aB aI tw,.bool tb] 52);have KT:=aQ wr #[aB aI (A:Int),aB aI (Z:Int),aB aI tk,aF ⟨tn.toArray⟩,aB aI tw,.bool tb] 52;have Y:wr.heap.size<(wr.alloc (aO #[aB aI (A:Int),aB aI (Z:Int),aB aI tk,aF ⟨tn.toArray⟩,aB aI tw,.bool tb] 52)).heap.size:=by simp
   have V:=gO (own_below I.out He (gT _));have HB5:=gO (gW yO.out He);have hne5:f.heap.size<wr.heap.size:=by
    obtain⟨g,v,e,_,h,_⟩:=fH I.out 0 (by simp[pR]);obtain rfl:f.heap.size=g:=by simpa using e
    exact h
   go_upto_region 8 with fail
   clear t0 t1 t2 t3 t4 t5 He I yO JI hgl;generalize wr.alloc _=w5 at*;generalize wr.heap.size=bb at*;clear wr;have b0:=KT 0;have b1:=KT 1;simp only[gB,gC,gD]at b0 b1;have S:=gO KT;clear KT;go_upto_block 2 with fail
   clear b0 b1;go_wp2_with fail
   go_loopw [15] (λH wq=>∃i:Nat,A<=i/\i<=A+Z/\H=aB aI (i:Int)/\Hid (wq.ownsRow f.heap.size 4 1 (aA (aK ⟨f.heap.size,0,aJ⟩) 4096 4096) 4096 ((bw (λp=>xR (L.take j) p||(decide (A<=p)&&decide (p<i)))).map vB))/\Hid (Below f.heap.size f wq)/\Hid (∀o,wq.cell? ⟨bb,o,aJ⟩=(#[aB aI (A:Int),aB aI (Z:Int),aB aI tk,aF ⟨tn.toArray⟩,aB aI tw,.bool tb]:Array Value)[o]?)/\bb<wq.heap.size) (λH _=>A+Z-(intOf H).toNat)
   case atStart=>
    refine⟨A,gT _,by omega,rfl,?_,HB5.out,S.out,Y⟩;rw[show bw (λp=>xR (L.take j) p||(decide (A<=p)&&decide (p<A)))=bw (xR (L.take j))from GZ λp _=>by
     have:(decide (A<=p)&&decide (p<A))=false:=by
      by_cases h:A<=p
      ·rw[gV (show ¬p<A by omega),Bool.and_false]
      ·rw[gV h,Bool.false_and]
     rw[this,Bool.or_false]]
    exact V.out
   case round=>
    obtain⟨i,hi1,hi2,rfl,M,HBQ,U,hsq⟩:=hrel;clear V HB5 S Y;have KQ:=U.out;have b0:=KQ 0;have b1:=KQ 1;simp only[gB,gC,gD]at b0 b1;clear KQ;by_cases KO:i<A+Z
    ·have hii:(i:Int)<A+Z:=by omega
     have X:=wB.out i (gTg (by simp only;omega));obtain⟨g,e,hg,hgs,Q,hfg⟩:=mQ M.out i (by rw[gTe,pR];omega);obtain rfl:f.heap.size=g:=by simpa using e
     have hc0:wr.cell? ⟨f.heap.size,i,aJ⟩=aK (.bool false):=by
      rw[Q];simp[bw,vB,X]
     clear Q X;clear e;go_wp2_with fail
     go_roundw
     case rel=>
      refine⟨i+1,by omega,by omega,by go_num,?_,Below.setCell HBQ.out (gT _) _,aAc U.out (by omega) _ _,by simpa using hsq⟩;have h:=(World.ownsRow.stored M.out i (vB true)).1;rw[<- List.map_set,aEH]at h;rw[show bw (λp=>xR (L.take j) p||(decide (A<=p)&&decide (p<i+1)))=bw (λp=>if p=i then true else xR (L.take j) p||(decide (A<=p)&&decide (p<i)))from GZ λp _=>by
       by_cases e:p=i
       ·subst e;rw[if_pos rfl,gTg hi1,gTg (Nat.lt_succ_self p)];simp
       ·rw[if_neg e,decide_eq_decide.2 (show p<i+1↔p<i by omega)]]
      exact h
     case measure=>simp[intOf];omega
    ·obtain rfl:i=A+Z:=by omega
     go_wp2_with fail
     go_roundw
     case rel=>
      refine⟨j+1,by omega,by go_num,?_,HBQ.out⟩;rw[show bw (xR (L.take (j+1)))=bw (λp=>xR (L.take j) p||(decide (A<=p)&&decide (p<A+Z)))from GZ λp _=>by
       rw[TT.out p];congr 1;unfold Ti;rw[<- Bool.decide_and];exact decide_eq_decide.2 (by simp only;omega)]
      exact M.out
     case measure=>simp[intOf];omega
  ·obtain rfl:j=L.length:=by omega
   go_wp2_with fail
   all_goals go_ret
   all_goals exact⟨rfl,Below.trans P.out (yO.out.mono P.out.size)⟩
end Go.Proofs.YtjaogfhcnmjkiaaGreatDoor
