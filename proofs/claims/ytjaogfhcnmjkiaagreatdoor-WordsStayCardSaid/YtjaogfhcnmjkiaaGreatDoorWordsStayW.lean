/- the walk of this law. -/
import Derived.Test.YtjaogfhcnmjkiaaGreatDoorSG34
set_option linter.all false
set_option maxRecDepth 100000
set_option maxHeartbeats 0
namespace Go.Proofs.YtjaogfhcnmjkiaaGreatDoor
open Go.Value renaming slice->aA,int->aB,agg->aC,string->aF,tuple->aG,pointer->aH,ownBlock->gTh
open Go.IntKind renaming i64->aI
open Option renaming none->aJ,some->aK
open Go.Ending renaming returned->aN
open Go.Obj renaming cells->aO
open Go.Proofs.Tryz
open Go.RowKit Go.WideShapes Go.ChangeShapes
theorem GX (a:Option Addr)(n c:Nat)(l:List Rw)(hl:l.length=n){w:World}(hr:Row w a (flat rF l))(hnc:n<=c)(hcm:c<=maxLen)(hwf:∀r∈l,r.wf)(x:Int)(hx:(Lit.int .i64 x).wf=true)(y:Int)(hy:(Lit.int .i64 y).wf=true)(z:Int)(hz:(Lit.int .i64 z).wf=true)(ho:sS w)(hsz:yD w):
 Calls prog 5 #[aA a n c,aB aI x,aB aI y,aB aI z] w λev w'=>ev=aN (.bool true)/\Below w.heap.size w w':=by
 have HO:=gO ho;have iL:=gO hsz;have O:Hid (∀W,Below w.heap.size w W->Calls prog 10 #[aA a n c,aB aI x,aB aI y,aB aI z] W (Dc x y z W)):=λW hW=>xO a n c l x y z W hl (hr.below hW) hwf (gQ hnc hcm) (bounds_i64 hx) (bounds_i64 hy) (bounds_i64 hz) (ho.below hW) (hsz.below hW)
 clear hr hwf hl ho hsz hx hy hz hnc hcm;go_enter func5,ntmps5
 go_upto_region 3 with (go_at_call 9;refine(kV _ HO.out iL.out).mono ?_;rintro ev w1 ⟨rfl,C⟩)
 have Bo:=gO (O.out w1 C);clear O;go_upto_region 4 with (go_at_call 10;refine Bo.out.mono ?_;rintro ev M ⟨h,f,d,aAh,T,X,d1,Q,G,s,v,L,acts,qs,pa,pt,⟨wa,wc9⟩,rfl,I⟩)
 have N:=aAq M (aO #[aA T 2 d1,aA X 2 Q,aB aI (f:Int),aB aI (d:Int),aB aI (aAh:Int)] 29);have KU:=gO (aQ M #[aA T 2 d1,aA X 2 Q,aB aI (f:Int),aB aI (d:Int),aB aI (aAh:Int)] 29);have hsU:M.heap.size<(M.alloc (aO #[aA T 2 d1,aA X 2 Q,aB aI (f:Int),aB aI (d:Int),aB aI (aAh:Int)] 29)).heap.size:=by simp
 have e:=gO (I.below N);have H:=gO (gW C (e.out.b));have BD:Hid (∀c∈s.cs,c.ns.length<=1000):=λc hc=>gQ (e.out.i.g.nm c hc) (by decide)
 clear I N C Bo;generalize M.alloc _=Y at*;have k9:Y.cell? ⟨G,9,aJ⟩=aK (aA wa L.length wc9):=e.out.st.k 9;have hL:=e.out.l;have hwl:=e.out.i.g.ok.wl;have hlw:=e.out.st.r.at.lw;go_wp2_with fail
 go_loopw [30] (λq wr=>∃j:Nat,j<=L.length/\q=aB aI (j:Int)/\Hid (Below Y.heap.size Y wr)) (λq _=>L.length-(intOf q).toNat)
 case atStart=>exact⟨0,gU _,rfl,gX _ _⟩
 case round=>
  obtain⟨j,hj,rfl,S⟩:=hrel;by_cases J:j<L.length
  ·have hji:(j:Int)<L.length:=by omega
   have u:=gO (e.out.below S.out);obtain⟨g,hg,hgl,t0,t1,t2,t3,t4,t5⟩:=u.out.thing J;obtain rfl:wa=aK ⟨g,0,aJ⟩:=hg;have o:=gL J;obtain⟨m,hm⟩:=u.out.i.th _ o;have B:=u.out.i.room o;have HW:=gO hm.w;generalize L[j]=t at*;obtain⟨ta,tz,tk,tn,tw,tb⟩:=t;simp only at t0 t1 t2 t3 t4 t5 B HW;clear hm o;obtain⟨A,rfl⟩:∃A:Nat,ta=(A:Int):=⟨ta.toNat,by omega⟩
   obtain⟨bw,off,Z,E,F⟩:=BF u.out.st.r.at.rw (k:=A) (by omega);have P:=aAq wr (aO #[aB aI (A:Int),aB aI tz,aB aI tk,aF ⟨tn.toArray⟩,aB aI tw,.bool tb] 52);have KT:=aQ wr #[aB aI (A:Int),aB aI tz,aB aI tk,aF ⟨tn.toArray⟩,aB aI tw,.bool tb] 52;have K:=gO (gW S.out P);have R:=(P.cell (p:=⟨bw,off+A,aJ⟩) E).trans F;have k0:wr.cell? ⟨G,0,aJ⟩=aK (aA v.a1 v.n1 v.c1):=u.out.st.k 0;have U:=(P.cell (p:=⟨G,0,aJ⟩) u.out.st.lt).trans k0;rw[Z]at U;have ha1:(A:Int)<v.n1:=by omega
   have D:s.w.getD A 0=s.w[A]:=by rw[List.getD_eq_getElem?_getD,gJ (by omega)];rfl
   go_upto_region 7 with fail
   clear t0 t1 t2 t3 t4 t5 k0 E F P u;generalize wr.alloc _=w5 at*;generalize wr.heap.size=bb at*;obtain⟨b0,b1,b2,b3,b4,b5⟩:=gA6 KT;clear KT;cases tb with
   | false=>
    go_quiet (fail)
    go_wp2_with fail
    go_roundw
    case rel=>exact⟨j+1,by omega,by go_num,gW K.out (below_drewN (gX _ _) nq)⟩
    case measure=>simp[intOf];omega
   | true=>
    have V:=HW.out rfl;rw[Int.toNat_natCast,D]at V;rw[V]at R;clear V D
    go_quiet (fail)
    go_wp2_with fail
    go_roundw
    case rel=>exact⟨j+1,by omega,by go_num,gW K.out (below_drewN (gX _ _) nq)⟩
    case measure=>simp[intOf];omega
  ·obtain rfl:j=L.length:=by omega
   go_wp2_with fail
   all_goals go_ret
   all_goals exact⟨rfl,Below.trans H.out (S.out.mono H.out.size)⟩
end Go.Proofs.YtjaogfhcnmjkiaaGreatDoor
