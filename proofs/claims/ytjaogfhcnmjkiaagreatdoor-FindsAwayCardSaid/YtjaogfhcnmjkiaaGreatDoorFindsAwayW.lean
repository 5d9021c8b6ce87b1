/- the walk of this law. -/
import Derived.Test.YtjaogfhcnmjkiaaGreatDoorSG34
set_option linter.all false
set_option maxRecDepth 100000
set_option maxHeartbeats 0
namespace Go.Proofs.YtjaogfhcnmjkiaaGreatDoor
open Go.Value renaming slice->aA,int->aB,agg->aC,string->aF,tuple->aG,pointer->aH,ownBlock->gTh
open Go.IntKind renaming i64->aI
open Option renaming none->aJ,some->aK
open Go.Ending renaming returned->aN
open Go.Obj renaming cells->aO
open Go.Proofs.Tryz
open Go.RowKit Go.WideShapes Go.ChangeShapes
theorem fF.aH2 {s:Sy}{L:List Th}(h:fF s L){x:Th}(hx:x∈L):(x.k=5/\∃i k c,s.eF i k x.a/\s.cs[i]? =aK c/\x.n∈c.ns)∨(x.k=1/\∀i k,¬s.eF i k x.a)∨x.k=8:=by
 have l:=h.g.ok;obtain⟨m,r⟩:=h.th x hx;obtain⟨a,z,k,n,w,b⟩:=x;have d:=r.k;simp only at d ⊢;cases d with
 | num hz=>exact .inr (.inr rfl)
 | Uu hh=>
  obtain⟨u,f,e,_⟩:=hh;exact .inr (.inl ⟨rfl,λi k p=>l.kZ f i k (e▸p)⟩)
 | obj i n f e h3=>
  obtain⟨o,j⟩:=dI.1 e.1;obtain⟨c,q,t⟩:=pK f;exact .inl ⟨rfl,i,o,c,j,q,t⟩
theorem bQ.at_one {s:Sy}(hk:bQ s){i k i' k':Nat}{a:Int}(h:s.eF i k a)(h':s.eF i' k' a):i=i':=by
 have b:=hk.qH h;rw[hk.qH h']at b;exact(congrArg Prod.fst (gP b)).symm
theorem GY (a:Option Addr)(n c:Nat)(l:List Rw)(hl:l.length=n){w:World}(hr:Row w a (flat rF l))(hnc:n<=c)(hcm:c<=maxLen)(hwf:∀r∈l,r.wf)(x:Int)(hx:(Lit.int .i64 x).wf=true)(y:Int)(hy:(Lit.int .i64 y).wf=true)(z:Int)(hz:(Lit.int .i64 z).wf=true)(ho:sS w)(hsz:yD w):
 Calls prog 7 #[aA a n c,aB aI x,aB aI y,aB aI z] w λev w'=>ev=aN (.bool true)/\Below w.heap.size w w':=by
 have HO:=gO ho;have iL:=gO hsz;have HST:Hid (∀W,Below w.heap.size w W->Calls prog 10 #[aA a n c,aB aI x,aB aI y,aB aI z] W (Dc x y z W)):=λW R=>xO a n c l x y z W hl (hr.below R) hwf (gQ hnc hcm) (bounds_i64 hx) (bounds_i64 hy) (bounds_i64 hz) (ho.below R) (hsz.below R)
 clear hr hwf hl ho hsz hx hy hz hnc hcm;go_enter func7,ntmps7
 go_upto_region 3 with (go_at_call 9;refine(kV _ HO.out iL.out).mono ?_;rintro ev w1 ⟨rfl,T⟩)
 have Bo:=gO (HST.out w1 T);clear HST;go_upto_region 4 with (go_at_call 10;refine Bo.out.mono ?_;rintro ev w2 ⟨h,f,m,aAh,m1,m2,d1,d2,G,s,v,L,acts,qs,pa,pt,⟨wa,wc9⟩,rfl,Z⟩)
 have hb3:=aAq w2 (aO #[aA m1 2 d1,aA m2 2 d2,aB aI (f:Int),aB aI (m:Int),aB aI (aAh:Int)] 29);have KU:=gO (aQ w2 #[aA m1 2 d1,aA m2 2 d2,aB aI (f:Int),aB aI (m:Int),aB aI (aAh:Int)] 29);have hsU:w2.heap.size<(w2.alloc (aO #[aA m1 2 d1,aA m2 2 d2,aB aI (f:Int),aB aI (m:Int),aB aI (aAh:Int)] 29)).heap.size:=by simp
 have d:=gO (Z.below hb3);have HB3:=gO (gW T (d.out.b));have BD:Hid (∀c∈s.cs,c.ns.length<=1000):=λc hc=>gQ (d.out.i.g.nm c hc) (by decide)
 clear Z hb3 T Bo;generalize w2.alloc _=w3 at*;have k9:w3.cell? ⟨G,9,aJ⟩=aK (aA wa L.length wc9):=d.out.st.k 9;have hL:=d.out.l;go_wp2_with fail
 go_loopw [36] (λP wr=>∃j:Nat,j<=L.length/\P=aB aI (j:Int)/\Hid (Below w3.heap.size w3 wr)) (λP _=>L.length-(intOf P).toNat)
 case atStart=>exact⟨0,gU _,rfl,gX _ _⟩
 case round=>
  obtain⟨j,hj,rfl,yO⟩:=hrel;clear k9;by_cases hlt:j<L.length
  ·have hji:(j:Int)<L.length:=by omega
   have F:=gO (d.out.below yO.out);obtain⟨g,hg,hgl,t0,t1,t2,t3,t4,t5⟩:=F.out.thing hlt;obtain rfl:wa=aK ⟨g,0,aJ⟩:=hg;have A:=gL hlt;have M:=F.out.i.room A;have N:=F.out.i.aH2 A;generalize L[j]=t at*;obtain⟨E,tz,tk,Y,tw,tb⟩:=t;simp only at t0 t1 t2 t3 t4 t5 M N;have HOB:=gO N;have He:=aAq wr (aO #[aB aI E,aB aI tz,aB aI tk,aF ⟨Y.toArray⟩,aB aI tw,.bool tb] 52);have KT:=aQ wr #[aB aI E,aB aI tz,aB aI tk,aF ⟨Y.toArray⟩,aB aI tw,.bool tb] 52;have hst:wr.heap.size<(wr.alloc (aO #[aB aI E,aB aI tz,aB aI tk,aF ⟨Y.toArray⟩,aB aI tw,.bool tb] 52)).heap.size:=by simp
   have S:=gO (gW yO.out He);go_upto_region 7 with fail
   clear t0 t1 t2 t3 t4 t5 He yO F hgl A N;generalize wr.alloc _=C at*;generalize wr.heap.size=bb at*;clear wr;obtain⟨b0,b1,b2,b3,b4,b5⟩:=gA6 KT;have HKT:=gO KT;clear KT;have u:=gO (d.out.below S.out);have LG:=u.out.st.svB;have Oz:=gO (λW (R:Below C.heap.size C W)=>yC v s E W (u.out.below R).st.r.at u.out.i.g.ok BD.out (by omega));have LB:∀X,Below C.heap.size C X->X.cell? ⟨bb,0,aJ⟩=aK (aB aI E):=λX hX=>(hX.cell (p:=⟨bb,0,aJ⟩) hst).trans b0
   have h0:Below C.heap.size C C.drew:=(gX _ _).drew;go_cut [14,15,16] (λs14 s15 s16 wx=>∃i k e:Nat,s14=aB aI (i:Int)/\s15=aB aI (k:Int)/\s16=aB aI (e:Int)/\Hid ((e=0/\s.eF i k E)∨(e=4/\∀i k,¬s.eF i k E))/\Hid (Below C.heap.size C wx))
   case first=>
    clear b0;go_region_held3 (λX=>Below C.heap.size C X) ((first | assumption | exact gW h0 (by assumption))) (first | (go_at_call 18;refine(Oz.out _ h0).mono ?_;rintro ev U ⟨B,Q⟩;have hfq:∃i k e:Nat,ev=aN (aG #[aB aI (i:Int),aB aI (k:Int),aB aI (e:Int)])/\Hid ((e=0/\s.eF i k E)∨(e=4/\∀i k,¬s.eF i k E)):=(by rcases B with ⟨i,k,q,D⟩ | ⟨q,D⟩;exact⟨i,k,0,D,.inl ⟨rfl,q⟩⟩;exact⟨0,0,4,D,.inr ⟨rfl,q⟩⟩);obtain⟨i,k,e,rfl,hd⟩:=hfq))
    all_goals (go_wp2_with fail;go_meet)
    all_goals exact⟨i,k,e,rfl,rfl,rfl,hd,gW h0 Q⟩
   case rest=>
    obtain⟨i,k,e,rfl,rfl,rfl,HD,jA⟩:=hcut;obtain⟨U,rfl⟩:∃U,U=wc:=⟨_,rfl⟩
    clear LG LB Oz h0;have o:=gO (u.out.below jA.out);have K:=gO (gW S.out jA.out);have KT6:=aAp HKT.out hst jA.out;clear b0 b1 b2 b3 b4 b5 u S;obtain⟨b0,b1,b2,b3,b4,b5⟩:=gA6 KT6;clear KT6 HKT;go_upto_region 8 with fail
    obtain⟨k0,k1,k2,k3,k4,k5,k6⟩:=o.out.st.sv;rcases HOB.out with ⟨rfl,i',k',c',q,D,h3⟩ | ⟨rfl,q⟩ | rfl
    ·rcases HD.out with ⟨rfl,V⟩ | ⟨_,V⟩
     ·obtain rfl:=o.out.i.g.ok.at_one V q;obtain⟨hil,hie⟩:=gK.1 D;have hyl:v.ys.length=s.cs.length:=by rw[<- o.out.st.r.cy,gTe]
      have J:i<v.ys.length:=by omega
      have O:v.ys[i].c=c':=by
       rw[<- hie];have h9:=congrArg (·[i]?) o.out.st.r.cy;simp[J,hil]at h9;exact h9
      obtain⟨gc,ha2,o9,Lu,Rz,hcc⟩:=o.out.st.r.TN J;obtain⟨H,_,_⟩:=o.out.st.r.y (gL J);generalize v.ys[i]=y at*;have I:y.c.ns.length=y.n1:=aZ bF (by decide) H;have hn1:y.n1<=1000:=by rw[<- I,O];exact BD.out c' (gM D)
      have c0:=(hcc 0 (by decide)).1;simp only[dX,vI,gC,gD,Nat.add_zero]at c0;have hct:y.c.ns.contains Y=true:=by rw[O];exact List.contains_iff_mem.2 h3
      have HC:Hid (∀W,Below U.heap.size U W->Calls prog 19 #[aA y.a1 y.n1 y.c1,aF ⟨Y.toArray⟩] W λe w'=>e=aN (.bool true)/\w'=W):=λW R=>by
       have h9:=uS y.a1 y.n1 y.c1 y.c.ns Y W I (by omega) ((aV H).below R);rw[hct]at h9;exact h9.mono λ_ _ h=>⟨h.1,h.2.symm⟩
      have hii:(i:Int)<v.ys.length:=by omega
      rw[ha2]at k6;clear hct H hcc O q D h3 V hie hil hyl I ha2
      go_quiet ((go_at_call 19;exact Calls.quiet_of_same (HC.out _ (below_drewN (gX _ _) _))))
      go_wp2_with fail
      exact⟨⟨j+1,by omega,by go_num,gW K.out (below_drewN (gX _ _) nq)⟩,by simp[intOf];omega⟩
     ·exact absurd q (V i' k')
    ·rcases HD.out with ⟨_,V⟩ | ⟨rfl,_⟩
     ·exact absurd V (q i k)
     ·go_quiet (fail)
      go_wp2_with fail
      exact⟨⟨j+1,by omega,by go_num,gW K.out (below_drewN (gX _ _) nq)⟩,by simp[intOf];omega⟩
    ·go_quiet (fail)
     go_wp2_with fail
     exact⟨⟨j+1,by omega,by go_num,gW K.out (below_drewN (gX _ _) nq)⟩,by simp[intOf];omega⟩
  ·obtain rfl:j=L.length:=by omega
   have F:=gO (d.out.below yO.out);obtain⟨k0,k1,k2,k3,k4,k5,k6⟩:=F.out.st.sv;have Oz:=gO (yC v s (-1) wr F.out.st.r.at F.out.i.g.ok BD.out (by omega));have VI:Hid (∀i k,¬s.eF i k (-1)):=λi k ⟨c,x',_,_,ho⟩=>by
    have:=(jV ho.1).1;omega
   go_wp2_with (go_at_call 18;refine Oz.out.mono ?_;rintro ev U ⟨B,Q⟩;(replace B:ev=aN (aG #[aB aI 0,aB aI 0,aB aI 4]):=(by rcases B with ⟨i,k,q,D⟩ | ⟨q,D⟩;exact absurd q (VI.out i k);exact D));subst B)
   all_goals go_ret
   all_goals exact⟨rfl,Below.trans HB3.out ((gW yO.out Q).mono HB3.out.size)⟩
end Go.Proofs.YtjaogfhcnmjkiaaGreatDoor
