/- the walk of this law. -/
import Derived.Test.YtjaogfhcnmjkiaaGreatDoorSG34
set_option linter.all false
set_option maxRecDepth 100000
set_option maxHeartbeats 0
namespace Go.Proofs.YtjaogfhcnmjkiaaGreatDoor
open Go.Value renaming slice->aA,int->aB,agg->aC,string->aF,tuple->aG,pointer->aH,ownBlock->gTh
open Go.IntKind renaming i64->aI
open Option renaming none->aJ,some->aK
open Go.Ending renaming returned->aN
open Go.Obj renaming cells->aO
open Go.Proofs.Tryz
open Go.RowKit Go.WideShapes Go.ChangeShapes
theorem Qp (w:World):Calls prog 11 #[aC #[aA aJ 0 0,aA aJ 0 0,aA aJ 0 0,aB aI 0,aA aJ 0 0,aA aJ 0 0,aA aJ 0 0]] w λev w'=>ev=aN (aB aI 8)/\Below w.heap.size w w':=by
 have hb:=aAq w (aO #[aA aJ 0 0,aA aJ 0 0,aA aJ 0 0,aB aI 0,aA aJ 0 0,aA aJ 0 0,aA aJ 0 0] 42);go_enter func11,ntmps11
 go_wp2
 go_ret
 exact⟨rfl,hb⟩
theorem Em (a:Option Addr)(n c:Nat)(l:List Rw)(hl:l.length=n){w:World}(hr:Row w a (flat rF l))(hnc:n<=c)(hcm:c<=maxLen)(hwf:∀r∈l,r.wf)(x:Int)(hx:(Lit.int .i64 x).wf=true)(y:Int)(hy:(Lit.int .i64 y).wf=true)(z:Int)(hz:(Lit.int .i64 z).wf=true)(ho:sS w)(hsz:yD w):
 Calls prog 3 #[aA a n c,aB aI x,aB aI y,aB aI z] w λev w'=>ev=aN (.bool true)/\Below w.heap.size w w':=by
 have HO:=gO ho;have iL:=gO hsz;have H:Hid (∀W,Below w.heap.size w W->Calls prog 10 #[aA a n c,aB aI x,aB aI y,aB aI z] W (Dc x y z W)):=λW M=>xO a n c l x y z W hl (hr.below M) hwf (gQ hnc hcm) (bounds_i64 hx) (bounds_i64 hy) (bounds_i64 hz) (ho.below M) (hsz.below M)
 clear hr hwf hl ho hsz hx hy hz hnc hcm;go_enter func3,ntmps3
 go_upto_region 3 with (go_at_call 9;refine(kV _ HO.out iL.out).mono ?_;rintro ev w1 ⟨rfl,o⟩)
 have Z:=gO (H.out w1 o);clear H;go_upto_region 4 with (go_at_call 10;refine Z.out.mono ?_;rintro ev E ⟨h,j,f,aAh,U,K,Q,I,G,s,v,L,acts,qs,pa,pt,⟨wa,wc9⟩,rfl,B⟩)
 have F:=aAq E (aO #[aA U 2 Q,aA K 2 I,aB aI (j:Int),aB aI (f:Int),aB aI (aAh:Int)] 29);have KU:=gO (aQ E #[aA U 2 Q,aA K 2 I,aB aI (j:Int),aB aI (f:Int),aB aI (aAh:Int)] 29);have hsU:E.heap.size<(E.alloc (aO #[aA U 2 Q,aA K 2 I,aB aI (j:Int),aB aI (f:Int),aB aI (aAh:Int)] 29)).heap.size:=by simp
 have e:=gO (B.below F);have q:=gO (gW o (e.out.b));have V:Hid (∀c∈s.cs,c.ns.length<=1000):=λc hc=>gQ (e.out.i.g.nm c hc) (by decide)
 clear B F o Z;generalize E.alloc _=w3 at*;obtain⟨P,k1,k2,N,Y,R,T⟩:=e.out.st.sv;have u:=gO (kE v s w3 e.out.st.r.at e.out.i.g.ok V.out);go_wp2_with fail
 refine u.out.mono ?_;rintro ev w4 ⟨rfl,m⟩;have D:=gO (gW q.out m);have k:=gO (e.out.below m);clear P k1 k2 N Y R T u m e q;obtain⟨P,k1,k2,N,Y,R,T⟩:=k.out.st.sv;have Hf:=gO (oJ v s w4 k.out.st.r.at k.out.i.g.ok V.out);go_wp2_with fail
 refine Hf.out.mono ?_;rintro ev w5 ⟨d,X,p,A⟩;replace X:ev=aN (aC #[aA d.a1 d.n1 d.c1,aA d.hc.az 2 d.hc.cz,aA d.hc.am 2 d.hc.cm,aB aI (s.h.aAh:Int),aA d.hc.al d.hc.lc.length d.hc.cl,aA d.hc.av s.h.live.length d.hc.cv,aA d.a2 d.ys.length d.c2]):=X;subst X;have O:=gO (gW D.out A);have u:=gO (kE d s w5 p.at k.out.i.g.ok V.out);clear P k1 k2 N Y R T Hf A p k D;go_wp2_with fail
 refine u.out.mono ?_;rintro ev w6 ⟨rfl,t⟩;have J:=gO (gW O.out t);clear t u;go_wp2_with fail
 refine(Qp w6).mono ?_;rintro ev w7 ⟨rfl,C⟩;have S:=gO (gW J.out C);clear C;go_wp2
 go_ret
 exact⟨rfl,S.out⟩
end Go.Proofs.YtjaogfhcnmjkiaaGreatDoor
