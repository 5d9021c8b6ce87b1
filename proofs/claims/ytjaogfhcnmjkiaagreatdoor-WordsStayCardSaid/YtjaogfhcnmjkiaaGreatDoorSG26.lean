/- joined. -/
import Derived.Test.YtjaogfhcnmjkiaaGreatDoorSG25
set_option linter.all false
set_option maxRecDepth 100000
set_option maxHeartbeats 0
namespace Go.Proofs.YtjaogfhcnmjkiaaGreatDoor
open Go.RowKit
open Go.Value renaming slice->aA,int->aB,agg->aC,string->aF,tuple->aG,pointer->aH,ownBlock->gTh
open Go.IntKind renaming i64->aI
open Option renaming none->aJ,some->aK
open Go.Ending renaming returned->aN
open Go.Obj renaming cells->aO
open Go.Proofs.Tryz
theorem aEx (G N0:Nat)(s:Sy)(v:Sc)(acts:List Ac)(qs ys:List Aq)(L:List Th)(pa pt pw:Pl)(cu cn cm cp cf:Int)(cs:List UInt8)(x:An)(d:Option Addr)(cap i:Nat)(iv:Int)(w:World)(hg:dY w G N0 s v (rws acts qs L pa pt pw) ys)(hN:N0<=w.heap.size)(hL:L.length<=5000)(ED:N0<=G)(o:Nat)(ho:o<=4)(hxn:0<=x.n/\x.n<=256):
 Calls prog 62 #[aH (aK ⟨G,0,aJ⟩),aC #[aB aI 1,aB aI cu,aB aI (o:Int),aB aI cm,aB aI cp,aB aI cf,aF ⟨cs.toArray⟩],aC #[aB aI (x.c:Int),aB aI x.n,aA d x.l.length cap],aB aI iv] w (AZ G N0 s v acts qs ys (lF L ⟨1,cu,(o:Int),cm,cp,cf,cs⟩ x i) pa pt w):=by
 skip
 obtain⟨I,r,R,K,Q,p⟩:=boxes2 w #[aB aI 1,aB aI cu,aB aI (o:Int),aB aI cm,aB aI cp,aB aI cf,aF ⟨cs.toArray⟩] 70 #[aB aI (x.c:Int),aB aI x.n,aA d x.l.length cap] 72;have j:=gO (hg.below p);have A:=gO (p.mono hN);have S:N0<=w.heap.size:=hN;obtain⟨q0,q1,q2,q3,q4,q5,q6⟩:=gA7 I;have z0:=r 0;have z1:=r 1;have N:=r 2;simp only[gB,gC,gD]at z0 z1 N;have Ud:=gO (fun(g:Nat) (e:(aA pw.a L.length pw.c).ownBlock=aK g)=>(hg.o.lt (oP L pw) (by simp[rws]) g e).2);have Xf:G<w.heap.size:=hg.lt;clear I r R K p hg;go_enter func62,ntmps62
 go_upto_region 1 with fail
 generalize (w.alloc _).alloc _=f at*;have Qy:G<f.heap.size:=j.out.lt;have J:w.heap.size<f.heap.size:=by omega
 have k9:f.cell? ⟨G,9,aJ⟩=aK (aA pw.a L.length pw.c):=j.out.k 9;have H:(aA pw.a L.length pw.c).ownBlock≠aK G:=λe=>(j.out.og (oP L pw) (by simp[rws]) G e).1 rfl
 have T:IntKind.i64.wrap (x.n*16)=x.n*16:=IntWalk.i64_in _ (by omega);have M:IntKind.i64.wrap (16*2^o)=16*2^o:=by
  obtain rfl | rfl | rfl | rfl | rfl:o=0∨o=1∨o=2∨o=3∨o=4:=by omega
  all_goals decide
 go_upto_region 5 with fail
 have m:Below f.heap.size f (f.alloc (aO #[aB aI (x.n*16),aB aI (16*2^o),aB aI 1,aF ⟨#[]⟩,aB aI 0,.bool false] 52)).drew:=(aAq f _).drew;have b:=gO (j.out.below m);have B:=gO (Below.trans A.out (m.mono (by omega:N0<=f.heap.size)));have U:=gO (World.news_of_block (w:=(f.alloc (aO #[aB aI (x.n*16),aB aI (16*2^o),aB aI 1,aF ⟨#[]⟩,aB aI 0,.bool false] 52)).drew) (heap_alloc_new f _));have u:=gO (b.out.o.each (oP L pw) (by simp[rws]));obtain⟨V,z,t,D,E⟩:=info_parts yI;go_region_law (refine step_append_lies _ rfl _ _ 45 rfl 0 52 V (aC #[aB aI 0,aB aI 0,aB aI 0,aF ⟨#[]⟩,aB aI 0,.bool false]) 6 56 underlying45 z t D E rfl (by decide) (aA pw.a L.length pw.c) L.length (flat jZ L) rfl u.out ⟨f.heap.size,0,aJ⟩ 1 1 [aB aI (x.n*16),aB aI (16*2^o),aB aI 1,aF ⟨#[]⟩,aB aI 0,.bool false] rfl rfl U.out (by simp[Value.oneCell']) (by decide) (by unfold maxLen;omega) (by omega) (gU _) _ rfl ?_;intro P q F y h C W;have X:F.cell? ⟨G,9,aJ⟩=aK (aA pw.a L.length pw.c):=bD b.out.k b.out.lt h (λe=>H e.symm) 9;have O:F.frozen? ⟨G,9,aJ⟩=false:=bG b.out.fz b.out.lt h (λe=>H e.symm) 9)
 all_goals
  have Y:=xM b.out (gQ (by omega:N0<=f.heap.size) m.size) (⟨x.n*16,16*2^o,1,[],0,false⟩:Th) y h C W;have Z:=pO B.out (gQ (by omega:N0<=f.heap.size) m.size) b.out h ED (aA (aK ⟨P,0,aJ⟩) (L.length+1) q);exact bodyPost_ret (v:=aG #[]) (by simp[results,results62,go_sem]) rfl ⟨_,rfl,Y,Z⟩
end Go.Proofs.YtjaogfhcnmjkiaaGreatDoor
