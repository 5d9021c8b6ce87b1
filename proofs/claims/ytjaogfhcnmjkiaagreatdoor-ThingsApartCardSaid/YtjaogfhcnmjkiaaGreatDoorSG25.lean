/- joined. -/
import Derived.Test.YtjaogfhcnmjkiaaGreatDoorSG24
set_option linter.all false
set_option maxRecDepth 100000
set_option maxHeartbeats 0
namespace Go.Proofs.YtjaogfhcnmjkiaaGreatDoor
open Go.RowKit
open Go.Value renaming slice->aA,int->aB,agg->aC,string->aF,tuple->aG,pointer->aH,ownBlock->gTh
open Go.IntKind renaming i64->aI
open Option renaming none->aJ,some->aK
open Go.Ending renaming returned->aN
open Go.Obj renaming cells->aO
open Go.Proofs.Tryz
variable {L:List Th}{W2 W7:World}{acts:List Ac}{qs ys:List Aq}{s:Sy}{v:Sc}
def rws (acts:List Ac)(qs:List Aq)(L:List Th)(pa pt pw:Pl):List Rs:=[Qc acts pa,Qd qs pt,oP L pw]
theorem xM {G N0:Nat}{pa pt pw:Pl}(h:dY W2 G N0 s v (rws acts qs L pa pt pw) ys)(hN:N0<=W2.heap.size)(t:Th){g7 cap7:Nat}(ho7:W7.ownsRow 0 52 6 (aA (aK ⟨g7,0,aJ⟩) (L.length+1) cap7) (L.length+1) (flat jZ L++jZ t))(hg7:W2.grownBy W7 (aA pw.a L.length pw.c).ownBlock)(hl7:(aA pw.a L.length pw.c).ownBlock=aK g7∨g7=W2.heap.size)(lN:g7<W7.heap.size):
 dY (W7.setCell ⟨G,9,aJ⟩ (aA (aK ⟨g7,0,aJ⟩) (L.length+1) cap7)) G N0 s v (rws acts qs (L++[t]) pa pt ⟨aK ⟨g7,0,aJ⟩,cap7⟩) ys:=by
 have b:(oP (L++[t]) ⟨aK ⟨g7,0,aJ⟩,cap7⟩).v=aA (aK ⟨g7,0,aJ⟩) (L.length+1) cap7:=by simp[oP]
 have f:=h.put (i:=2) (show 2<3 by decide) (r':=oP (L++[t]) ⟨aK ⟨g7,0,aJ⟩,cap7⟩) hg7 (by
  unfold Rs.on;rw[b];have j:(oP (L++[t]) ⟨aK ⟨g7,0,aJ⟩,cap7⟩).n=L.length+1:=by simp[oP]
  have k:(oP (L++[t]) ⟨aK ⟨g7,0,aJ⟩,cap7⟩).xs=flat jZ L++jZ t:=by simp[oP,aS,flat]
  rw[j,k];exact ho7) (λg e=>by
  rw[b]at e;obtain rfl:g7=g:=by simpa[gTh]using e
  rcases hl7 with d | d
  ·exact .inl d
  ·exact .inr ⟨by omega,lN⟩) hN
 rw[b]at f;exact f
def AZ (G N0:Nat)(s:Sy)(v:Sc)(acts:List Ac)(qs ys:List Aq)(L:List Th)(pa pt:Pl)(w:World)(ev:Ending)(w':World):Prop:=∃a,ev=aN (aG #[])/\dY w' G N0 s v (rws acts qs L pa pt a) ys/\Below N0 w w'
theorem pO {w:World}{G N0:Nat}{pa pt pw:Pl}(hb:Below N0 w W2)(hN:N0<=W2.heap.size)(h:dY W2 G N0 s v (rws acts qs L pa pt pw) ys)(hg7:W2.grownBy W7 (aA pw.a L.length pw.c).ownBlock)(ED:N0<=G)(u:Value):Below N0 w (W7.setCell ⟨G,9,aJ⟩ u):=
 gS (Below.grown hb hg7 hN λk e=>(h.og (oP L pw) (by simp[rws]) k e).2) G 9 ED u
theorem aEw (G N0:Nat)(s:Sy)(v:Sc)(acts:List Ac)(qs ys:List Aq)(L:List Th)(pa pt pw:Pl)(cu cn cm cp cf:Int)(cs:List UInt8)(x:An)(d:Option Addr)(cap i:Nat)(iv:Int)(w:World)(hg:dY w G N0 s v (rws acts qs L pa pt pw) ys)(hN:N0<=w.heap.size)(hL:L.length<=5000)(ED:N0<=G):
 Calls prog 62 #[aH (aK ⟨G,0,aJ⟩),aC #[aB aI 8,aB aI cu,aB aI cn,aB aI cm,aB aI cp,aB aI cf,aF ⟨cs.toArray⟩],aC #[aB aI (x.c:Int),aB aI x.n,aA d x.l.length cap],aB aI iv] w (AZ G N0 s v acts qs ys (lF L ⟨8,cu,cn,cm,cp,cf,cs⟩ x i) pa pt w):=by
 skip
 obtain⟨I,r,Q,K,P,p⟩:=boxes2 w #[aB aI 8,aB aI cu,aB aI cn,aB aI cm,aB aI cp,aB aI cf,aF ⟨cs.toArray⟩] 70 #[aB aI (x.c:Int),aB aI x.n,aA d x.l.length cap] 72;have j:=gO (hg.below p);have A:=gO (p.mono hN);have R:N0<=w.heap.size:=hN;obtain⟨Y,q1,q2,q3,q4,q5,q6⟩:=gA7 I;have z0:=r 0;have z1:=r 1;have M:=r 2;simp only[gB,gC,gD]at z0 z1 M;have Ud:=gO (fun(g:Nat) (e:(aA pw.a L.length pw.c).ownBlock=aK g)=>(hg.o.lt (oP L pw) (by simp[rws]) g e).2);have Xf:G<w.heap.size:=hg.lt;clear I r Q K p hg;go_enter func62,ntmps62
 go_upto_region 1 with fail
 generalize (w.alloc _).alloc _=f at*;have Z:G<f.heap.size:=j.out.lt;have J:w.heap.size<f.heap.size:=by omega
 have k9:f.cell? ⟨G,9,aJ⟩=aK (aA pw.a L.length pw.c):=j.out.k 9;have H:(aA pw.a L.length pw.c).ownBlock≠aK G:=λe=>(j.out.og (oP L pw) (by simp[rws]) G e).1 rfl
 go_upto_region 3 with fail
 have m:Below f.heap.size f (f.alloc (aO #[aB aI x.n,aB aI cn,aB aI 8,aF ⟨#[]⟩,aB aI 0,.bool false] 52)).drew:=(aAq f _).drew;have b:=gO (j.out.below m);have B:=gO (Below.trans A.out (m.mono (by omega:N0<=f.heap.size)));have S:=gO (World.news_of_block (w:=(f.alloc (aO #[aB aI x.n,aB aI cn,aB aI 8,aF ⟨#[]⟩,aB aI 0,.bool false] 52)).drew) (heap_alloc_new f _));have u:=gO (b.out.o.each (oP L pw) (by simp[rws]));obtain⟨T,z,t,D,E⟩:=info_parts yI;go_region_law (refine step_append_lies _ rfl _ _ 45 rfl 0 52 T (aC #[aB aI 0,aB aI 0,aB aI 0,aF ⟨#[]⟩,aB aI 0,.bool false]) 6 56 underlying45 z t D E rfl (by decide) (aA pw.a L.length pw.c) L.length (flat jZ L) rfl u.out ⟨f.heap.size,0,aJ⟩ 1 1 [aB aI x.n,aB aI cn,aB aI 8,aF ⟨#[]⟩,aB aI 0,.bool false] rfl rfl S.out (by simp[Value.oneCell']) (by decide) (by unfold maxLen;omega) (by omega) (gU _) _ rfl ?_;intro O q F y h C U;have V:F.cell? ⟨G,9,aJ⟩=aK (aA pw.a L.length pw.c):=bD b.out.k b.out.lt h (λe=>H e.symm) 9;have N:F.frozen? ⟨G,9,aJ⟩=false:=bG b.out.fz b.out.lt h (λe=>H e.symm) 9)
 all_goals
  have W:=xM b.out (gQ (by omega:N0<=f.heap.size) m.size) (⟨x.n,cn,8,[],0,false⟩:Th) y h C U;have X:=pO B.out (gQ (by omega:N0<=f.heap.size) m.size) b.out h ED (aA (aK ⟨O,0,aJ⟩) (L.length+1) q);exact bodyPost_ret (v:=aG #[]) (by simp[results,results62,go_sem]) rfl ⟨_,rfl,W,X⟩
end Go.Proofs.YtjaogfhcnmjkiaaGreatDoor
