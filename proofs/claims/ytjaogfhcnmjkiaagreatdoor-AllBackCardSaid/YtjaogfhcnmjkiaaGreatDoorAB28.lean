/- joined. -/
import Derived.Test.YtjaogfhcnmjkiaaGreatDoorAB27
import Derived.Deep.DeepHandedRow
import Derived.Lib.LaidTab
set_option linter.all false
set_option maxRecDepth 100000
set_option maxHeartbeats 0
namespace Go.Proofs.YtjaogfhcnmjkiaaGreatDoor
open Go.RowKit
open Go.Value renaming slice->aA,int->aB,agg->aC,string->aF,tuple->aG,pointer->aH,ownBlock->gTh
open Go.IntKind renaming i64->aI
open Option renaming none->aJ,some->aK
open Go.Ending renaming returned->aN
open Go.Obj renaming cells->aO
open Go.Proofs.Tryz
variable {A:Array Value}{G N0 b base cpu fuel i j k n:Nat}{L:List Th}{W W2 W7 w w0:World}{a f:Int}{a0 a1 a2 a3 a4 a5 a6:Value}{acts:List Ac}{c:Ca}{cs:List Value}{h0:Hp}{held:Bool}{m:List UInt8}{qs ys:List Aq}{rs:List Rs}{s s' t:Sy}{sp:Nat->Bool}{v:Sc}{x:Sl}
theorem aEw (G N0:Nat)(s:Sy)(v:Sc)(acts:List Ac)(qs ys:List Aq)(L:List Th)(pa pt pw:Pl)(cu cn cm cp cf:Int)(cs:List UInt8)(x:An)(d:Option Addr)(cap i:Nat)(iv:Int)(w:World)(hg:fF w G N0 s v (rws acts qs L pa pt pw) ys)(hN:N0<=w.heap.size)(hL:L.length<=5000)(Es:N0<=G)(o:Nat)(ho:o<=4)(hxn:0<=x.n/\x.n<=256):
 Calls prog 62 #[aH (aK ⟨G,0,aJ⟩),aC #[aB aI 1,aB aI cu,aB aI (o:Int),aB aI cm,aB aI cp,aB aI cf,aF ⟨cs.toArray⟩],aC #[aB aI (x.c:Int),aB aI x.n,aA d x.l.length cap],aB aI iv] w (AQ G N0 s v acts qs ys (lC L ⟨1,cu,(o:Int),cm,cp,cf,cs⟩ x i) pa pt w):=by
 skip
 obtain⟨H,r,R,K,Q,p⟩:=boxes2 w #[aB aI 1,aB aI cu,aB aI (o:Int),aB aI cm,aB aI cp,aB aI cf,aF ⟨cs.toArray⟩] 70 #[aB aI (x.c:Int),aB aI x.n,aA d x.l.length cap] 72;have j:=gO (hg.below p);have A:=gO (p.mono hN);have S:N0<=w.heap.size:=hN;obtain⟨q0,q1,q2,q3,q4,q5,q6⟩:=gA7 H;have z0:=r 0;have z1:=r 1;have N:=r 2;simp only[gB,gC,gD]at z0 z1 N;have TK:=gO (fun(g:Nat) (e:(aA pw.a L.length pw.c).ownBlock=aK g)=>(hg.o.lt (pU L pw) (by simp[rws]) g e).2);have WW:G<w.heap.size:=hg.lt;clear H r R K p hg;go_enter func62,ntmps62
 go_upto_region 1 with fail
 generalize (w.alloc _).alloc _=f at*;have ZU:G<f.heap.size:=j.out.lt;have I:w.heap.size<f.heap.size:=by omega
 have k9:f.cell? ⟨G,9,aJ⟩=aK (aA pw.a L.length pw.c):=j.out.k 9;have J:(aA pw.a L.length pw.c).ownBlock≠aK G:=λe=>(j.out.og (pU L pw) (by simp[rws]) G e).1 rfl
 have U:IntKind.i64.wrap (x.n*16)=x.n*16:=IntWalk.i64_in _ (by omega);have M:IntKind.i64.wrap (16*2^o)=16*2^o:=by
  obtain rfl | rfl | rfl | rfl | rfl:o=0∨o=1∨o=2∨o=3∨o=4:=by omega
  all_goals decide
 go_upto_region 5 with fail
 have m:Below f.heap.size f (f.alloc (aO #[aB aI (x.n*16),aB aI (16*2^o),aB aI 1,aF ⟨#[]⟩,aB aI 0,.bool false] 52)).drew:=(aT f _).drew;have b:=gO (j.out.below m);have B:=gO (Below.trans A.out (m.mono (by omega:N0<=f.heap.size)));have T:=gO (World.news_of_block (w:=(f.alloc (aO #[aB aI (x.n*16),aB aI (16*2^o),aB aI 1,aF ⟨#[]⟩,aB aI 0,.bool false] 52)).drew) (heap_alloc_new f _));have u:=gO (b.out.o.each (pU L pw) (by simp[rws]));obtain⟨V,z,t,D,E⟩:=info_parts yF;go_region_law (refine step_append_lies _ rfl _ _ 45 rfl 0 52 V (aC #[aB aI 0,aB aI 0,aB aI 0,aF ⟨#[]⟩,aB aI 0,.bool false]) 6 56 underlying45 z t D E rfl (by decide) (aA pw.a L.length pw.c) L.length (flat lY L) rfl u.out ⟨f.heap.size,0,aJ⟩ 1 1 [aB aI (x.n*16),aB aI (16*2^o),aB aI 1,aF ⟨#[]⟩,aB aI 0,.bool false] rfl rfl T.out (by simp[Value.oneCell']) (by decide) (by unfold maxLen;omega) (by omega) (gU _) _ rfl ?_;intro P q F y h C Y;have W:F.cell? ⟨G,9,aJ⟩=aK (aA pw.a L.length pw.c):=bV b.out.k b.out.lt h (λe=>J e.symm) 9;have O:F.frozen? ⟨G,9,aJ⟩=false:=bY b.out.fz b.out.lt h (λe=>J e.symm) 9)
 all_goals
  have X:=xO b.out (gQ (by omega:N0<=f.heap.size) m.size) (⟨x.n*16,16*2^o,1,[],0,false⟩:Th) y h C Y;have Z:=qI B.out (gQ (by omega:N0<=f.heap.size) m.size) b.out h Es (aA (aK ⟨P,0,aJ⟩) (L.length+1) q);exact bodyPost_ret (v:=aG #[]) (by simp[results,results62,go_sem]) rfl ⟨_,rfl,X,Z⟩
theorem aBR {pa pt pw:Pl}(h:fF W2 G N0 s v (rws acts qs L pa pt pw) ys)(hN:N0<=W2.heap.size)(hi:i<L.length)(ho7:W7.ownsRow 0 52 6 (aA pw.a (L.length-1) pw.c) (L.length-1) (flat lY (L.eraseIdx i)))(hg7:W2.grownBy W7 (aA pw.a L.length pw.c).ownBlock):
 fF (W7.setCell ⟨G,9,aJ⟩ (aA pw.a (L.length-1) pw.c)) G N0 s v (rws acts qs (L.eraseIdx i) pa pt pw) ys:=by
 have f:(L.eraseIdx i).length=L.length-1:=by rw[List.length_eraseIdx_of_lt hi]
 have d:(pU (L.eraseIdx i) pw).v=aA pw.a (L.length-1) pw.c:=by simp only[pU,f]
 have j:=h.put (i:=2) (show 2<3 by decide) (r':=pU (L.eraseIdx i) pw) hg7 (by
  unfold Rs.on;rw[d];have k:(pU (L.eraseIdx i) pw).n=L.length-1:=by simp only[pU,f]
  rw[k];exact ho7) (λg e=>by
  rw[d]at e;refine .inl ?_;show(aA pw.a L.length pw.c).ownBlock=aK g;have b:(aA pw.a L.length pw.c).ownBlock=(aA pw.a (L.length-1) pw.c).ownBlock:=by
   unfold gTh;cases pw.a <;> rfl
  rw[b];exact e) hN
 rw[d]at j;exact j
theorem ZV (G N0:Nat)(s:Sy)(v:Sc)(acts:List Ac)(qs ys:List Aq)(L:List Th)(pa pt pw:Pl)(cu cn cm cp cf:Int)(cs:List UInt8)(x:An)(d:Option Addr)(cap i:Nat)(iv:Int)(w:World)(hg:fF w G N0 s v (rws acts qs L pa pt pw) ys)(hN:N0<=w.heap.size)(hL:L.length<=5000)(Es:N0<=G)(ck:Int)(hk:ck=9∨ck=2∨ck=6)(hi:i<L.length)(hiv:iv=(i:Int)):
 Calls prog 62 #[aH (aK ⟨G,0,aJ⟩),aC #[aB aI ck,aB aI cu,aB aI cn,aB aI cm,aB aI cp,aB aI cf,aF ⟨cs.toArray⟩],aC #[aB aI (x.c:Int),aB aI x.n,aA d x.l.length cap],aB aI iv] w (AQ G N0 s v acts qs ys (lC L ⟨ck,cu,cn,cm,cp,cf,cs⟩ x i) pa pt w):=by
 subst hiv;obtain⟨z,p,H,C,F,h⟩:=boxes2 w #[aB aI ck,aB aI cu,aB aI cn,aB aI cm,aB aI cp,aB aI cf,aF ⟨cs.toArray⟩] 70 #[aB aI (x.c:Int),aB aI x.n,aA d x.l.length cap] 72;have b:=gO (hg.below h);have t:=gO (h.mono hN);have I:N0<=w.heap.size:=hN;obtain⟨O,S,Z,T,W,V,R⟩:=gA7 z;have z0:=p 0;have z1:=p 1;have D:=p 2;simp only[gB,gC,gD]at z0 z1 D;have X:=gO (fun(g:Nat) (e:(aA pw.a L.length pw.c).ownBlock=aK g)=>(hg.o.lt (pU L pw) (by simp[rws]) g e).2);have Y:G<w.heap.size:=hg.lt;clear z p H C h hg;rcases hk with rfl | rfl | rfl;all_goals
  go_enter func62,ntmps62
  go_upto_region 1 with fail
  generalize (w.alloc _).alloc _=j at*;have U:G<j.heap.size:=b.out.lt;have A:w.heap.size<j.heap.size:=by omega
  have Q:j.cell? ⟨G,9,aJ⟩=aK (aA pw.a L.length pw.c):=b.out.k 9;have B:(aA pw.a L.length pw.c).ownBlock≠aK G:=λe=>(b.out.og (pU L pw) (by simp[rws]) G e).1 rfl
  have q:=gO (b.out.o.each (pU L pw) (by simp[rws]));have m:=WI 0 pw.a L.length pw.c L i j q.out hi (by omega) (gU _);have u:=gO m;have J:IntKind.i64.wrap ((i:Int)+1)=(i:Int)+1:=IntWalk.i64_in _ (by omega);clear m;go_wp2_with (go_at_call 113;refine u.out.mono ?_;rintro P y ⟨rfl,r,f⟩;have K:y.cell? ⟨G,9,aJ⟩=aK (aA pw.a L.length pw.c):=bV b.out.k b.out.lt f (λe=>B e.symm) 9;have E:y.frozen? ⟨G,9,aJ⟩=false:=bY b.out.fz b.out.lt f (λe=>B e.symm) 9)
  all_goals
   have M:=aBR b.out (by omega:N0<=j.heap.size) hi r f;have N:=qI t.out (by omega:N0<=j.heap.size) b.out f Es (aA pw.a (L.length-1) pw.c);exact bodyPost_ret (v:=aG #[]) (by simp[results,results62,go_sem]) rfl ⟨_,rfl,M,N⟩
theorem WJ (G N0:Nat)(s:Sy)(v:Sc)(acts:List Ac)(qs ys:List Aq)(L:List Th)(pa pt pw:Pl)(cu cn cm cp cf:Int)(cs:List UInt8)(x:An)(d:Option Addr)(cap i:Nat)(iv:Int)(w:World)(hg:fF w G N0 s v (rws acts qs L pa pt pw) ys)(hN:N0<=w.heap.size)(hL:L.length<=5000)(Es:N0<=G)(ck:Int)(hk:ck=3∨ck=7∨ck=12∨ck=14):
 Calls prog 62 #[aH (aK ⟨G,0,aJ⟩),aC #[aB aI ck,aB aI cu,aB aI cn,aB aI cm,aB aI cp,aB aI cf,aF ⟨cs.toArray⟩],aC #[aB aI (x.c:Int),aB aI x.n,aA d x.l.length cap],aB aI iv] w (AQ G N0 s v acts qs ys (lC L ⟨ck,cu,cn,cm,cp,cf,cs⟩ x i) pa pt w):=by
 obtain⟨p,h,y,r,u,f⟩:=boxes2 w #[aB aI ck,aB aI cu,aB aI cn,aB aI cm,aB aI cp,aB aI cf,aF ⟨cs.toArray⟩] 70 #[aB aI (x.c:Int),aB aI x.n,aA d x.l.length cap] 72;have b:=gO (hg.below f);have m:=gO (f.mono hN);have z:N0<=w.heap.size:=hN;obtain⟨A,D,N,E,I,H,C⟩:=gA7 p;have z0:=h 0;have z1:=h 1;have t:=h 2;simp only[gB,gC,gD]at z0 z1 t;have K:=gO (fun(g:Nat) (e:(aA pw.a L.length pw.c).ownBlock=aK g)=>(hg.o.lt (pU L pw) (by simp[rws]) g e).2);have M:G<w.heap.size:=hg.lt;clear p h y r f hg;rcases hk with rfl | rfl | rfl | rfl;all_goals
  go_enter func62,ntmps62
  go_upto_region 1 with fail
  generalize (w.alloc _).alloc _=j at*;have F:G<j.heap.size:=b.out.lt;have q:w.heap.size<j.heap.size:=by omega
  have B:j.cell? ⟨G,9,aJ⟩=aK (aA pw.a L.length pw.c):=b.out.k 9;have J:(aA pw.a L.length pw.c).ownBlock≠aK G:=λe=>(b.out.og (pU L pw) (by simp[rws]) G e).1 rfl
  go_wp2_with fail
  all_goals exact bodyPost_ret (v:=aG #[]) (by simp[results,results62,go_sem]) rfl ⟨_,rfl,b.out,m.out⟩
theorem WO (L:List Th)(c:Ac)(x:An)(i:Nat)(hx:x.l.length<=30):(lC L c x i).length<=L.length+30:=by
 unfold lC;split
 ·simp
 split
 ·simp
 split
 ·simp
 split
 ·simp;omega
 split
 ·have:=List.length_eraseIdx_le L i;omega
 split
 ·split <;> simp
 split
 ·split <;> simp
 omega
structure ZW (c:Ac)(x:An):Prop where
 l:x.l.length<=30
 n:c.k=1->x.c=0->0<=x.n/\x.n<=256
theorem aCX {cp:Nat}{c c':Ac}(hk:cZ s)(ha:rV cp j c f)(hc:c'.k=c.k/\c'.n=c.n/\c'.f=c.f){r:Sy×An}(hd:Dn s c' r):ZW c' r.2:=by
 have v:c'.k=15->c'.n<=30:=λe=>by
  by_cases x:j=0
  ·rw[(ha.1 x).1]at hc;rw[hc.1]at e;cases e
  ·by_cases d:j=1
   ·rw[(ha.2.1 d).1]at hc;rw[hc.1]at e;cases e
   ·have y:=ha.2.2 (by omega);rw[hc.2.1];rw[hc.1]at e;cases y with
    | bulk u m d h2 h3=>
     show(m:Int)<=30;omega
    | _=>simp only at e;first | omega | cases e
 have key:∀(c:Ac) (r:Sy×An),Dn s c r->(c.k=15->c.n<=30)->ZW c r.2:=λc r hd v=>by
  cases hd with
  | pages u o f d h2 h3 h4=>
   cases ha:s.h.alloc u o (mP f) (decide (f/8%2=1)) (decide (f%2=1))with
   | none=>exact⟨gU _,λ_ e=>by cases e⟩
   | some q=>
    obtain⟨B,a⟩:=q;have p:mP f<3:=by unfold mP;split <;> (try split) <;> omega
    have w:=hk.yD d h2 p ha;have z:=(w.hd (16*(a:Int)) aJ (16*2^o)).2 (.inr (by simp));have C:=w.ok.lW z;refine⟨gU _,λ_ _=> ?_⟩;show 0<=((a:Nat):Int)/\((a:Nat):Int)<=256;omega
  | bulk u i m n d h2 h3 h4=>
   cases ha:s.bulk i u m with
   | none=>exact⟨gU _,λe=>by cases e⟩
   | some q=>
    obtain⟨t,l⟩:=q;obtain⟨c',g,_⟩:=qH h2;have D:=(hk.xU (gK.1 g).1 d ha).2.2.2.1;have A:=v rfl;refine⟨?_,λe=>by cases e⟩;show l.length<=30;simp only at A;omega
  | new u i n d h2=>
   cases ha:s.one i u with
   | none=>exact⟨gU _,λe=>by cases e⟩
   | some q=>exact⟨gU _,λe=>by cases e⟩
  | dL u m d h3 h4=>
   cases ha:s.dL u m with
   | none=>exact⟨gU _,λe=>by cases e⟩
   | some q=>exact⟨gU _,λe=>by cases e⟩
  | resize u m a d h2 h3 h4=>
   cases ha:s.fE u a m with
   | inl e=>exact⟨gU _,λe=>by cases e⟩
   | inr q=>exact⟨gU _,λe=>by cases e⟩
  | give u b d h2=>exact⟨gU _,λe=>by cases e⟩
  | ob t d h2=>exact⟨gU _,λe=>by cases e⟩
  | pair t d h2=>exact⟨gU _,λe=>by cases e⟩
  | drop u i k a n d h2 h3=>exact⟨gU _,λe=>by cases e⟩
  | shrink u i n h2=>exact⟨gU _,λe=>by cases e⟩
  | jG u a t d h2 h3=>exact⟨gU _,λe=>by cases e⟩
  | drain u n=>exact⟨gU _,λe=>by cases e⟩
  | write u a m h2 h3=>exact⟨gU _,λe=>by cases e⟩
  | read u a h2=>exact⟨gU _,λe=>by cases e⟩
 exact key c' r hd v
structure kV (w0:World)(s:Sy)(v:Sc)(s':Sy)(v':Sc)(q:Aq)(bs:List (Nat×Array Value))(W:World):Prop where
 c:∀G X,SR w0 G X s v->SR W G (λk=>X k∨∃p∈bs,p.1=k) s' v'
 b:Below w0.heap.size w0 W
 l:∀p∈bs,w0.heap.size<=p.1/\p.1<W.heap.size/\(∀o,W.cell? ⟨p.1,o,aJ⟩=p.2[o]?)/\∀o,W.frozen? ⟨p.1,o,aJ⟩=false
 d:bs.Pairwise λx y=>x.1≠y.1
 o:W.ownsRow w0.heap.size 3 1 q.sl q.x.l.length (q.x.l.map vI)
 n:∀g,q.sl.ownBlock=aK g->∀p∈bs,p.1≠g
def CU:Aq:=⟨⟨0,0,[]⟩,aJ,0⟩
section
variable {w0 W W':World}{s s':Sy}{v v':Sc}{q:Aq}{bs:List (Nat×Array Value)}{x y:Nat×Array Value}
theorem kV.start (w0:World)(s:Sy)(v:Sc):kV w0 s v s v CU [] w0:=
 ⟨λG X h=>h.sub λk b=>b.resolve_right (by simp),gX _ _,λp a=>(by cases a),.nil,World.ownsRow_nil _ _ _ _,λg _ p a=>(by cases a)⟩
theorem kV.below (h:kV w0 s v s' v' q bs W)(hb:Below W.heap.size W W'):kV w0 s v s' v' q bs W':=
 ⟨λG X e=>(h.c G X e).below hb,gW h.b hb,λp a=>⟨(h.l p a).1,gI (h.l p a).2.1 hb.size,aQ (h.l p a).2.2.1 (h.l p a).2.1 hb,aU (h.l p a).2.2.2 (h.l p a).2.1 hb⟩,h.d,own_below h.o hb (gT _),h.n⟩
theorem kV.drew (h:kV w0 s v s' v' q bs W):kV w0 s v s' v' q bs W.drew:=h.below (gX _ _).drew
theorem kV.box (h:kV w0 s v s' v' q bs W)(A:Array Value)(t:TypeId):kV w0 s v s' v' q ((W.heap.size,A)::bs) (W.alloc (.cells A t)):=by
 have hb:=aT W (.cells A t);have i:=h.below hb;refine⟨λG X m=>((h.c G X m).new hb).sub λk f=> ?_,i.b,λp a=> ?_,List.pairwise_cons.2 ⟨λp a=> ?_,h.d⟩,i.o,λg j p a=> ?_⟩
 ·rcases f with f | ⟨p,a,e⟩
  ·exact .inl (.inl f)
  ·rcases gY.1 a with rfl | a
   ·subst e;exact .inr ⟨gT _,by simp⟩
   ·exact .inl (.inr ⟨p,a,e⟩)
 ·rcases gY.1 a with rfl | a
  ·exact⟨h.b.size,by simp,bI W A t,fP W A t⟩
  ·exact i.l p a
 ·have:=(h.l p a).2.1;show W.heap.size≠p.1;omega
 ·rcases gY.1 a with rfl | a
  ·have:=(h.o.lt g j).2;show W.heap.size≠g;omega
  ·exact h.n g j p a
theorem kV.WQ (h:kV w0 s v s' v' q bs W)(hn:W.heap.size=n)(t:TypeId):kV w0 s v s' v' q ((n,A)::bs) (W.alloc (.cells A t)):=hn▸h.box A t
theorem kV.swap (h:kV w0 s v s' v' q (x::y::bs) W):kV w0 s v s' v' q (y::x::bs) W:=by
 have f:∀p,p∈y::x::bs->p∈x::y::bs:=λp a=>by
  simp only[gY]at a ⊢;rcases a with h | h | h
  ·exact .inr (.inl h)
  ·exact .inl h
  ·exact .inr (.inr h)
 refine⟨λG X r=>(h.c G X r).sub λk i=> ?_,h.b,λp a=>h.l p (f p a),?_,h.o,λg t p a=>h.n g t p (f p a)⟩
 ·rcases i with i | ⟨p,a,e⟩
  ·exact .inl i
  ·exact .inr ⟨p,f p a,e⟩
 ·have j:=List.pairwise_cons.1 h.d;have m:=List.pairwise_cons.1 j.2;refine List.pairwise_cons.2 ⟨λp a=> ?_,List.pairwise_cons.2 ⟨λp a=>j.1 p (List.mem_cons_of_mem _ a),m.2⟩⟩;rcases gY.1 a with rfl | a
  ·exact λe=>j.1 y (List.mem_cons_self ..) e.symm
  ·exact m.1 p a
theorem kV.set (h:kV w0 s v s' v' q ((b,A)::bs) W)(i:Nat)(u:Value):kV w0 s v s' v' q ((b,A.setIfInBounds i u)::bs) (W.setCell ⟨b,i,aJ⟩ u):=by
 have f:=h.l _ (List.mem_cons_self ..);have m:=List.pairwise_cons.1 h.d;have x:∀k,(∃p∈(b,A.setIfInBounds i u)::bs,p.1=k)->∃p∈(b,A)::bs,p.1=k:=λk ⟨p,a,e⟩=>by
  rcases gY.1 a with rfl | a
  ·exact⟨_,List.mem_cons_self ..,e⟩
  ·exact⟨p,List.mem_cons_of_mem _ a,e⟩
 refine⟨λG X w=>((h.c G X w).dQ (.inr ⟨_,List.mem_cons_self ..,rfl⟩) i u).sub λk t=>t.imp id (x k),Below.setCell h.b (show w0.heap.size<=b from f.1) u,λp a=> ?_,List.pairwise_cons.2 ⟨m.1,m.2⟩,bU h.o (λe=>h.n b e _ (List.mem_cons_self ..) rfl) u,λg r p a=> ?_⟩
 ·rcases gY.1 a with rfl | a
  ·exact⟨f.1,by rw[World.size_setCell];exact f.2.1,aW f.2.2.1 i u,aV f.2.2.2 _ u⟩
  ·have j:=h.l p (List.mem_cons_of_mem _ a);exact⟨j.1,by rw[World.size_setCell];exact j.2.1,aS j.2.2.1 (λe=>m.1 p a e.symm) i u,aV j.2.2.2 _ u⟩
 ·rcases gY.1 a with rfl | a
  ·exact h.n g r (b,A) (List.mem_cons_self ..)
  ·exact h.n g r p (List.mem_cons_of_mem _ a)
theorem kV.put7 (h:kV w0 s v s' v' q ((b,#[a0,a1,a2,a3,a4,a5,a6])::bs) W)(v2:Sc)(s2:Sy):kV w0 s v s' v' q ((b,#[aA v2.a1 v2.n1 v2.c1,aA v2.hc.az 2 v2.hc.cz,aA v2.hc.am 2 v2.hc.cm,aB aI (s2.h.aP:Int),aA v2.hc.al v2.hc.lc.length v2.hc.cl,aA v2.hc.av s2.h.live.length v2.hc.cv,aA v2.a2 v2.ys.length v2.c2])::bs) (((((((W.setCell ⟨b,0,aJ⟩ (aA v2.a1 v2.n1 v2.c1)).setCell ⟨b,1,aJ⟩ (aA v2.hc.az 2 v2.hc.cz)).setCell ⟨b,2,aJ⟩ (aA v2.hc.am 2 v2.hc.cm)).setCell ⟨b,3,aJ⟩ (aB aI (s2.h.aP:Int))).setCell ⟨b,4,aJ⟩ (aA v2.hc.al v2.hc.lc.length v2.hc.cl)).setCell ⟨b,5,aJ⟩ (aA v2.hc.av s2.h.live.length v2.hc.cv)).setCell ⟨b,6,aJ⟩ (aA v2.a2 v2.ys.length v2.c2)):=by
 have a:=((((((h.set 0 (aA v2.a1 v2.n1 v2.c1)).set 1 (aA v2.hc.az 2 v2.hc.cz)).set 2 (aA v2.hc.am 2 v2.hc.cm)).set 3 (aB aI (s2.h.aP:Int))).set 4 (aA v2.hc.al v2.hc.lc.length v2.hc.cl)).set 5 (aA v2.hc.av s2.h.live.length v2.hc.cv)).set 6 (aA v2.a2 v2.ys.length v2.c2);simpa only[gE,gG,gH]using a
theorem kV.put3 (h:kV w0 s v s' v' q ((b,#[a0,a1,a2])::bs) W)(b0 b1 b2:Value):kV w0 s v s' v' q ((b,#[b0,b1,b2])::bs) (((W.setCell ⟨b,0,aJ⟩ b0).setCell ⟨b,1,aJ⟩ b1).setCell ⟨b,2,aJ⟩ b2):=by
 have a:=((h.set 0 b0).set 1 b1).set 2 b2;simpa only[gE,gG,gH]using a
theorem kV.aCY (h:kV w0 s v s' v' q (x::(b,#[a0,a1,a2,a3,a4,a5,a6])::bs) W)(v2:Sc)(s2:Sy):kV w0 s v s' v' q (x::(b,#[aA v2.a1 v2.n1 v2.c1,aA v2.hc.az 2 v2.hc.cz,aA v2.hc.am 2 v2.hc.cm,aB aI (s2.h.aP:Int),aA v2.hc.al v2.hc.lc.length v2.hc.cl,aA v2.hc.av s2.h.live.length v2.hc.cv,aA v2.a2 v2.ys.length v2.c2])::bs) (((((((W.setCell ⟨b,0,aJ⟩ (aA v2.a1 v2.n1 v2.c1)).setCell ⟨b,1,aJ⟩ (aA v2.hc.az 2 v2.hc.cz)).setCell ⟨b,2,aJ⟩ (aA v2.hc.am 2 v2.hc.cm)).setCell ⟨b,3,aJ⟩ (aB aI (s2.h.aP:Int))).setCell ⟨b,4,aJ⟩ (aA v2.hc.al v2.hc.lc.length v2.hc.cl)).setCell ⟨b,5,aJ⟩ (aA v2.hc.av s2.h.live.length v2.hc.cv)).setCell ⟨b,6,aJ⟩ (aA v2.a2 v2.ys.length v2.c2)):=(h.swap.put7 v2 s2).swap
theorem kV.aCZ (h:kV w0 s v s' v' q (x::(b,#[a0,a1,a2])::bs) W)(b0 b1 b2:Value):kV w0 s v s' v' q (x::(b,#[b0,b1,b2])::bs) (((W.setCell ⟨b,0,aJ⟩ b0).setCell ⟨b,1,aJ⟩ b1).setCell ⟨b,2,aJ⟩ b2):=(h.swap.put3 b0 b1 b2).swap
theorem kV.k1 (h:kV w0 s v s' v' q ((b,A)::bs) W):(∀o,W.cell? ⟨b,o,aJ⟩=A[o]?)/\(∀o,W.frozen? ⟨b,o,aJ⟩=false)/\b<W.heap.size:=have l:=h.l _ (List.mem_cons_self ..);⟨l.2.2.1,l.2.2.2,l.2.1⟩
theorem kV.k2 (h:kV w0 s v s' v' q (x::(b,A)::bs) W):(∀o,W.cell? ⟨b,o,aJ⟩=A[o]?)/\(∀o,W.frozen? ⟨b,o,aJ⟩=false)/\b<W.heap.size:=h.swap.k1
theorem kV.call (h:kV w0 s v s v CU bs W)(htr:∀G X,SR W G X s v->SR W' G X s' v')(hb:Below W.heap.size W W')(ho:W'.ownsRow W.heap.size 3 1 q.sl q.x.l.length (q.x.l.map vI)):kV w0 s v s' v' q bs W':=by
 have a:=h.below hb;refine⟨λG X i=>htr G _ (h.c G X i),a.b,a.l,h.d,own_base ho h.b.size,λg j p f e=> ?_⟩;have:=(h.l p f).2.1;have:=(ho.lt g j).1;omega
theorem kV.sub1 (h:kV w0 s v s' v' q (x::bs) W):kV w0 s v s' v' q bs W:=
 ⟨λG X i=>(h.c G X i).sub λk f=>f.imp id fun⟨p,a,e⟩=>⟨p,List.mem_cons_of_mem _ a,e⟩,h.b,λp a=>h.l p (List.mem_cons_of_mem _ a),(List.pairwise_cons.1 h.d).2,h.o,λg j p a=>h.n g j p (List.mem_cons_of_mem _ a)⟩
end
theorem fF.sv (h:fF W G N0 s v rs qs):W.cell? ⟨G,0,aJ⟩=aK (aA v.a1 v.n1 v.c1)/\W.cell? ⟨G,1,aJ⟩=aK (aA v.hc.az 2 v.hc.cz)/\W.cell? ⟨G,2,aJ⟩=aK (aA v.hc.am 2 v.hc.cm)/\W.cell? ⟨G,3,aJ⟩=aK (aB aI (s.h.aP:Int))/\W.cell? ⟨G,4,aJ⟩=aK (aA v.hc.al v.hc.lc.length v.hc.cl)/\W.cell? ⟨G,5,aJ⟩=aK (aA v.hc.av s.h.live.length v.hc.cv)/\W.cell? ⟨G,6,aJ⟩=aK (aA v.a2 v.ys.length v.c2):=⟨h.k 0,h.k 1,h.k 2,h.k 3,h.k 4,h.k 5,h.k 6⟩
theorem fF.start {B:Nat}(hn:iI W B s v)(hN:N0<=B):fF (W.alloc (aO #[aA v.a1 v.n1 v.c1,aA v.hc.az 2 v.hc.cz,aA v.hc.am 2 v.hc.cm,aB aI (s.h.aP:Int),aA v.hc.al v.hc.lc.length v.hc.cl,aA v.hc.av s.h.live.length v.hc.cv,aA v.a2 v.ys.length v.c2,aA aJ 0 0,aA aJ 0 0,aA aJ 0 0] 47)) W.heap.size N0 s v (rws [] [] [] ⟨aJ,0⟩ ⟨aJ,0⟩ ⟨aJ,0⟩) []:=by
 have hb:=aT W (aO #[aA v.a1 v.n1 v.c1,aA v.hc.az 2 v.hc.cz,aA v.hc.am 2 v.hc.cm,aB aI (s.h.aP:Int),aA v.hc.al v.hc.lc.length v.hc.cl,aA v.hc.av s.h.live.length v.hc.cv,aA v.a2 v.ys.length v.c2,aA aJ 0 0,aA aJ 0 0,aA aJ 0 0] 47);have f:=hn.below hb;have l:W.heap.size<(W.alloc (aO #[aA v.a1 v.n1 v.c1,aA v.hc.az 2 v.hc.cz,aA v.hc.am 2 v.hc.cm,aB aI (s.h.aP:Int),aA v.hc.al v.hc.lc.length v.hc.cl,aA v.hc.av s.h.live.length v.hc.cv,aA v.a2 v.ys.length v.c2,aA aJ 0 0,aA aJ 0 0,aA aJ 0 0] 47)).heap.size:=by simp
 have b:∀r∈rws [] [] [] ⟨aJ,0⟩ ⟨aJ,0⟩ ⟨aJ,0⟩,∀g,r.v.ownBlock≠aK g:=λr hr g e=>by
  simp only[rws,gY,List.not_mem_nil,or_false]at hr;rcases hr with rfl | rfl | rfl <;> simp[PV,PW,pU,gTh]at e
 have d:∀k,(k<N0∨∃r∈rws [] [] [] ⟨aJ,0⟩ ⟨aJ,0⟩ ⟨aJ,0⟩,r.v.ownBlock=aK k)->k<B:=λk a=>by
  rcases a with a | ⟨r,hr,e⟩
  ·omega
  ·exact absurd e (b r hr k)
 have p:=hn.hr.gs;refine⟨⟨f.own,λr hr g n=>⟨λe=>by have:=hn.lt r hr g n;omega,λe=>(hn.og r hr g n).2 (d g e)⟩,f.hr.any l (λq c k a=>⟨λe=>by have:=hn.hr.lt q c k a;omega,λe=> ?_⟩) (λk a=>by have:=d k a;omega) (λe=>by have:=d _ e;omega),f.hd,f.cy⟩,bI W _ _,fP W _ _,⟨λr hr=> ?_,?_⟩,λr hr g e=>absurd e (b r hr g),lX.nil _ _⟩
 ·have m:=d k e;rcases gZ.1 c with c | c
  ·exact(hn.hr.og q c k a).2 m
  ·exact hn.hr.rx q c k a m
 ·simp only[rws,gY,List.not_mem_nil,or_false]at hr;rcases hr with rfl | rfl | rfl
  ·exact World.ownsRow_nil _ _ _ _
  ·exact World.ownsRow_nil _ _ _ _
  ·exact World.ownsRow_nil _ _ _ _
 ·refine gN.2 λi j t u o g e=> ?_
  exact absurd e (b _ (gL t) g)
theorem fF.low {N1:Nat}(h:fF W G N0 s v rs qs)(hN:N1<=N0)(hG:N0<=G):fF W G N1 s v rs []:=
 ⟨h.r.sub λk b=>b.imp (λe=>gI e hN) id,h.k,h.fz,h.o,λr a g e=>⟨(h.og r a g e).1,gQ hN (h.og r a g e).2⟩,lX.nil _ _⟩
theorem fF.dQ (h:fF W G N0 s v rs [])(hG:N0<=G)(hb:b<N0)(i:Nat)(u:Value):fF (W.setCell ⟨b,i,aJ⟩ u) G N0 s v rs []:=
 ⟨h.r.dQ (.inl hb) i u,aS h.k (by omega) i u,aV h.fz _ _,h.o.far (λr a e=>by have:=(h.og r a b e).2;omega) i u,h.og,lX.nil _ _⟩
theorem Uh (h:fF W2 G N0 s v rs ys)(hN:N0<=W2.heap.size)(hi:i<rs.length){r':Rs}{g7 cap7:Nat}(hr:r'.v=aA (aK ⟨g7,0,aJ⟩) r'.n cap7)(ho7:r'.on W7 0)(hg7:W2.grownBy W7 rs[i].v.ownBlock)(hl7:rs[i].v.ownBlock=aK g7∨g7=W2.heap.size)(mQ:g7<W7.heap.size):
 fF (W7.setCell ⟨G,7+i,aJ⟩ (aA (aK ⟨g7,0,aJ⟩) r'.n cap7)) G N0 s v (rs.set i r') ys:=by
 have b:=h.put hi hg7 ho7 (λg e=>by
  rw[hr]at e;obtain rfl:g7=g:=by simpa[gTh]using e
  rcases hl7 with a | a
  ·exact .inl a
  ·exact .inr ⟨by omega,mQ⟩) hN
 rw[hr]at b;exact b
section
variable {w W2 W7:World}{G N0 g7 cap7:Nat}{s:Sy}{v:Sc}{acts:List Ac}{qs ys:List Aq}{L:List Th}{pa pt pw:Pl}
theorem aBX (h:fF W2 G N0 s v (rws acts qs L pa pt pw) ys)(hN:N0<=W2.heap.size)(c:Ac)(ho7:W7.ownsRow 0 70 7 (aA (aK ⟨g7,0,aJ⟩) (acts.length+1) cap7) (acts.length+1) (flat mW acts++mW c))(hg7:W2.grownBy W7 (aA pa.a acts.length pa.c).ownBlock)(hl7:(aA pa.a acts.length pa.c).ownBlock=aK g7∨g7=W2.heap.size)(mQ:g7<W7.heap.size):
 fF (W7.setCell ⟨G,7,aJ⟩ (aA (aK ⟨g7,0,aJ⟩) (acts.length+1) cap7)) G N0 s v (rws (acts++[c]) qs L ⟨aK ⟨g7,0,aJ⟩,cap7⟩ pt pw) ys:=by
 have b:=Uh h hN (i:=0) (show 0<3 by decide) (r':=PV (acts++[c]) ⟨aK ⟨g7,0,aJ⟩,cap7⟩) (g7:=g7) (cap7:=cap7) rfl (by
  have e:flat mW (acts++[c])=flat mW acts++mW c:=by rw[bG,iC]
  unfold Rs.on PV;rw[gTb,e];exact ho7) hg7 hl7 mQ
 have d:(PV (acts++[c]) ⟨aK ⟨g7,0,aJ⟩,cap7⟩).n=acts.length+1:=by simp[PV]
 rw[d]at b;exact b
theorem aBY (h:fF W2 G N0 s v (rws acts qs L pa pt pw) ys)(hN:N0<=W2.heap.size)(c:Aq)(ho7:W7.ownsRow 0 72 3 (aA (aK ⟨g7,0,aJ⟩) (qs.length+1) cap7) (qs.length+1) (flat xM qs++xM c))(hg7:W2.grownBy W7 (aA pt.a qs.length pt.c).ownBlock)(hl7:(aA pt.a qs.length pt.c).ownBlock=aK g7∨g7=W2.heap.size)(mQ:g7<W7.heap.size):
 fF (W7.setCell ⟨G,8,aJ⟩ (aA (aK ⟨g7,0,aJ⟩) (qs.length+1) cap7)) G N0 s v (rws acts (qs++[c]) L pa ⟨aK ⟨g7,0,aJ⟩,cap7⟩ pw) ys:=by
 have b:=Uh h hN (i:=1) (show 1<3 by decide) (r':=PW (qs++[c]) ⟨aK ⟨g7,0,aJ⟩,cap7⟩) (g7:=g7) (cap7:=cap7) rfl (by
  have e:flat xM (qs++[c])=flat xM qs++xM c:=by rw[bG,iC]
  unfold Rs.on PW;rw[gTb,e];exact ho7) hg7 hl7 mQ
 have d:(PW (qs++[c]) ⟨aK ⟨g7,0,aJ⟩,cap7⟩).n=qs.length+1:=by simp[PW]
 rw[d]at b;exact b
end
def aH0 (c:Ac)(L:List Th)(w:World)(ev:Ending)(w':World):Prop:=∃r:Int,ev=aN (aB aI r)/\(r= -1∨∃(j:Nat) (x:Th),L[j]? =aK x/\fits c x/\r=(j:Int))/\Below w.heap.size w w'
theorem PZ {o:Nat}{t:Th}(hc:∀i v,(lY t)[i]? =aK v->w.cell? ⟨b,o+i,aJ⟩=aK v):w.cell? ⟨b,o,aJ⟩=aK (aB aI t.a)/\w.cell? ⟨b,o+1,aJ⟩=aK (aB aI t.z)/\w.cell? ⟨b,o+2,aJ⟩=aK (aB aI t.k)/\w.cell? ⟨b,o+3,aJ⟩=aK (aF ⟨t.n.toArray⟩)/\w.cell? ⟨b,o+4,aJ⟩=aK (aB aI t.w)/\w.cell? ⟨b,o+5,aJ⟩=aK (.bool t.b):=⟨hc 0 _ rfl,hc 1 _ rfl,hc 2 _ rfl,hc 3 _ rfl,hc 4 _ rfl,hc 5 _ rfl⟩
theorem aBZ (G nw:Nat)(pa:Option Addr)(cw:Nat)(L:List Th)(ck cu cn cm cp cf f:Int)(cs:List UInt8)(w:World)(k9:w.cell? ⟨G,9,aJ⟩=aK (aA pa L.length cw))(hG:G<w.heap.size)(hr:Row w pa (flat lY L))(hL:L.length<=5000)(hf:1<=f/\f<=9)(hk:ck=2∨ck=6∨ck=9∨ck=11∨ck=13∨ck=14):
 Calls prog 61 #[aH (aK ⟨G,0,aJ⟩),aC #[aB aI ck,aB aI cu,aB aI cn,aB aI cm,aB aI cp,aB aI cf,aF ⟨cs.toArray⟩,aB aI f]] w (aH0 ⟨ck,cu,cn,cm,cp,cf,cs⟩ L w):=by
 obtain⟨K1,F1,g,m⟩:=boxes1 w #[aB aI ck,aB aI cu,aB aI cn,aB aI cm,aB aI cp,aB aI cf,aF ⟨cs.toArray⟩,aB aI f] 135;have k91:=(m.cell (p:=⟨G,9,aJ⟩) hG).trans k9;have HR:=gO (hr.below m);have HB:=gO m;have c:=gO K1;clear K1 F1 m k9 hr;obtain⟨Z,N⟩:∃Z:Th->Prop,Z=fits ⟨ck,cu,cn,cm,cp,cf,cs⟩:=⟨_,rfl⟩
 have XW:=gO N;clear N;rcases hk with rfl | rfl | rfl | rfl | rfl | rfl;all_goals
  go_enter func61,ntmps61
  go_upto_region 1 with fail
  generalize w.alloc _=F at*;go_wp2_with fail
  go_loopw [5,6,7,13,18] (λs5 s6 s7 C s18 wr=>∃(j:Nat) (l:List Int) (d:Option Addr) (h:Nat),j<=L.length/\C=aB aI (j:Int)/\l.length<=j/\s5=aA d l.length h/\Hid (∀p∈l,∃(q:Nat) (x:Th),L[q]? =aK x/\Z x/\p=(q:Int))/\Hid (wr.ownsRow F.heap.size 3 1 (aA d l.length h) l.length (l.map vI))/\Hid (Below F.heap.size F wr)) (λ_ _ _ C _ _=>L.length-(intOf C).toNat)
  case atStart=>exact⟨0,[],aJ,0,gU _,rfl,gT _,rfl,λp B=>by(cases B),World.ownsRow_nil _ _ _ _,gX _ _⟩
  case round=>
   obtain⟨j,l,d,h,hj,rfl,hlj,rfl,v,y,o⟩:=hrel;have P:=aQ c.out g o.out 0;have Q:=aQ c.out g o.out 6;have q7:=aQ c.out g o.out 7;simp only[gB,gC,gD]at P Q q7;by_cases H:j<L.length
   ·have hji:(j:Int)<L.length:=by omega
    obtain⟨bb,off,r,W,i⟩:=aZ iW (by decide) (HR.out.below o.out) H;obtain rfl:=r;have HX:=gO (gJ H);generalize L[j]=x at*;obtain⟨t0,t1,t2,t3,t4,t5⟩:=PZ i;clear i;have A:=aT wr (aO #[aB aI x.a,aB aI x.z,aB aI x.k,aF ⟨x.n.toArray⟩,aB aI x.w,.bool x.b] 52);have U:=bI wr #[aB aI x.a,aB aI x.z,aB aI x.k,aF ⟨x.n.toArray⟩,aB aI x.w,.bool x.b] 52;have hsx:wr.heap.size<(wr.alloc (aO #[aB aI x.a,aB aI x.z,aB aI x.k,aF ⟨x.n.toArray⟩,aB aI x.w,.bool x.b] 52)).heap.size:=by simp
    have s:=gO (gW o.out A);have J:=gO (own_below y.out A (gT _));have hwr:=o.out.size;go_upto_block 2 with fail
    clear P Q q7 t0 t1 t2 t3 t4 t5 y o A;generalize wr.alloc _=R at*;generalize wr.heap.size=B7 at*;have P:=aQ c.out g s.out 0;have Q:=aQ c.out g s.out 6;have x2:=U 2;have x3:=U 3;simp only[gB,gC,gD]at P Q x2 x3;clear U;have t:=aT R (aO #[aB aI (j:Int)] 3);have M:=gO (own_below J.out t (gT _));have D:=gO (gW s.out t);have zA:=gO (World.news_of_block (heap_alloc_new R (aO #[aB aI (j:Int)] 3)));have O:F.heap.size<=(R.alloc (aO #[aB aI (j:Int)] 3)).heap.size:=by have:=t.size;omega
    obtain⟨ti,hti,S,X,Y⟩:=info_parts mO;clear t;go_wp2_with (at_builtin;refine wpList_append_lies _ rfl _ _ 34 rfl F.heap.size 3 ti (aB aI 0) 1 8 underlying34 hti S X Y rfl (by decide) (aA d l.length h) l.length (l.map vI) rfl M.out ⟨R.heap.size,0,aJ⟩ 1 1 [aB aI (j:Int)] rfl rfl zA.out (by simp[Value.oneCell']) (by decide) (by unfold maxLen;omega) (by omega) O _ rfl ?_;intro g7 K w7 ho7 V hl7 mQ)
    all_goals first
     |exact⟨⟨j+1,l,d,h,by omega,by go_num,by omega,rfl,v,J,s⟩,by simp[intOf];omega⟩
     |(refine⟨⟨j+1,l++[(j:Int)],aK ⟨g7,0,aJ⟩,K,by omega,by go_num,by simp;omega,by simp,λp B=> ?_,?_,?_⟩,by simp[intOf];omega⟩
       ·rcases gZ.1 B with B | B
        ·exact v.out p B
        ·exact⟨j,x,HX.out,by rw[XW.out];simp_all [fits],gTa.1 B⟩
       ·have e1:(l++[(j:Int)]).length=l.length+1:=by simp
        rw[e1,List.map_append];exact ho7
       ·exact Below.grown D.out V D.out.size λk e=>(M.out.lt k e).1)
   ·obtain rfl:j=L.length:=by omega
    by_cases u:l=[]
    ·subst u;go_wp2_with fail
     all_goals go_ret
     all_goals exact⟨-1,rfl,.inl rfl,gW HB.out o.out⟩
    ·have hlp:0<l.length:=List.length_pos_iff.2 u;obtain⟨q,hq⟩:∃q:Nat,f.tmod l.length=(q:Int):=⟨(f.tmod l.length).toNat,by
      have:=Int.tmod_nonneg (a:=f) (l.length:Int) (by omega);omega⟩
     have E:q<l.length:=by
      have:=Int.tmod_lt_of_pos f (show(0:Int)<l.length by omega);omega
     have hqi:(q:Int)<l.length:=by omega
     obtain⟨bb,off,r,W,i⟩:=Ez (bJ y.out) (k:=q) E;obtain⟨p,x,h1,T,h3⟩:=v.out l[q] (gL E);rw[XW.out]at T;rw[h3]at i;have hlz:¬(l.length:Int)=0:=by omega
     have aEy:d=aK ⟨bb,off,aJ⟩:=r;subst aEy;have I:=gO (And.intro h1 T);clear r h3 h1 T u;go_wp2_with fail
     all_goals go_ret
     all_goals exact⟨(p:Int),rfl,.inr ⟨p,x,I.out.1,I.out.2,rfl⟩,gW HB.out o.out⟩
def vN (p:Ac×Int):List Value:=[aB aI p.1.k,aB aI p.1.u,aB aI p.1.n,aB aI p.1.m,aB aI p.1.p,aB aI p.1.f,aF ⟨p.1.s.toArray⟩,aB aI p.2]
theorem Me (p:Ac×Int):(vN p).length=8:=rfl
theorem Qa {o:Nat}{c:Ac}(hc:∀i v,(vN (c,f))[i]? =aK v->w.cell? ⟨b,o+i,aJ⟩=aK v):w.cell? ⟨b,o,aJ⟩=aK (aB aI c.k)/\w.cell? ⟨b,o+1,aJ⟩=aK (aB aI c.u)/\w.cell? ⟨b,o+2,aJ⟩=aK (aB aI c.n)/\w.cell? ⟨b,o+3,aJ⟩=aK (aB aI c.m)/\w.cell? ⟨b,o+4,aJ⟩=aK (aB aI c.p)/\w.cell? ⟨b,o+5,aJ⟩=aK (aB aI c.f)/\w.cell? ⟨b,o+6,aJ⟩=aK (aF ⟨c.s.toArray⟩)/\w.cell? ⟨b,o+7,aJ⟩=aK (aB aI f):=⟨hc 0 _ rfl,hc 1 _ rfl,hc 2 _ rfl,hc 3 _ rfl,hc 4 _ rfl,hc 5 _ rfl,hc 6 _ rfl,hc 7 _ rfl⟩
theorem aB0:(prog.info? 135).map (λi=>(i.zero,i.size,i.bytes))=aK (aK (aC #[aB aI 0,aB aI 0,aB aI 0,aB aI 0,aB aI 0,aB aI 0,aF ⟨#[]⟩,aB aI 0]),8,72):=by kernel_rfl
theorem aB1:(prog.info? 70).map (λi=>(i.zero,i.size,i.bytes))=aK (aK (aC #[aB aI 0,aB aI 0,aB aI 0,aB aI 0,aB aI 0,aB aI 0,aF ⟨#[]⟩]),7,64):=by kernel_rfl
theorem Uj:(prog.info? 72).map (λi=>(i.zero,i.size,i.bytes))=aK (aK (aC #[aB aI 0,aB aI 0,aA aJ 0 0]),3,40):=by kernel_rfl
def aAa (cp:Nat)(w:World)(ev:Ending)(w':World):Prop:=∃(l:List (Ac×Int)) (d:Option Addr) (cap:Nat),ev=aN (aA d l.length cap)/\2<=l.length/\l.length<=42/\w'.ownsRow w.heap.size 135 8 (aA d l.length cap) l.length (flat vN l)/\(∀j (hj:j<l.length),rV cp j l[j].1 l[j].2)/\Below w.heap.size w w'
def zM (a b c:Int):Bt:=⟨[⟨pk a 20,40+pk b 60⟩,⟨130+pk c 10,16+pk a 90⟩],[⟨pk a 20+pk c 30,1+pk a 7⟩,⟨150+pk b 9,1+pk c 5⟩]⟩
theorem fM (n:Int){m:Int}(h:1<=m):0<=pk n m/\pk n m<m:=⟨Bh n m h,Xj n m h⟩
theorem GH (a b c:Int):dZ (zM a b c).m=true/\dZ (zM a b c).r=true:=by
 have j:=fM a (m:=20) (by decide);have h:=fM b (m:=60) (by decide);have n:=fM c (m:=10) (by decide);have i:=fM a (m:=90) (by decide);have l:=fM c (m:=30) (by decide);have f:=fM a (m:=7) (by decide);have k:=fM b (m:=9) (by decide);have g:=fM c (m:=5) (by decide);have d:dS aJ (zM a b c).m=true:=by
  simp[zM,dS,Lj,zC];omega
 have e:dS aJ (zM a b c).r=true:=by
  simp[zM,dS,Lj,zC];omega
 exact⟨by unfold dZ;rw[d];rfl,by unfold dZ;rw[e];rfl⟩
theorem Jz (a b c:Int)(w:World)(ha: -9223372036854775808<=a/\a<=9223372036854775807)(hb: -9223372036854775808<=b/\b<=9223372036854775807)(hc: -9223372036854775808<=c/\c<=9223372036854775807):
 Calls prog 26 #[aB aI a,aB aI b,aB aI c] w λev w'=>∃g1 g2,ev=aN (aC #[aA (aK ⟨g1,0,aJ⟩) 2 2,aA (aK ⟨g2,0,aJ⟩) 2 2,aB aI (16*pk a 9),aB aI (pk b 12),aB aI (1+pk c 4)])/\vW w' (aK ⟨g1,0,aJ⟩) (aK ⟨g2,0,aJ⟩) 2 2 (zM a b c)/\Below w.heap.size w w'/\w.heap.size<=g1/\w.heap.size<=g2:=by
 have z:=fM a (m:=20) (by decide);have x:=fM b (m:=60) (by decide);have D:=fM c (m:=10) (by decide);have y:=fM a (m:=90) (by decide);have B:=fM c (m:=30) (by decide);have E:=fM a (m:=7) (by decide);have A:=fM b (m:=9) (by decide);have C:=fM c (m:=5) (by decide);have F:=fM a (m:=9) (by decide);have p:=fM b (m:=12) (by decide);have q:=fM c (m:=4) (by decide);go_enter func26,ntmps26
 go_wp2_with (go_at_call 13;refine(Eu _ _ _ (by omega) (by omega) (by decide) (by decide)).mono ?_;rintro e w' ⟨rfl,rfl⟩)
 have o:=aT w (aO #[aA (aK ⟨w.heap.size+1+1,0,aJ⟩) 2 2,aA (aK ⟨w.heap.size+1+1+1,0,aJ⟩) 2 2,aB aI (16*pk a 9),aB aI (pk b 12),aB aI (1+pk c 4)] 29);have k1:=bI w #[aA (aK ⟨w.heap.size+1+1,0,aJ⟩) 2 2,aA (aK ⟨w.heap.size+1+1+1,0,aJ⟩) 2 2,aB aI (16*pk a 9),aB aI (pk b 12),aB aI (1+pk c 4)] 29;have z1:(w.alloc (aO #[aA (aK ⟨w.heap.size+1+1,0,aJ⟩) 2 2,aA (aK ⟨w.heap.size+1+1+1,0,aJ⟩) 2 2,aB aI (16*pk a 9),aB aI (pk b 12),aB aI (1+pk c 4)] 29)).heap.size=w.heap.size+1:=by simp
 generalize w.alloc _=g at*;have n:=aT g (aO #[aA (aK ⟨w.heap.size+1+1,0,aJ⟩) 2 2,aA (aK ⟨w.heap.size+1+1+1,0,aJ⟩) 2 2,aB aI (16*pk a 9),aB aI (pk b 12),aB aI (1+pk c 4)] 29);have l:(g.alloc (aO #[aA (aK ⟨w.heap.size+1+1,0,aJ⟩) 2 2,aA (aK ⟨w.heap.size+1+1+1,0,aJ⟩) 2 2,aB aI (16*pk a 9),aB aI (pk b 12),aB aI (1+pk c 4)] 29)).heap.size=w.heap.size+1+1:=by simp[z1]
 generalize g.alloc _=d at*;have i:=Eo d (flat jE (zM a b c).m) 133;have j:=aT d (.cells (flat jE (zM a b c).m).toArray 133);have s:(d.alloc (.cells (flat jE (zM a b c).m).toArray 133)).heap.size=w.heap.size+1+1+1:=by simp[l]
 rw[show d.alloc (aO #[aB aI (pk a 20),aB aI (40+pk b 60),aB aI (130+pk c 10),aB aI (16+pk a 90)] 133)=d.alloc (.cells (flat jE (zM a b c).m).toArray 133)from rfl];generalize d.alloc _=f at*;have k:=Eo f (flat jE (zM a b c).r) 133;have h:=aT f (.cells (flat jE (zM a b c).r).toArray 133);rw[show f.alloc (aO #[aB aI (pk a 20+pk c 30),aB aI (1+pk a 7),aB aI (150+pk b 9),aB aI (1+pk c 5)] 133)=f.alloc (.cells (flat jE (zM a b c).r).toArray 133)from rfl];generalize f.alloc _=u at*;rw[l]at i;rw[s]at k;have t:=aQ (aQ (aQ k1 (by omega) n) (by omega) j) (by omega) h;refine bodyPost_ret (v:=aC #[aA (aK ⟨w.heap.size+1+1,0,aJ⟩) 2 2,aA (aK ⟨w.heap.size+1+1+1,0,aJ⟩) 2 2,aB aI (16*pk a 9),aB aI (pk b 12),aB aI (1+pk c 4)]) (by simp[results,results26,go_sem,t]) rfl ⟨_,_,rfl,⟨rfl,rfl,i.below h,k⟩,gW (gW (gW o n) j) h,by omega,by omega⟩
theorem aAb (a b c:Int)(w:World)(ha: -9223372036854775808<=a/\a<=9223372036854775807)(hb: -9223372036854775808<=b/\b<=9223372036854775807)(hc: -9223372036854775808<=c/\c<=9223372036854775807):
 Calls prog 26 #[aB aI a,aB aI b,aB aI c] w λev w'=>∃a1 c1 a2 c2,ev=aN (aC #[aA a1 2 c1,aA a2 2 c2,aB aI (16*pk a 9),aB aI (pk b 12),aB aI (1+pk c 4)])/\vW w' a1 a2 2 2 (zM a b c)/\Below w.heap.size w w':=
 (Jz a b c w ha hb hc).mono λev w' ⟨h,g,e,d,f,_⟩=>⟨_,_,_,_,e,d,f⟩
theorem vW.set {g1 g2 n1 n2:Nat}{b:Bt}(h:vW w (aK ⟨g1,0,aJ⟩) (aK ⟨g2,0,aJ⟩) n1 n2 b){g:Nat}(h1:g1≠g)(h2:g2≠g)(i:Nat)(u:Value):vW (w.setCell ⟨g,i,aJ⟩ u) (aK ⟨g1,0,aJ⟩) (aK ⟨g2,0,aJ⟩) n1 n2 b:=by
 have key:∀{q:Nat} {c:List Value},q≠g->Row w (aK ⟨q,0,aJ⟩) c->Row (w.setCell ⟨g,i,aJ⟩ u) (aK ⟨q,0,aJ⟩) c:=fun{q c} n f j v d=>by
  obtain⟨a,off,e,hb,l⟩:=f j v d;refine⟨a,off,e,by rw[World.size_setCell];exact hb,?_⟩;have m:(⟨g,i,aJ⟩:Addr)≠⟨a,off+j,aJ⟩:=λk=>by
   have p:g=a:=congrArg Addr.block k;have o:q=a:=congrArg Addr.block (gP e);omega
  exact(World.cell?_setCell_other _ _ _ _ m).trans l
 exact⟨h.l1,h.l2,key h1 h.r1,key h2 h.r2⟩
theorem Ul (f:Nat->Bool)(r:Rg)(hf:0<=r.f)(hs:1<=r.s)(p:Nat):upd f r.f.toNat (r.f+r.s).toNat false p=(f p&& !rP r p):=by
 unfold upd rP;by_cases h:r.f<=(p:Int)/\(p:Int)<r.f+r.s
 ·rw[if_pos (by omega),gTg h];simp
 ·rw[if_neg (by omega),gV h];simp
theorem aAd {m:List Rg}{r1 r2:Rg}(hm:dZ m=true)(h1:0<=r1.f/\1<=r1.s)(h2:0<=r2.f/\1<=r2.s):(jF ⟨m,[r1,r2]⟩).length<=m.length+2:=by
 have e:∀p,p<256->Zx ⟨m,[r1,r2]⟩ p=upd (upd (dP m) r1.f.toNat (r1.f+r1.s).toNat false) r2.f.toNat (r2.f+r2.s).toNat false p:=λp _=>by
  rw[Ul _ r2 h2.1 h2.2,Ul _ r1 h1.1 h1.2];unfold Zx dP;simp only[List.any_cons,List.any_nil,Bool.or_false,Bool.not_or,Bool.and_assoc]
 unfold jF;rw[vM e];have l1:=rQ (upd (dP m) r1.f.toNat (r1.f+r1.s).toNat false) r2.f.toNat (r2.f+r2.s).toNat false (by omega);have a:=rQ (dP m) r1.f.toNat (r1.f+r1.s).toNat false (by omega);have b:=congrArg List.length (Gj hm);omega
theorem AZ (a b c:Int):dZ (jF (zM a b c))=true:=by
 have d:=(GH a b c).1;have g:=fM a (m:=20) (by decide);have j:=fM c (m:=30) (by decide);have e:=fM a (m:=7) (by decide);have i:=fM b (m:=9) (by decide);have f:=fM c (m:=5) (by decide);have h:=aAd (m:=(zM a b c).m) (r1:=⟨pk a 20+pk c 30,1+pk a 7⟩) (r2:=⟨150+pk b 9,1+pk c 5⟩) d ⟨by simp only;omega,by simp only;omega⟩ ⟨by simp only;omega,by simp only;omega⟩;refine Lp _ (gQ h ?_);show 2+2<=40;omega
theorem Um (a b c:Int):∃split least aP:Nat,16*pk a 9=(split:Int)/\pk b 12=(least:Int)/\1+pk c 4=(aP:Int)/\split<=256/\split%16=0/\least<=256/\1<=aP/\aP<=4:=by
 have d:=fM a (m:=9) (by decide);have e:=fM b (m:=12) (by decide);have f:=fM c (m:=4) (by decide);exact⟨(16*pk a 9).toNat,(pk b 12).toNat,(1+pk c 4).toNat,by omega,by omega,by omega,by omega,by omega,by omega,by omega,by omega⟩
def Hk (a b:Hp):Prop:=fG a->fG b/\Same a b/\∀q,cnt b.all q=cnt a.all q
theorem Hk.refl (a:Hp):Hk a a:=λh=>⟨h,Same.refl a,λ_=>rfl⟩
theorem Hk.trans {a b c:Hp}(h1:Hk a b)(h2:Hk b c):Hk a c:=λh=>by
 obtain⟨k1,k2,d⟩:=h1 h;obtain⟨l1,e,f⟩:=h2 k1;exact⟨l1,k2.trans e,λq=>by rw[f,d]⟩
theorem Hk.alloc {h h':Hp}{order t a:Nat}{u lo:Bool}(hc:cpu<h.aP)(ho:order<=4)(ht:t<3)(he:h.alloc cpu order t u lo=aK (h',a)):Hk h h':=λc=>by
 obtain⟨k1,k2,b,_⟩:=c.alloc hc ho ht he;exact⟨k1,b,k2⟩
theorem Hk.fZ {h:Hp}{b:Bk}(hc:cpu<h.aP)(hb:h.live[i]? =aK b):Hk h (h.fZ cpu i b):=λa=>by
 obtain⟨d,rfl⟩:=gK.1 hb;obtain⟨k1,k2,c,_⟩:=a.fZ hc d;exact⟨k1,c,k2⟩
theorem Hk.drain (h:Hp):Hk h h.drain:=λb=>by
 obtain⟨k1,k2,a,_⟩:=b.drain;exact⟨k1,a,k2⟩
theorem Hk.grow (hk:cZ s)(hi:s.cs[i]? =aK c)(hc:cpu<s.h.aP)(h:s.grow i cpu c=aK (s',k)):Hk s.h s'.h:=by
 have d:=hk.ck c (gM hi);unfold Sy.grow at h;split at h
 ·rename_i h' a he;have b:=gP h;rw[Prod.mk.injEq]at b;rw[<- b.1];refine Hk.alloc hc ?_ (by decide) he;rw[d.o];unfold fV;split
  ·omega
  ·split <;> omega
 ·cases h
theorem aAi (s:Sy)(i cpu k:Nat):(s.mine i cpu k).h=s.h:=by
 unfold Sy.mine;split
 ·split <;> rfl
 ·rfl
theorem Hk.choose (hk:cZ s)(hc:cpu<s.h.aP)(h:s.choose i cpu=aK (s',k)):Hk s.h s'.h:=by
 unfold Sy.choose at h;split at h
 ·rename_i c hi;split at h
  ·have a:=gP h;rw[Prod.mk.injEq]at a;rw[<- a.1];exact Hk.refl _
  ·split at h
   ·have a:=gP h;rw[Prod.mk.injEq]at a;rw[<- a.1,aAi];exact Hk.refl _
   ·split at h
    ·rename_i t k' hg;have a:=gP h;rw[Prod.mk.injEq]at a;rw[<- a.1,aAi];exact Hk.grow hk hi hc hg
    ·cases h
 ·cases h
theorem aIe (h:s.pop i k=aK (s',a)):s'.h=s.h:=by
 unfold Sy.pop at h;split at h
 ·split at h
  ·have b:=gP h;rw[Prod.mk.injEq]at b;rw[<- b.1];rfl
  ·cases h
 ·cases h
theorem Hk.one (hk:cZ s)(hc:cpu<s.h.aP)(h:s.one i cpu=aK (s',a)):Hk s.h s'.h:=by
 unfold Sy.one at h;split at h
 ·rename_i t k hq;rw[aIe h];exact Hk.choose hk hc hq
 ·cases h
theorem Hk.bulk (hk:cZ s)(hi:i<s.cs.length)(hc:cpu<s.h.aP):∀{n:Nat} {t:Sy} {l:List Int},s.bulk i cpu n=aK (t,l)->Hk s.h t.h
 | 0,t,l,h=>by
  have h1:=gP h;rw[Prod.mk.injEq]at h1;rw[<- h1.1];exact Hk.refl _
 | n+1,t,l,h=>by
  unfold Sy.bulk at h;split at h
  ·rename_i s' l' hb;obtain⟨k1,k2,b,_⟩:=hk.xU hi hc hb;split at h
   ·rename_i t' a ho;have h1:=gP h;rw[Prod.mk.injEq]at h1;rw[<- h1.1];exact(Hk.bulk hk hi hc hb).trans (Hk.one k1 (by rw[k2];exact hc) ho)
   ·cases h
  ·cases h
theorem aCa (s:Sy)(i k a:Nat):(s.push i k a).h=s.h:=by
 unfold Sy.push;split
 ·split <;> rfl
 ·rfl
theorem Hk.discard (hc:cpu<s.h.aP):Hk s.h (s.discard i k cpu).h:=by
 unfold Sy.discard;split
 ·split
  ·split
   ·rename_i b hb;exact Hk.fZ hc hb
   ·exact Hk.refl _
  ·exact Hk.refl _
 ·exact Hk.refl _
theorem Hk.free {a:Nat}(hc:cpu<s.h.aP):Hk s.h (s.free i k a cpu).h:=by
 have e:=aCa s i k a;unfold Sy.free;split
 ·have b:=Hk.discard (s:=s.push i k a) (i:=i) (k:=k) (by rw[e];exact hc);rw[e]at b;exact b
 ·rw[e];exact Hk.refl _
theorem Hk.jR {b:Bk}(hc:cpu<s.h.aP)(hb:s.whole b):Hk s.h (s.jR cpu b).h:=λa=>Hk.fZ hc (lZ a.vs hb.1) a
theorem aCb (s:Sy)(i m:Nat):(s.dR i m).h=s.h:=by
 unfold Sy.dR;split <;> rfl
theorem Hk.iM :Hk s.h (s.iM i k).h:=by
 unfold Sy.iM;split
 ·split
  ·split
   ·exact λa=>Hk.discard (by have:=a.cp;omega) a
   ·exact Hk.refl _
  ·exact Hk.refl _
 ·exact Hk.refl _
theorem Hk.shr :∀{m:Nat} {s:Sy},Hk s.h (s.shr i m).h
 | 0,s=>Hk.refl _
 | m+1,s=>(Hk.iM (s:=s) (i:=i) (k:=m)).trans (Hk.shr (m:=m) (s:=s.iM i m))
theorem Hk.shrink :Hk s.h (s.shrink i).h:=by
 unfold Sy.shrink;split
 ·rename_i c hc;have a:=Hk.shr (i:=i) (m:=c.sl.length) (s:=s.dR i c.ac.length);rw[aCb]at a;exact a
 ·exact Hk.refl _
theorem Hk.dL (hk:cZ s)(hc:cpu<s.h.aP)(h2:n<=256)(h:s.dL cpu n=aK (t,a)):Hk s.h t.h:=by
 unfold Sy.dL at h;split at h
 ·split at h
  ·exact Hk.one hk hc h
  ·cases h
 ·unfold Sy.RZ at h;split at h
  ·rename_i h' q he;have h2:=gP h;rw[Prod.mk.injEq]at h2;rw[<- h2.1];exact Hk.alloc hc (by unfold rM;(repeat' split) <;> omega) (by decide) he
  ·cases h
theorem SG {b:Bk}(h:s.kX a=aK b):s.whole b:=by
 unfold Sy.kX at h;split at h
 ·rename_i h1;rw[<- gP h];exact h1.choose_spec.1
 ·cases h
theorem Hk.jG (hc:cpu<s.h.aP)(h:s.jG cpu a=aK t):Hk s.h t.h:=by
 unfold Sy.jG at h;split at h
 ·rw[<- gP h];exact Hk.free hc
 ·obtain⟨b,c,rfl⟩:=Option.map_eq_some_iff.1 h;exact Hk.jR hc (SG c)
theorem Qe {n:List UInt8}{z:Nat}(h:s.create n z=aK t):t.h=s.h:=by
 unfold Sy.create at h;split at h
 ·split at h
  ·rw[<- gP h];rfl
  ·cases h
 ·split at h
  ·cases h
  ·rw[<- gP h]
theorem Hk.dn {c:Ac}{x:An}(hg:Ii s)(h:Dn s c (t,x)):Hk s.h t.h:=by
 generalize d:(t,x)=r at h;cases h with
 | pages u o f h1 h2 h3 h4=>
  unfold Sy.aBO at d;split at d
  ·rw[(Prod.mk.inj d).1];exact Hk.refl _
  ·rename_i h a he;rw[(Prod.mk.inj d).1];exact Hk.alloc h1 h2 (by unfold mP;(repeat' split) <;> omega) he
 | give u b h1 h2=>rw[(Prod.mk.inj d).1];exact Hk.jR h1 h2
 | ob t' h1 h2=>rw[(Prod.mk.inj d).1,Qe h1];exact Hk.refl _
 | pair t' h1 h2=>rw[(Prod.mk.inj d).1,Qe h1];exact Hk.refl _
 | new u i n h1 h2=>
  unfold Sy.ans at d;split at d
  ·rw[(Prod.mk.inj d).1];exact Hk.refl _
  ·rename_i t' a he;rw[(Prod.mk.inj d).1];exact Hk.one hg.ok h1 he
 | drop u i k a n h1 h2 h3=>rw[(Prod.mk.inj d).1];exact Hk.free h1
 | shrink u i n h2=>rw[(Prod.mk.inj d).1];exact Hk.shrink
 | bulk u i m n h1 h2 h3 h4=>
  unfold Sy.aBM at d;split at d
  ·rw[(Prod.mk.inj d).1];exact Hk.refl _
  ·rename_i t' a he;rw[(Prod.mk.inj d).1];obtain⟨c,p,_⟩:=qH h2;exact Hk.bulk hg.ok (gK.1 p).1 h1 he
 | dL u m h1 h3 h4=>
  unfold Sy.ans at d;split at d
  ·rw[(Prod.mk.inj d).1];exact Hk.refl _
  ·rename_i t' a he;rw[(Prod.mk.inj d).1];exact Hk.dL hg.ok h1 h4 he
 | jG u a t' h1 h2 h3=>rw[(Prod.mk.inj d).1];exact Hk.jG h1 h2
 | resize u m a h1 h2 h3 h4=>
  unfold Sy.aBN at d;split at d
  ·rw[(Prod.mk.inj d).1];exact Hk.refl _
  ·rename_i t' b he;rw[(Prod.mk.inj d).1];unfold Sy.fE at he;split at he
   ·cases he
   ·split at he
    ·have e:=Sum.inr.inj he;rw[<- (Prod.mk.inj e).1];exact Hk.refl _
    ·split at he
     ·cases he
     ·rename_i t2 b2 h5;split at he
      ·cases he
      ·rename_i u2 h6;have e:=Sum.inr.inj he;rw[<- (Prod.mk.inj e).1];have j:=Hk.dL hg.ok h1 h3 h5;exact λg=>by
        have l:=j g;exact(j.trans (Hk.jG (s:=t2.moved b2.toNat a.toNat _) (by show u<t2.h.aP;rw[l.2.1.aP];exact h1) h6)) g
 | drain u n=>rw[(Prod.mk.inj d).1];exact Hk.drain _
 | write u a m h2 h3=>rw[(Prod.mk.inj d).1];exact Hk.refl _
 | read u a h2=>rw[(Prod.mk.inj d).1];exact Hk.refl _
theorem Hk.run {e:Sy}{l:List Ac}{m:List An}(h:Run Dn e s l m):Hk s.h e.h:=by
 induction h with
 | nil=>exact Hk.refl _
 | cons h1 h2 _ ih=>exact(Hk.dn h2 h1).trans ih
theorem sZ.lacks (h:sZ s c x)(hz:1<=c.z)(hn:x.n≠c.r):∃a,nN s.w c x a:=by
 apply Classical.byContradiction;intro d;have A:=h.Nb;obtain⟨l,q,B,_⟩:=h.chain;have g:∀a,iO c x.p a=true->a∈l:=λa k=>by
  apply Classical.byContradiction;intro f;exact d ⟨a,k,λD b=>by rw[q]at b;rw[<- gP b];exact f⟩
 have v:=oW (l:=(List.range c.r).map fun(j:Nat)=>16*(x.p:Int)+(j:Int)*(c.z:Int)) (m:=l) (by
  rw[List.Nodup,List.pairwise_map];refine List.Pairwise.imp ?_ List.pairwise_lt_range;intro i j o e;have t:(i:Int)*(c.z:Int)=(j:Int)*(c.z:Int):=by omega
  have C:=Int.eq_of_mul_eq_mul_right (by omega:(c.z:Int)≠0) t;omega) (λa k=>by
  obtain⟨j,y,rfl⟩:=List.mem_map.1 k;have u:=List.mem_range.1 y;refine g _ ?_;unfold iO;have e:16*(x.p:Int)+(j:Int)*(c.z:Int)-16*(x.p:Int)=(j:Int)*(c.z:Int):=by omega
  rw[e];refine gTg ⟨Int.mul_nonneg (by omega) (by omega),Int.mul_lt_mul_of_pos_right (by omega) (by omega),Int.mul_emod_left _ _⟩)
 simp only[gTe,List.length_range]at v;omega
theorem fK.idle (h:fK s [])(hc:s.cs[i]? =aK c)(hx:x∈c.sl):x.n=c.r:=by
 apply Classical.byContradiction;intro j;have d:=gM hc;have b:=h.g.ok.ck c d;obtain⟨a,e⟩:=(b.sk x hx).lacks b.z.1 j;obtain⟨t,f,_⟩:=h.all a (aK i) c.z ⟨⟨c,hc,x,hx,e⟩,c,hc,rfl⟩;cases f
structure Kr (h0:Hp)(s t:Sy)(n:Nat):Prop where
 i:fK t []
 sg:t.sig=s.sig
 hp:Hk h0 t.h
 no:∀j,j<n->∀c,t.cs[j]? =aK c->c.sl=[]
theorem Kr.step (h:Kr h0 s t n)(hn:n<t.cs.length):Kr h0 s (t.shrink n) (n+1):=by
 have d:=h.i.g.ok;refine⟨h.i.same (d.zK hn),Gu.trans h.sg,h.hp.trans Hk.shrink,λj q c b=> ?_⟩;by_cases a:j=n
 ·subst a;obtain⟨l,f,p,r,e⟩:=d.VU (gJ hn);rw[f]at b;obtain rfl:=gP b
  match hq:l.sl with
  | []=>rfl
  | y::m=>
   obtain⟨o,k⟩:=e y (by rw[hq];simp);exact absurd (h.i.idle (gJ hn) o) k
 ·rw[d.Le hn j a]at b;exact h.no j (by omega) c b
theorem Kr.done (h:Kr h0 s t n)(hn:t.cs.length<=n)(hk0:fG h0)(hl:h0.ls=[])(hv:h0.live=[]):
 t.h.drain.live=[]/\∀i,i<2->(t.h.drain.zone i).l.map iZ=(h0.zone i).l.map iZ:=by
 obtain⟨k1,k2,p⟩:=h.hp hk0;obtain⟨u,g,k,o,v⟩:=k1.drain;have d:t.h.live=[]:=by
  match hq:t.h.live with
  | []=>rfl
  | b::m=>
   have f:t.whole b:=⟨by rw[hq];simp,λc w x a=>by
    obtain⟨j,r,e⟩:=List.mem_iff_getElem.1 w;have:=h.no j (by omega) c (by rw[gJ r,e]);rw[this]at a;cases a⟩
   obtain⟨x,a,_⟩:=h.i.all _ aJ _ ⟨b,f,rfl,rfl⟩;cases a
 exact vT.aAh ⟨u,k2.trans k,λq=>by rw[g,p],by rw[v,d],by simp⟩ o hk0 hl hv
def backAct (x:Th):Ac:=if x.k=1 then⟨2,0,0,0,x.a/16,0,[]⟩else if x.k=5 then⟨6,0,0,0,x.a,0,x.n⟩else⟨9,0,0,0,x.a,0,[]⟩
theorem fK.back {x:Th}(h:fK s (x::L)):∃t,Dn s (backAct x) (t,⟨0,0,[]⟩)/\fK t L:=by
 have v:=h.g.ok.hk.cp.1;obtain⟨m,A⟩:=h.th x (by simp);have j:=A.k;have key:∀(c:Ac) (f:Int),pJ s.h.aP c f->0<f->fits c x->(c.k=2∨c.k=6∨c.k=9)->∃t,Dn s (c.at x.a) (t,⟨0,0,[]⟩)/\fK t L:=λc f q o l E=>by
  obtain⟨r,p,C,F⟩:=Ju h q o (i:=0) rfl l;have u:r.2=⟨0,0,[]⟩:=by
   have d:(c.at x.a).k=c.k:=rfl;generalize c.at x.a=D at*;cases p <;> first | rfl | (exfalso;simp only at d;omega)
  obtain⟨t,e⟩:=r;simp only at u;subst u;refine⟨t,p,?_⟩;have y:=C rfl;have B:lC (x::L) (c.at x.a) ⟨0,0,[]⟩ 0=L:=by
   have d:(c.at x.a).k=c.k:=rfl;unfold lC;rw[d,if_neg (by omega),if_neg (by omega),if_neg (by omega),if_neg (by omega),if_pos (by omega)];rfl
  rwa [B]at y
 obtain⟨a,z,k,n,w,b⟩:=x;simp only at j;cases j with
 | num hz=>exact key ⟨9,0,0,0,0,0,[]⟩ 1 (.jG 0 1 (by omega) (by omega)) (by omega) (.inr (.inr (.inl ⟨.inl rfl,rfl⟩))) (.inr (.inr rfl))
 | WG hh=>exact key ⟨2,0,0,0,0,0,[]⟩ 1 (.give 0 1 (by omega) (by omega)) (by omega) (.inl ⟨rfl,rfl⟩) (.inl rfl)
 | obj i n q o l=>
  exact key ⟨6,0,0,0,0,0,n⟩ 1 (.drop 0 n 1 (by omega) l (by omega)) (by omega) (.inr (.inl ⟨rfl,rfl,by rcases l with rfl | rfl <;> simp[vX,kK]⟩)) (.inr (.inl rfl))
theorem kV.trans {W':World}{s1:Sy}{v1 v':Sc}{q q':Aq}{bs bs':List (Nat×Array Value)}(h:kV w0 s v s1 v1 q bs W)(k:kV W s1 v1 t v' q' bs' W'):kV w0 s v t v' CU bs W':=by
 have a:=h.below k.b;exact⟨λG X e=>(k.c G _ (h.c G X e)).sub λx i=> .inl i,a.b,a.l,h.d,World.ownsRow_nil _ _ _ _,λg f=>by simp[CU,Aq.sl,gTh]at f⟩
theorem kV.act7 {v':Sc}{q:Aq}{bs:List (Nat×Array Value)}(h:kV w0 s v s' v' q ((b,#[a0,a1,a2,a3,a4,a5,a6])::bs) W)(b0 b1 b2 b3 b4 b5 b6:Value):kV w0 s v s' v' q ((b,#[b0,b1,b2,b3,b4,b5,b6])::bs) (((((((W.setCell ⟨b,0,aJ⟩ b0).setCell ⟨b,1,aJ⟩ b1).setCell ⟨b,2,aJ⟩ b2).setCell ⟨b,3,aJ⟩ b3).setCell ⟨b,4,aJ⟩ b4).setCell ⟨b,5,aJ⟩ b5).setCell ⟨b,6,aJ⟩ b6):=by
 have a:=((((((h.set 0 b0).set 1 b1).set 2 b2).set 3 b3).set 4 b4).set 5 b5).set 6 b6;simpa only[gE,gG,gH]using a
theorem aAk (hk:cZ s)(hc:s.cs[i]? =aK c){n:List UInt8}(hn:n∈c.ns):s.named n=aK i:=by
 obtain⟨a,rfl⟩:=gK.1 hc;refine List.findIdx?_eq_some_iff_getElem.2 ⟨a,List.contains_iff_mem.2 hn,λj b d=> ?_⟩;exact gN.1 hk.nd j i (by omega) a b n (List.contains_iff_mem.1 (by simpa using d)) hn
theorem Kr.next (h:Kr h0 s t j)(hk:cZ s)(hc:s.cs[n]? =aK c)(hm:m∈c.ns):t.named m=aK n:=by
 rw[qG h.sg];exact aAk hk hc hm
theorem Kr.len (h:Kr h0 s t j):t.cs.length=s.cs.length:=by
 have:=congrArg List.length h.sg;simpa[Sy.sig]using this
theorem own:ownKnob prog.godebug=aJ:=by kernel_rfl
theorem aIf:prog.globalNamed "paddock/buddy.others" =aK 1:=by kernel_rfl
theorem aAl:(prog.globals[1]?).map (·.type)=aK 240:=by kernel_rfl
theorem gSz:prog.globalNamed "paddock/kmem.sizes" =aK 0:=by kernel_rfl
theorem aCd:(prog.globals[0]?).map (·.type)=aK 118:=by kernel_rfl
theorem cellsT3:prog.cellsOf 240=6:=by kernel_rfl
theorem cellsT2:prog.cellsOf 239=2:=by kernel_rfl
theorem cellsT6:prog.cellsOf 118=6:=by kernel_rfl
theorem Qg:prog.cellsOf 3=1:=by kernel_rfl
theorem Ij {H:Type}{enc:TypeId×Value->H}{P:Program}{w:World}{base:Nat}{sp:Nat->Bool}{held:Bool}{fuel:Nat}{t e f:TypeId}{n m:Nat}{k:IntKind}{cs:List Value}{zss:List (List Int)}{p:List MemPlace}
 (ht:P.underlying t=aK (.array n e)) (he:P.underlying e=aK (.array m f)) (hf:P.underlying f=aK (.int k)) (hcf:P.cellsOf f=1) (hce:P.cellsOf e=m) (hct:P.cellsOf t=n*m)
 (h:DataW.trod enc P w base sp held fuel t cs=aK (.agg (zss.map λzs=>Lib.tabData k zs),p)):∀i,i<n->∃zs,zss[i]? =aK zs/\(cs.drop (i*m)).take m=zs.map λz=>Value.int k z:=by
 cases fuel with
 | zero=>simp[DataW.trod]at h
 | succ fuel=>
  simp only[DataW.trod,ht,hce,hct]at h;split at h
  ·rename_i hl;obtain⟨l,o,r⟩:=Option.map_eq_some_iff.1 h;have j:l.map (·.1)=zss.map λzs=>(Lib.tabData k zs:DataW H):=by
    have:=congrArg Prod.fst r;simpa using this
   intro i q;obtain⟨b,hb,g⟩:=Lib.mapM_at o i i (by simp[q]);have c:(l.map (·.1))[i]? =aK b.1:=by simp[hb]
   rw[j]at c;simp only[List.getElem?_map,Option.map_eq_some_iff]at c;obtain⟨zs,d,a⟩:=c;obtain⟨s,u⟩:=b;simp only at a;subst a;exact⟨zs,d,Lib.cells_of_tab he hf hcf hce g⟩
  ·cases h
theorem Qh (h:laidMetH prog [("math/bits.deBruijn32tab",Rows.laid_math_bits_deBruijn32tab),("math/bits.deBruijn64tab",Rows.laid_math_bits_deBruijn64tab),("internal/strconv.uint64pow10",Rows.laid_internal_strconv_uint64pow10),("paddock/buddy.others",Rows.laid_paddock_buddy_others),("paddock/kmem.sizes",Rows.laid_paddock_kmem_sizes)] W):vP W:=by
 obtain⟨J,⟨_,_,_,_,_,_,_,_,_,_,⟨_,_,_,_,_,_,_,_,_,_,⟨_,_,_,_,_,_,_,_,_,_,⟨L,I,g,A,p,q,j,m,f,E,_,_⟩,_⟩,_⟩,_⟩,_⟩:=h;obtain rfl:=gP (aIf.symm.trans j);obtain rfl:=gP (aAl.symm.trans m);have k:=Ij (zss:=[[2,1],[2,0],[0,1]]) underlying240 underlying239 underlying3 Qg cellsT2 cellsT3 E;have d:∀i v,g[i]? =aK v->W.cell? ⟨1,i,aJ⟩=aK v:=λi v c=>(World.var?_cell aIf f i).trans c
 obtain⟨z0,o,F⟩:=k 0 (by decide);obtain⟨z1,s,H⟩:=k 1 (by decide);obtain⟨K,n,G⟩:=k 2 (by decide);simp only[gC,gD,Option.some.injEq]at o s n;subst o s n;have key:∀(l:List Value) (a b:Nat) (x y:Value),(l.drop a).take 2=[x,y]->l[a]? =aK x/\l[a+1]? =aK y:=by
  intro l a b x y h;have r:=congrArg (·[0]?) h;have z:=congrArg (·[1]?) h;simp[List.getElem?_drop]at r z;exact⟨r,z⟩
 obtain⟨B,C⟩:=key g.toList 0 0 _ _ F;obtain⟨D,t⟩:=key g.toList 2 0 _ _ H;obtain⟨w,u⟩:=key g.toList 4 0 _ _ G;rw[Array.getElem?_toList]at B C D t w u;have e:=d 0 _ B;refine⟨by have:=World.block_lt_of_cell? W _ e;exact this,λi v c=> ?_⟩;rcases i with _ | _ | _ | _ | _ | _ | i
 ·simp at c;subst c;exact e
 ·simp at c;subst c;exact d 1 _ C
 ·simp at c;subst c;exact d 2 _ D
 ·simp at c;subst c;exact d 3 _ t
 ·simp at c;subst c;exact d 4 _ w
 ·simp at c;subst c;exact d 5 _ u
 ·simp at c
theorem Qi (h:laidMetH prog [("math/bits.deBruijn32tab",Rows.laid_math_bits_deBruijn32tab),("math/bits.deBruijn64tab",Rows.laid_math_bits_deBruijn64tab),("internal/strconv.uint64pow10",Rows.laid_internal_strconv_uint64pow10),("paddock/buddy.others",Rows.laid_paddock_buddy_others),("paddock/kmem.sizes",Rows.laid_paddock_kmem_sizes)] W):Bg W:=by
 obtain⟨o,⟨_,_,_,_,_,_,_,_,_,_,⟨_,_,_,_,_,_,_,_,_,_,⟨_,_,_,_,_,_,_,_,_,_,⟨_,_,_,_,_,_,_,_,_,_,⟨r,n,f,g,p,q,c,d,a,l,_,_⟩,_⟩,_⟩,_⟩,_⟩,_⟩:=h;obtain rfl:=gP (gSz.symm.trans c);obtain rfl:=gP (aCd.symm.trans d);have m:=Lib.cells_of_tab (zs:=[1,2,4,8,16,32]) underlying118 underlying3 Qg cellsT6 l;have k:∀i v,f[i]? =aK v->W.cell? ⟨0,i,aJ⟩=aK v:=λi v e=>(World.var?_cell gSz a i).trans e
 have j:∀i:Nat,f[i]? =([1,2,4,8,16,32].map λz=>Value.int .i64 z)[i]? :=λi=>by rw[<- Array.getElem?_toList,m]
 have b:=k 0 (.int .i64 1) (by rw[j];rfl);refine⟨World.block_lt_of_cell? W _ b,λi v e=>k i v ?_⟩;rw[j,<- e];rcases i with _ | _ | _ | _ | _ | _ | i;all_goals rfl
def putCells (a:Array Value):Obj->Obj
 | .cells _ t frozen=> .cells a t frozen
 | o=>o
noncomputable def laidWorld (os:Os):World:=
 {World.holding prog os ⟨#[],#[],[]⟩with heap:=((((((World.holding prog os ⟨#[],#[],[]⟩).heap.modify 0 (putCells #[.int .i64 1,.int .i64 2,.int .i64 4,.int .i64 8,.int .i64 16,.int .i64 32])).modify 1 (putCells #[.int .i64 2,.int .i64 1,.int .i64 2,.int .i64 0,.int .i64 0,.int .i64 1])).modify 2 (putCells #[.int .u64 1,.int .u64 10,.int .u64 100,.int .u64 1000,.int .u64 10000,.int .u64 100000,.int .u64 1000000,.int .u64 10000000,.int .u64 100000000,.int .u64 1000000000,.int .u64 10000000000,.int .u64 100000000000,.int .u64 1000000000000,.int .u64 10000000000000,.int .u64 100000000000000,.int .u64 1000000000000000,.int .u64 10000000000000000,.int .u64 100000000000000000,.int .u64 1000000000000000000,.int .u64 10000000000000000000])).modify 3 (putCells #[.int .u8 0,.int .u8 1,.int .u8 28,.int .u8 2,.int .u8 29,.int .u8 14,.int .u8 24,.int .u8 3,.int .u8 30,.int .u8 22,.int .u8 20,.int .u8 15,.int .u8 25,.int .u8 17,.int .u8 4,.int .u8 8,.int .u8 31,.int .u8 27,.int .u8 13,.int .u8 23,.int .u8 21,.int .u8 19,.int .u8 16,.int .u8 7,.int .u8 26,.int .u8 12,.int .u8 18,.int .u8 6,.int .u8 11,.int .u8 5,.int .u8 10,.int .u8 9])).modify 4 (putCells #[.int .u8 0,.int .u8 1,.int .u8 56,.int .u8 2,.int .u8 57,.int .u8 49,.int .u8 28,.int .u8 3,.int .u8 61,.int .u8 58,.int .u8 42,.int .u8 50,.int .u8 38,.int .u8 29,.int .u8 17,.int .u8 4,.int .u8 62,.int .u8 47,.int .u8 59,.int .u8 36,.int .u8 45,.int .u8 43,.int .u8 51,.int .u8 22,.int .u8 53,.int .u8 39,.int .u8 33,.int .u8 30,.int .u8 24,.int .u8 18,.int .u8 12,.int .u8 5,.int .u8 63,.int .u8 55,.int .u8 48,.int .u8 27,.int .u8 60,.int .u8 41,.int .u8 37,.int .u8 16,.int .u8 46,.int .u8 35,.int .u8 44,.int .u8 21,.int .u8 52,.int .u8 32,.int .u8 23,.int .u8 11,.int .u8 54,.int .u8 26,.int .u8 40,.int .u8 15,.int .u8 34,.int .u8 20,.int .u8 31,.int .u8 10,.int .u8 25,.int .u8 14,.int .u8 19,.int .u8 9,.int .u8 13,.int .u8 8,.int .u8 7,.int .u8 6]))}
section
open Go.RowKit Go.WideShapes Go.ChangeShapes
theorem DZ {α:Type}(p:Nat->α->Prop):∀n,(∀i,i<n->∃x,p i x)->∃l:List α,l.length=n/\∀i (h:i<l.length),p i l[i]
 | 0,_=>⟨[],rfl,λi h=>by simp at h⟩
 | n+1,h=>by
  obtain⟨l,hl,hp⟩:=DZ p n λi b=>h i (by omega)
  obtain⟨x,c⟩:=h n (by omega);refine⟨l++[x],by simp[hl],λi b=> ?_⟩;by_cases a:i<l.length
  ·rw[List.getElem_append_left a];exact hp i a
  ·rw[List.getElem_append_right (by omega)];have:i=n:=by simp at b;omega
   subst this;simpa using c
theorem Et {z:Int}(h:(Lit.int .i64 z).wf=true):in64 z:=bounds_i64 h
theorem JB {H:Type}{enc:TypeId×Value->H}{W:World}{base fuel:Nat}{sp:Nat->Bool}{held:Bool}{cs:List Value}{x:DataW H×List MemPlace}
 (h:DataW.trod enc prog W base sp held fuel 139 cs=aK x):∃r:Rw,r.wf/\cs=yQ r:=by
 obtain⟨A,n,rfl,rfl,z,C,i⟩:=DataW.trod_struct underlying139 h;have l:cs.length=4:=by rw[z];kernel_rfl
 have m:prog.cellsOf 3=1:=by kernel_rfl
 have w:A.length=4:=C;have o:=i 0 _ rfl;have p:=i 1 _ rfl;have q:=i 2 _ rfl;have s:=i 3 _ rfl;rw[gJ (by omega)]at o p q s;obtain⟨y,f,_,B⟩:=DataW.trod_int underlying3 o;obtain⟨D,j,_,t⟩:=DataW.trod_int underlying3 p;obtain⟨F,g,_,E⟩:=DataW.trod_int underlying3 q;obtain⟨v,k,_,u⟩:=DataW.trod_int underlying3 s;change (cs.drop 0).take (prog.cellsOf 3)=_ at f;change (cs.drop 1).take (prog.cellsOf 3)=_ at j;change (cs.drop 2).take (prog.cellsOf 3)=_ at g;change (cs.drop 3).take (prog.cellsOf 3)=_ at k;rw[m]at f j g k;refine⟨⟨y,D,F,v⟩,⟨Et B,Et t,Et E,Et u⟩,?_⟩;obtain _ | ⟨a,_ | ⟨b,_ | ⟨c,_ | ⟨d,_ | ⟨e,cs⟩⟩⟩⟩⟩:=cs;all_goals simp at l
 simp at f j g k;simp[yQ,vI,f,j,g,k]
theorem aAn {H:Type}{enc:TypeId×Value->H}{W:World}{a:Option Addr}{n c:Nat}{d:DataW H}{p:List MemPlace}
 (h:DataW.Trod enc prog W 0 (λ_=>true) true 22 (aA a n c) d p):∃zs:List Rw,zs.length=n/\Row W a (flat yQ zs)/\n<=c/\c<=maxLen/\∀r∈zs,r.wf:=by
 obtain⟨I,R⟩:=h;have B:prog.cellsOf 139=4:=by kernel_rfl
 rcases DataW.trod_slice underlying22 R with ⟨f,_⟩ | ⟨u,len,P,z,K,m,_,f,_,_,G,J,E,g,_,_⟩
 ·simp only[Value.cells,List.cons.injEq,Value.slice.injEq,and_true]at f;obtain⟨rfl,rfl,rfl⟩:=f;exact⟨[],rfl,Row.nil _ _,gT _,gU _,by simp⟩
 ·simp only[Value.cells,List.cons.injEq,Value.slice.injEq,and_true]at f;obtain⟨rfl,rfl,rfl⟩:=f;rw[B]at g;by_cases D:n=0
  ·subst D;exact⟨[],rfl,Row.nil _ _,G,J,by simp⟩
  have e:u.spot=aJ:=by
   have q:=g 0 (by omega);rw[gJ (by omega),Option.bind_eq_some_iff]at q;obtain⟨O,y,C⟩:=q;obtain⟨r,w,rfl⟩:=JB C;have s:=(World.cells?_some y).2.2 0 (by omega);rw[show u.add (0*4)=u from by rw[Nat.zero_mul];unfold Addr.add;rw[if_pos rfl]]at s;exact WS s
  obtain⟨b,off,spot⟩:=u;simp only at e;subst e;have t:∀i,i<n->∃r:Rw,r.wf/\∀j v,(yQ r)[j]? =aK v->W.cell? ⟨b,off+(i*4+j),aJ⟩=aK v:=by
   intro i l;have q:=g i l;rw[gJ (by omega),Option.bind_eq_some_iff]at q;obtain⟨O,y,C⟩:=q;obtain⟨r,w,rfl⟩:=JB C;refine⟨r,w,λj v o=> ?_⟩;have N:=World.cells?_some y;have A:j<4:=by have:=(gK.1 o).1;simpa[yQ]using this
   have s:=N.2.2 j A;rw[Addr.add_lit,Addr.add_lit,Nat.add_assoc]at s;rw[s];exact o
  obtain⟨zs,Q,F⟩:=DZ _ n t;refine⟨zs,Q,?_,G,J,λr w=>by
   obtain⟨i,l,rfl⟩:=List.getElem_of_mem w;exact(F i l).1⟩
  intro j v o;have M:j<zs.length*4:=by have:=(gK.1 o).1;rwa [flat_length vG]at this
  have L:=Nat.div_add_mod j 4;have x:j%4<4:=Nat.mod_lt _ (by omega);have l:j/4<zs.length:=by omega
  rw[show j=j/4*4+j%4 by omega,flat_get vG zs (j/4) l (j%4) x]at o;have k:=(F (j/4) l).2 (j%4) v o;rw[show j/4*4+j%4=j by omega]at k;exact⟨b,off,rfl,World.block_lt_of_cell? W _ k,k⟩
end
end Go.Proofs.YtjaogfhcnmjkiaaGreatDoor
