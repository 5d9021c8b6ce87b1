/- joined. -/
import Derived.Test.YtjaogfhcnmjkiaaGreatDoorSG25
set_option linter.all false
set_option maxRecDepth 100000
set_option maxHeartbeats 0
namespace Go.Proofs.YtjaogfhcnmjkiaaGreatDoor
open Go.RowKit
open Go.Value renaming slice->aA,int->aB,agg->aC,string->aF,tuple->aG,pointer->aH,ownBlock->gTh
open Go.IntKind renaming i64->aI
open Option renaming none->aJ,some->aK
open Go.Ending renaming returned->aN
open Go.Obj renaming cells->aO
open Go.Proofs.Tryz
variable {A:Array Value}{G N0 b g i j o:Nat}{L:List Th}{W w:World}{a0 a1 a2 u:Value}{acts:List Ac}{c:Ac}{f:Int}{pa pt pw:Pl}{qs ys:List Aq}{rs:List Rs}{s:Sy}{v:Sc}
theorem Ba (h:dY W G N0 s v (rws acts qs L pa pt pw) ys)(hi:i<L.length)(hg:pw.a=aK ⟨g,0,aJ⟩)(hj:j<6){t':Th}(he:jZ t'=(jZ L[i]).set j u)(hu:u.oneCell'=true):
 dY (W.setCell ⟨g,i*6+j,aJ⟩ u) G N0 s v (rws acts qs (L.set i t') pa pt pw) ys/\N0<=g:=by
 have b:=h.cell (i:=2) (show 2<3 by decide) (g:=g) (c:=pw.c) (by show(oP L pw).v=_;unfold oP;rw[hg];rfl) (i*6+j) u hu;have e:({oP L pw with xs:=(oP L pw).xs.set (i*6+j) u}:Rs)=oP (L.set i t') pw:=by
  unfold oP;simp only[List.length_set];rw[tH fU hj L i hi he]
 refine⟨?_,(h.og (oP L pw) (by simp[rws]) g (by unfold oP;rw[hg];rfl)).2⟩;have d:(rws acts qs L pa pt pw).set 2 {oP L pw with xs:=(oP L pw).xs.set (i*6+j) u}=rws acts qs (L.set i t') pa pt pw:=by rw[e];rfl
 rw[<- d];exact b
theorem uI (h:dY W G N0 s v (rws acts qs L pa pt pw) ys)(hi:i<L.length)(hg:pw.a=aK ⟨g,0,aJ⟩):
 (∀j u,(jZ L[i])[j]? =aK u->W.cell? ⟨g,i*6+j,aJ⟩=aK u)/\(∀o,W.frozen? ⟨g,o,aJ⟩=false)/\g<W.heap.size:=by
 obtain⟨f,e,_,c,b,d⟩:=EP fU (by decide) (h.o.each (oP L pw) (by simp[rws])) hi;rw[hg]at e;obtain rfl:g=f:=by simpa using e
 exact⟨b,d,c⟩
theorem Bc (h:dY W G N0 s v (rws acts qs L pa pt pw) ys)(hi:i<L.length):∃g,pw.a=aK ⟨g,0,aJ⟩:=by
 obtain⟨b,e,_⟩:=EP fU (by decide) (h.o.each (oP L pw) (by simp[rws])) hi;exact⟨b,e⟩
theorem aBK {v:Value}(hne:b≠G)(h:W.cell? ⟨b,o,aJ⟩=aK v):(W.setCell ⟨G,i,aJ⟩ u).cell? ⟨b,o,aJ⟩=aK v:=by
 have a:(⟨G,i,aJ⟩:Addr)≠⟨b,o,aJ⟩:=λe=>hne (by simpa using(congrArg Addr.block e).symm)
 exact(World.cell?_setCell_other _ _ _ _ a).trans h
theorem aBL (G N0:Nat)(s:Sy)(v:Sc)(acts:List Ac)(qs ys:List Aq)(L:List Th)(pa pt pw:Pl)(cu cn cm cp cf:Int)(cs:List UInt8)(x:An)(d:Option Addr)(cap i:Nat)(iv:Int)(w:World)(hg:dY w G N0 s v (rws acts qs L pa pt pw) ys)(hN:N0<=w.heap.size)(hL:L.length<=5000)(ED:N0<=G)(hi:i<L.length)(hiv:iv=(i:Int)):
 Calls prog 62 #[aH (aK ⟨G,0,aJ⟩),aC #[aB aI 11,aB aI cu,aB aI cn,aB aI cm,aB aI cp,aB aI cf,aF ⟨cs.toArray⟩],aC #[aB aI (x.c:Int),aB aI x.n,aA d x.l.length cap],aB aI iv] w (AZ G N0 s v acts qs ys (lF L ⟨11,cu,cn,cm,cp,cf,cs⟩ x i) pa pt w):=by
 subst hiv;obtain⟨W,N,F1,F2,hsz,q⟩:=boxes2 w #[aB aI 11,aB aI cu,aB aI cn,aB aI cm,aB aI cp,aB aI cf,aF ⟨cs.toArray⟩] 70 #[aB aI (x.c:Int),aB aI x.n,aA d x.l.length cap] 72;have b:=gO (hg.below q);have D:=gO (q.mono hN);have hN1:N0<=w.heap.size:=hN;obtain⟨q0,q1,Y,q3,q4,q5,q6⟩:=gA7 W;have z0:=N 0;have z1:=N 1;have z2:=N 2;simp only[gB,gC,gD]at z0 z1 z2;have Ud:=gO (fun(g:Nat) (e:(aA pw.a L.length pw.c).ownBlock=aK g)=>(hg.o.lt (oP L pw) (by simp[rws]) g e).2);have Xf:G<w.heap.size:=hg.lt;clear W N F1 F2 q hg;go_enter func62,ntmps62
 go_upto_region 1 with fail
 generalize (w.alloc _).alloc _=h at*;have Qy:G<h.heap.size:=b.out.lt;have C:w.heap.size<h.heap.size:=by omega
 have Z:h.cell? ⟨G,9,aJ⟩=aK (aA pw.a L.length pw.c):=b.out.k 9;have Ec:(aA pw.a L.length pw.c).ownBlock≠aK G:=λe=>(b.out.og (oP L pw) (by simp[rws]) G e).1 rfl
 obtain⟨g,hg⟩:=Bc b.out hi;obtain⟨V,hf,hgl⟩:=uI b.out hi hg;have hii:(i:Int)<L.length:=by omega
 have t0:h.cell? ⟨g,i*6,aJ⟩=aK (aB aI L[i].a):=V 0 _ rfl;have p0:=hf (i*6);rw[hg]at Z;obtain⟨t1,r⟩:∃t1:Th,t1={L[i]with a:=x.n}:=⟨_,rfl⟩
 have f:=Ba b.out hi hg (j:=0) (by decide) (u:=aB aI x.n) (t':=t1) (by rw[r];rfl) rfl;have I:Hid (dY (h.setCell ⟨g,i*6,aJ⟩ (aB aI x.n)) G N0 s v (rws acts qs (L.set i t1) pa pt pw) ys):=f.1;have K:=gO (gS D.out g (i*6) f.2 (aB aI x.n));have S:N0<=g:=f.2;have F:N0<=h.heap.size:=by omega
 have hgw:g<w.heap.size:=Ud.out g (by rw[hg];rfl);have T:(h.setCell ⟨g,i*6,aJ⟩ (aB aI x.n)).cell? ⟨w.heap.size,2,aJ⟩=aK (aB aI cn):=aBK (by omega) Y;clear f hf V;go_upto_region 19 with fail
 go_cut [] (λwx=>Hid (dY wx G N0 s v (rws acts qs (L.set i t1) pa pt pw) ys)/\Hid (Below N0 w wx)/\wx.cell? ⟨w.heap.size,2,aJ⟩=aK (aB aI cn)/\N0<=wx.heap.size)
 case first=>
  go_region_law fail
  all_goals (go_wp2_with fail)
  all_goals go_meet
  all_goals have A:=(gX (h.setCell ⟨g,i*6,aJ⟩ (aB aI x.n)).heap.size (h.setCell ⟨g,i*6,aJ⟩ (aB aI x.n))).drew
  all_goals exact⟨I.out.below A,K.out.trans (A.mono (by simpa using F)),(A.cell (p:=⟨w.heap.size,2,aJ⟩) (by simpa using C)).trans T,by simpa using F⟩
 case rest=>
  obtain⟨m,B,q2c,Q⟩:=hcut;have M:i<(L.set i t1).length:=by rw[List.length_set];exact hi
  obtain⟨E,H,aKY⟩:=uI m.out M hg;have u1:wc.cell? ⟨g,i*6+1,aJ⟩=aK (aB aI (L.set i t1)[i].z):=E 1 _ rfl;have p1:=H (i*6+1);have k93:wc.cell? ⟨G,9,aJ⟩=aK (aA (aK ⟨g,0,aJ⟩) L.length pw.c):=by
   have h9:=m.out.k 9;have J:wc.cell? ⟨G,9,aJ⟩=aK (aA pw.a (L.set i t1).length pw.c):=h9;rw[List.length_set,hg]at J;exact J
  obtain⟨O,t⟩:∃O:Th,O={L[i]with a:=x.n,z:=cn}:=⟨_,rfl⟩
  have U:(L.set i t1)[i]=t1:=by simp
  have y:=Ba m.out M hg (j:=1) (by decide) (u:=aB aI cn) (t':=O) (by rw[U,t,r];rfl) rfl;have X:(L.set i t1).set i O=lF L ⟨11,cu,cn,cm,cp,cf,cs⟩ x i:=by
   rw[List.set_set,t];unfold lF;simp[gJ hi]
  rw[X]at y;have P:=gO y.1;have R:=gO (gS B g (i*6+1) S (aB aI cn));clear y H E X U r t m B q0 q1 Y q3 q4 q5 q6 z0 z1 z2 t0 p0 Z I K b D;go_wp2_with fail
  go_region_law fail
  all_goals
   have A:=(gX (wc.setCell ⟨g,i*6+1,aJ⟩ (aB aI cn)).heap.size (wc.setCell ⟨g,i*6+1,aJ⟩ (aB aI cn))).drew;exact bodyPost_ret (v:=aG #[]) (by simp[results,results62,go_sem]) rfl ⟨_,rfl,P.out.below A,R.out.trans (A.mono (by simpa using Q))⟩
theorem aBM (G N0:Nat)(s:Sy)(v:Sc)(acts:List Ac)(qs ys:List Aq)(L:List Th)(pa pt pw:Pl)(cu cn cm cp cf:Int)(cs:List UInt8)(x:An)(d:Option Addr)(cap i:Nat)(iv:Int)(w:World)(hg:dY w G N0 s v (rws acts qs L pa pt pw) ys)(hN:N0<=w.heap.size)(hL:L.length<=5000)(ED:N0<=G)(hi:i<L.length)(hiv:iv=(i:Int)):
 Calls prog 62 #[aH (aK ⟨G,0,aJ⟩),aC #[aB aI 13,aB aI cu,aB aI cn,aB aI cm,aB aI cp,aB aI cf,aF ⟨cs.toArray⟩],aC #[aB aI (x.c:Int),aB aI x.n,aA d x.l.length cap],aB aI iv] w (AZ G N0 s v acts qs ys (lF L ⟨13,cu,cn,cm,cp,cf,cs⟩ x i) pa pt w):=by
 subst hiv;obtain⟨R,J,F1,Y,hsz,q⟩:=boxes2 w #[aB aI 13,aB aI cu,aB aI cn,aB aI cm,aB aI cp,aB aI cf,aF ⟨cs.toArray⟩] 70 #[aB aI (x.c:Int),aB aI x.n,aA d x.l.length cap] 72;have f:=gO (hg.below q);have A:=gO (q.mono hN);have hN1:N0<=w.heap.size:=hN;obtain⟨q0,q1,q2,q3,q4,q5,q6⟩:=gA7 R;have z0:=J 0;have z1:=J 1;have W:=J 2;simp only[gB,gC,gD]at z0 z1 W;have Ud:=gO (fun(g:Nat) (e:(aA pw.a L.length pw.c).ownBlock=aK g)=>(hg.o.lt (oP L pw) (by simp[rws]) g e).2);have Xf:G<w.heap.size:=hg.lt;clear R J F1 Y q hg;go_enter func62,ntmps62
 go_upto_region 1 with fail
 generalize (w.alloc _).alloc _=p at*;have Qy:G<p.heap.size:=f.out.lt;have T:w.heap.size<p.heap.size:=by omega
 have V:p.cell? ⟨G,9,aJ⟩=aK (aA pw.a L.length pw.c):=f.out.k 9;have Ec:(aA pw.a L.length pw.c).ownBlock≠aK G:=λe=>(f.out.og (oP L pw) (by simp[rws]) G e).1 rfl
 obtain⟨g,hg⟩:=Bc f.out hi;obtain⟨Q,X,hgl⟩:=uI f.out hi hg;have hii:(i:Int)<L.length:=by omega
 have t0:p.cell? ⟨g,i*6+4,aJ⟩=aK (aB aI L[i].w):=Q 4 _ rfl;have p0:=X (i*6+4);rw[hg]at V;obtain⟨t1,r⟩:∃t1:Th,t1={L[i]with w:=cm}:=⟨_,rfl⟩
 have h:=Ba f.out hi hg (j:=4) (by decide) (u:=aB aI cm) (t':=t1) (by rw[r];rfl) rfl;have E:Hid (dY (p.setCell ⟨g,i*6+4,aJ⟩ (aB aI cm)) G N0 s v (rws acts qs (L.set i t1) pa pt pw) ys):=h.1;have H:=gO (gS A.out g (i*6+4) h.2 (aB aI cm));have O:N0<=g:=h.2;have C:N0<=p.heap.size:=by omega
 have Z:g<w.heap.size:=Ud.out g (by rw[hg];rfl);clear h X Q;go_upto_region 22 with fail
 go_cut [] (λwx=>Hid (dY wx G N0 s v (rws acts qs (L.set i t1) pa pt pw) ys)/\Hid (Below N0 w wx)/\True/\N0<=wx.heap.size)
 case first=>
  go_region_law fail
  all_goals (go_wp2_with fail)
  all_goals go_meet
  all_goals have U:=(gX (p.setCell ⟨g,i*6+4,aJ⟩ (aB aI cm)).heap.size (p.setCell ⟨g,i*6+4,aJ⟩ (aB aI cm))).drew
  all_goals exact⟨E.out.below U,H.out.trans (U.mono (by simpa using C)),trivial,by simpa using C⟩
 case rest=>
  obtain⟨m,z,q2c,hN3⟩:=hcut;have I:i<(L.set i t1).length:=by rw[List.length_set];exact hi
  obtain⟨B,D,aKY⟩:=uI m.out I hg;have u1:wc.cell? ⟨g,i*6+5,aJ⟩=aK (.bool (L.set i t1)[i].b):=B 5 _ rfl;have p1:=D (i*6+5);have k93:wc.cell? ⟨G,9,aJ⟩=aK (aA (aK ⟨g,0,aJ⟩) L.length pw.c):=by
   have h9:=m.out.k 9;have F:wc.cell? ⟨G,9,aJ⟩=aK (aA pw.a (L.set i t1).length pw.c):=h9;rw[List.length_set,hg]at F;exact F
  obtain⟨K,t⟩:∃K:Th,K={L[i]with w:=cm,b:=true}:=⟨_,rfl⟩
  have P:(L.set i t1)[i]=t1:=by simp
  have y:=Ba m.out I hg (j:=5) (by decide) (u:= .bool true) (t':=K) (by rw[P,t,r];rfl) rfl;have S:(L.set i t1).set i K=lF L ⟨13,cu,cn,cm,cp,cf,cs⟩ x i:=by
   rw[List.set_set,t];unfold lF;simp[gJ hi]
  rw[S]at y;have M:=gO y.1;have N:=gO (gS z g (i*6+5) O (.bool true));clear y D B S P r t m z q0 q1 q2 q3 q4 q5 q6 z0 z1 W t0 p0 V E H f A;go_wp2_with fail
  all_goals exact bodyPost_ret (v:=aG #[]) (by simp[results,results62,go_sem]) rfl ⟨_,rfl,M.out,N.out⟩
theorem WX (L:List Th)(c:Ac)(x:An)(i:Nat)(hx:x.l.length<=30):(lF L c x i).length<=L.length+30:=by
 unfold lF;split
 ·simp
 split
 ·simp
 split
 ·simp
 split
 ·simp;omega
 split
 ·have:=List.length_eraseIdx_le L i;omega
 split
 ·split <;> simp
 split
 ·split <;> simp
 omega
structure aAe (c:Ac)(x:An):Prop where
 l:x.l.length<=30
 n:c.k=1->x.c=0->0<=x.n/\x.n<=256
theorem aCR {cp:Nat}{c':Ac}(hk:bQ s)(ha:rE cp j c f)(hc:c'.k=c.k/\c'.n=c.n/\c'.f=c.f){r:Sy×An}(hd:Dn s c' r):aAe c' r.2:=by
 have v:c'.k=15->c'.n<=30:=λe=>by
  by_cases x:j=0
  ·rw[(ha.1 x).1]at hc;rw[hc.1]at e;cases e
  ·by_cases d:j=1
   ·rw[(ha.2.1 d).1]at hc;rw[hc.1]at e;cases e
   ·have y:=ha.2.2 (by omega);rw[hc.2.1];rw[hc.1]at e;cases y with
    | bulk u m d h2 h3=>
     show(m:Int)<=30;omega
    | _=>simp only at e;first | omega | cases e
 have key:∀(c:Ac) (r:Sy×An),Dn s c r->(c.k=15->c.n<=30)->aAe c r.2:=λc r hd v=>by
  cases hd with
  | pages u o f d h2 h3 h4=>
   cases ha:s.h.alloc u o (mP f) (decide (f/8%2=1)) (decide (f%2=1))with
   | none=>exact⟨gU _,λ_ e=>by cases e⟩
   | some q=>
    obtain⟨B,a⟩:=q;have p:mP f<3:=by unfold mP;split <;> (try split) <;> omega
    have w:=hk.yF d h2 p ha;have z:=(w.hd (16*(a:Int)) aJ (16*2^o)).2 (.inr (by simp));have C:=w.ok.lC z;refine⟨gU _,λ_ _=> ?_⟩;show 0<=((a:Nat):Int)/\((a:Nat):Int)<=256;omega
  | bulk u i m n d h2 h3 h4=>
   cases ha:s.bulk i u m with
   | none=>exact⟨gU _,λe=>by cases e⟩
   | some q=>
    obtain⟨t,l⟩:=q;obtain⟨c',g,_⟩:=pK h2;have D:=(hk.BO (gK.1 g).1 d ha).2.2.2.1;have A:=v rfl;refine⟨?_,λe=>by cases e⟩;show l.length<=30;simp only at A;omega
  | new u i n d h2=>
   cases ha:s.one i u with
   | none=>exact⟨gU _,λe=>by cases e⟩
   | some q=>exact⟨gU _,λe=>by cases e⟩
  | dV u m d h3 h4=>
   cases ha:s.dV u m with
   | none=>exact⟨gU _,λe=>by cases e⟩
   | some q=>exact⟨gU _,λe=>by cases e⟩
  | resize u m a d h2 h3 h4=>
   cases ha:s.eP u a m with
   | inl e=>exact⟨gU _,λe=>by cases e⟩
   | inr q=>exact⟨gU _,λe=>by cases e⟩
  | give u b d h2=>exact⟨gU _,λe=>by cases e⟩
  | ob t d h2=>exact⟨gU _,λe=>by cases e⟩
  | pair t d h2=>exact⟨gU _,λe=>by cases e⟩
  | drop u i k a n d h2 h3=>exact⟨gU _,λe=>by cases e⟩
  | shrink u i n h2=>exact⟨gU _,λe=>by cases e⟩
  | fM u a t d h2 h3=>exact⟨gU _,λe=>by cases e⟩
  | drain u n=>exact⟨gU _,λe=>by cases e⟩
  | write u a m h2 h3=>exact⟨gU _,λe=>by cases e⟩
  | read u a h2=>exact⟨gU _,λe=>by cases e⟩
 exact key c' r hd v
structure lU (w0:World)(s:Sy)(v:Sc)(s':Sy)(v':Sc)(q:Aq)(bs:List (Nat×Array Value))(W:World):Prop where
 c:∀G X,SR w0 G X s v->SR W G (λk=>X k∨∃p∈bs,p.1=k) s' v'
 b:Below w0.heap.size w0 W
 l:∀p∈bs,w0.heap.size<=p.1/\p.1<W.heap.size/\(∀o,W.cell? ⟨p.1,o,aJ⟩=p.2[o]?)/\∀o,W.frozen? ⟨p.1,o,aJ⟩=false
 d:bs.Pairwise λx y=>x.1≠y.1
 o:W.ownsRow w0.heap.size 3 1 q.sl q.x.l.length (q.x.l.map vI)
 n:∀g,q.sl.ownBlock=aK g->∀p∈bs,p.1≠g
def Iu:Aq:=⟨⟨0,0,[]⟩,aJ,0⟩
section
variable {w0 W W':World}{s s':Sy}{v v':Sc}{q:Aq}{bs:List (Nat×Array Value)}{x y:Nat×Array Value}
theorem lU.start (w0:World)(s:Sy)(v:Sc):lU w0 s v s v Iu [] w0:=
 ⟨λG X h=>h.sub λk b=>b.resolve_right (by simp),gX _ _,λp a=>(by cases a),.nil,World.ownsRow_nil _ _ _ _,λg _ p a=>(by cases a)⟩
theorem lU.below (h:lU w0 s v s' v' q bs W)(hb:Below W.heap.size W W'):lU w0 s v s' v' q bs W':=
 ⟨λG X e=>(h.c G X e).below hb,gW h.b hb,λp a=>⟨(h.l p a).1,gI (h.l p a).2.1 hb.size,aAp (h.l p a).2.2.1 (h.l p a).2.1 hb,aAt (h.l p a).2.2.2 (h.l p a).2.1 hb⟩,h.d,own_below h.o hb (gT _),h.n⟩
theorem lU.drew (h:lU w0 s v s' v' q bs W):lU w0 s v s' v' q bs W.drew:=h.below (gX _ _).drew
theorem lU.box (h:lU w0 s v s' v' q bs W)(A:Array Value)(t:TypeId):lU w0 s v s' v' q ((W.heap.size,A)::bs) (W.alloc (.cells A t)):=by
 have hb:=aAq W (.cells A t);have i:=h.below hb;refine⟨λG X m=>((h.c G X m).new hb).sub λk f=> ?_,i.b,λp a=> ?_,List.pairwise_cons.2 ⟨λp a=> ?_,h.d⟩,i.o,λg j p a=> ?_⟩
 ·rcases f with f | ⟨p,a,e⟩
  ·exact .inl (.inl f)
  ·rcases gY.1 a with rfl | a
   ·subst e;exact .inr ⟨gT _,by simp⟩
   ·exact .inl (.inr ⟨p,a,e⟩)
 ·rcases gY.1 a with rfl | a
  ·exact⟨h.b.size,by simp,aQ W A t,eG W A t⟩
  ·exact i.l p a
 ·have:=(h.l p a).2.1;show W.heap.size≠p.1;omega
 ·rcases gY.1 a with rfl | a
  ·have:=(h.o.lt g j).2;show W.heap.size≠g;omega
  ·exact h.n g j p a
theorem lU.aAf {n:Nat}(h:lU w0 s v s' v' q bs W)(hn:W.heap.size=n)(t:TypeId):lU w0 s v s' v' q ((n,A)::bs) (W.alloc (.cells A t)):=hn▸h.box A t
theorem lU.swap (h:lU w0 s v s' v' q (x::y::bs) W):lU w0 s v s' v' q (y::x::bs) W:=by
 have f:∀p,p∈y::x::bs->p∈x::y::bs:=λp a=>by
  simp only[gY]at a ⊢;rcases a with h | h | h
  ·exact .inr (.inl h)
  ·exact .inl h
  ·exact .inr (.inr h)
 refine⟨λG X r=>(h.c G X r).sub λk i=> ?_,h.b,λp a=>h.l p (f p a),?_,h.o,λg t p a=>h.n g t p (f p a)⟩
 ·rcases i with i | ⟨p,a,e⟩
  ·exact .inl i
  ·exact .inr ⟨p,f p a,e⟩
 ·have j:=List.pairwise_cons.1 h.d;have m:=List.pairwise_cons.1 j.2;refine List.pairwise_cons.2 ⟨λp a=> ?_,List.pairwise_cons.2 ⟨λp a=>j.1 p (List.mem_cons_of_mem _ a),m.2⟩⟩;rcases gY.1 a with rfl | a
  ·exact λe=>j.1 y (List.mem_cons_self ..) e.symm
  ·exact m.1 p a
theorem lU.set (h:lU w0 s v s' v' q ((b,A)::bs) W)(i:Nat)(u:Value):lU w0 s v s' v' q ((b,A.setIfInBounds i u)::bs) (W.setCell ⟨b,i,aJ⟩ u):=by
 have f:=h.l _ (List.mem_cons_self ..);have m:=List.pairwise_cons.1 h.d;have x:∀k,(∃p∈(b,A.setIfInBounds i u)::bs,p.1=k)->∃p∈(b,A)::bs,p.1=k:=λk ⟨p,a,e⟩=>by
  rcases gY.1 a with rfl | a
  ·exact⟨_,List.mem_cons_self ..,e⟩
  ·exact⟨p,List.mem_cons_of_mem _ a,e⟩
 refine⟨λG X w=>((h.c G X w).dD (.inr ⟨_,List.mem_cons_self ..,rfl⟩) i u).sub λk t=>t.imp id (x k),Below.setCell h.b (show w0.heap.size<=b from f.1) u,λp a=> ?_,List.pairwise_cons.2 ⟨m.1,m.2⟩,bC h.o (λe=>h.n b e _ (List.mem_cons_self ..) rfl) u,λg r p a=> ?_⟩
 ·rcases gY.1 a with rfl | a
  ·exact⟨f.1,by rw[World.size_setCell];exact f.2.1,aAr f.2.2.1 i u,aAs f.2.2.2 _ u⟩
  ·have j:=h.l p (List.mem_cons_of_mem _ a);exact⟨j.1,by rw[World.size_setCell];exact j.2.1,aAc j.2.2.1 (λe=>m.1 p a e.symm) i u,aAs j.2.2.2 _ u⟩
 ·rcases gY.1 a with rfl | a
  ·exact h.n g r (b,A) (List.mem_cons_self ..)
  ·exact h.n g r p (List.mem_cons_of_mem _ a)
theorem lU.put7 {a3 a4 a5 a6:Value}(h:lU w0 s v s' v' q ((b,#[a0,a1,a2,a3,a4,a5,a6])::bs) W)(v2:Sc)(s2:Sy):lU w0 s v s' v' q ((b,#[aA v2.a1 v2.n1 v2.c1,aA v2.hc.az 2 v2.hc.cz,aA v2.hc.am 2 v2.hc.cm,aB aI (s2.h.aAh:Int),aA v2.hc.al v2.hc.lc.length v2.hc.cl,aA v2.hc.av s2.h.live.length v2.hc.cv,aA v2.a2 v2.ys.length v2.c2])::bs) (((((((W.setCell ⟨b,0,aJ⟩ (aA v2.a1 v2.n1 v2.c1)).setCell ⟨b,1,aJ⟩ (aA v2.hc.az 2 v2.hc.cz)).setCell ⟨b,2,aJ⟩ (aA v2.hc.am 2 v2.hc.cm)).setCell ⟨b,3,aJ⟩ (aB aI (s2.h.aAh:Int))).setCell ⟨b,4,aJ⟩ (aA v2.hc.al v2.hc.lc.length v2.hc.cl)).setCell ⟨b,5,aJ⟩ (aA v2.hc.av s2.h.live.length v2.hc.cv)).setCell ⟨b,6,aJ⟩ (aA v2.a2 v2.ys.length v2.c2)):=by
 have a:=((((((h.set 0 (aA v2.a1 v2.n1 v2.c1)).set 1 (aA v2.hc.az 2 v2.hc.cz)).set 2 (aA v2.hc.am 2 v2.hc.cm)).set 3 (aB aI (s2.h.aAh:Int))).set 4 (aA v2.hc.al v2.hc.lc.length v2.hc.cl)).set 5 (aA v2.hc.av s2.h.live.length v2.hc.cv)).set 6 (aA v2.a2 v2.ys.length v2.c2);simpa only[gE,gG,gH]using a
theorem lU.put3 (h:lU w0 s v s' v' q ((b,#[a0,a1,a2])::bs) W)(b0 b1 b2:Value):lU w0 s v s' v' q ((b,#[b0,b1,b2])::bs) (((W.setCell ⟨b,0,aJ⟩ b0).setCell ⟨b,1,aJ⟩ b1).setCell ⟨b,2,aJ⟩ b2):=by
 have a:=((h.set 0 b0).set 1 b1).set 2 b2;simpa only[gE,gG,gH]using a
theorem lU.aCS {a3 a4 a5 a6:Value}(h:lU w0 s v s' v' q (x::(b,#[a0,a1,a2,a3,a4,a5,a6])::bs) W)(v2:Sc)(s2:Sy):lU w0 s v s' v' q (x::(b,#[aA v2.a1 v2.n1 v2.c1,aA v2.hc.az 2 v2.hc.cz,aA v2.hc.am 2 v2.hc.cm,aB aI (s2.h.aAh:Int),aA v2.hc.al v2.hc.lc.length v2.hc.cl,aA v2.hc.av s2.h.live.length v2.hc.cv,aA v2.a2 v2.ys.length v2.c2])::bs) (((((((W.setCell ⟨b,0,aJ⟩ (aA v2.a1 v2.n1 v2.c1)).setCell ⟨b,1,aJ⟩ (aA v2.hc.az 2 v2.hc.cz)).setCell ⟨b,2,aJ⟩ (aA v2.hc.am 2 v2.hc.cm)).setCell ⟨b,3,aJ⟩ (aB aI (s2.h.aAh:Int))).setCell ⟨b,4,aJ⟩ (aA v2.hc.al v2.hc.lc.length v2.hc.cl)).setCell ⟨b,5,aJ⟩ (aA v2.hc.av s2.h.live.length v2.hc.cv)).setCell ⟨b,6,aJ⟩ (aA v2.a2 v2.ys.length v2.c2)):=(h.swap.put7 v2 s2).swap
theorem lU.aCT (h:lU w0 s v s' v' q (x::(b,#[a0,a1,a2])::bs) W)(b0 b1 b2:Value):lU w0 s v s' v' q (x::(b,#[b0,b1,b2])::bs) (((W.setCell ⟨b,0,aJ⟩ b0).setCell ⟨b,1,aJ⟩ b1).setCell ⟨b,2,aJ⟩ b2):=(h.swap.put3 b0 b1 b2).swap
theorem lU.k1 (h:lU w0 s v s' v' q ((b,A)::bs) W):(∀o,W.cell? ⟨b,o,aJ⟩=A[o]?)/\(∀o,W.frozen? ⟨b,o,aJ⟩=false)/\b<W.heap.size:=have l:=h.l _ (List.mem_cons_self ..);⟨l.2.2.1,l.2.2.2,l.2.1⟩
theorem lU.k2 (h:lU w0 s v s' v' q (x::(b,A)::bs) W):(∀o,W.cell? ⟨b,o,aJ⟩=A[o]?)/\(∀o,W.frozen? ⟨b,o,aJ⟩=false)/\b<W.heap.size:=h.swap.k1
theorem lU.call (h:lU w0 s v s v Iu bs W)(htr:∀G X,SR W G X s v->SR W' G X s' v')(hb:Below W.heap.size W W')(ho:W'.ownsRow W.heap.size 3 1 q.sl q.x.l.length (q.x.l.map vI)):lU w0 s v s' v' q bs W':=by
 have a:=h.below hb;refine⟨λG X i=>htr G _ (h.c G X i),a.b,a.l,h.d,own_base ho h.b.size,λg j p f e=> ?_⟩;have:=(h.l p f).2.1;have:=(ho.lt g j).1;omega
end
theorem dY.sv (h:dY W G N0 s v rs qs):W.cell? ⟨G,0,aJ⟩=aK (aA v.a1 v.n1 v.c1)/\W.cell? ⟨G,1,aJ⟩=aK (aA v.hc.az 2 v.hc.cz)/\W.cell? ⟨G,2,aJ⟩=aK (aA v.hc.am 2 v.hc.cm)/\W.cell? ⟨G,3,aJ⟩=aK (aB aI (s.h.aAh:Int))/\W.cell? ⟨G,4,aJ⟩=aK (aA v.hc.al v.hc.lc.length v.hc.cl)/\W.cell? ⟨G,5,aJ⟩=aK (aA v.hc.av s.h.live.length v.hc.cv)/\W.cell? ⟨G,6,aJ⟩=aK (aA v.a2 v.ys.length v.c2):=⟨h.k 0,h.k 1,h.k 2,h.k 3,h.k 4,h.k 5,h.k 6⟩
theorem dY.start {B:Nat}(hn:fO W B s v)(hN:N0<=B):dY (W.alloc (aO #[aA v.a1 v.n1 v.c1,aA v.hc.az 2 v.hc.cz,aA v.hc.am 2 v.hc.cm,aB aI (s.h.aAh:Int),aA v.hc.al v.hc.lc.length v.hc.cl,aA v.hc.av s.h.live.length v.hc.cv,aA v.a2 v.ys.length v.c2,aA aJ 0 0,aA aJ 0 0,aA aJ 0 0] 47)) W.heap.size N0 s v (rws [] [] [] ⟨aJ,0⟩ ⟨aJ,0⟩ ⟨aJ,0⟩) []:=by
 have hb:=aAq W (aO #[aA v.a1 v.n1 v.c1,aA v.hc.az 2 v.hc.cz,aA v.hc.am 2 v.hc.cm,aB aI (s.h.aAh:Int),aA v.hc.al v.hc.lc.length v.hc.cl,aA v.hc.av s.h.live.length v.hc.cv,aA v.a2 v.ys.length v.c2,aA aJ 0 0,aA aJ 0 0,aA aJ 0 0] 47);have f:=hn.below hb;have l:W.heap.size<(W.alloc (aO #[aA v.a1 v.n1 v.c1,aA v.hc.az 2 v.hc.cz,aA v.hc.am 2 v.hc.cm,aB aI (s.h.aAh:Int),aA v.hc.al v.hc.lc.length v.hc.cl,aA v.hc.av s.h.live.length v.hc.cv,aA v.a2 v.ys.length v.c2,aA aJ 0 0,aA aJ 0 0,aA aJ 0 0] 47)).heap.size:=by simp
 have b:∀r∈rws [] [] [] ⟨aJ,0⟩ ⟨aJ,0⟩ ⟨aJ,0⟩,∀g,r.v.ownBlock≠aK g:=λr hr g e=>by
  simp only[rws,gY,List.not_mem_nil,or_false]at hr;rcases hr with rfl | rfl | rfl <;> simp[Qc,Qd,oP,gTh]at e
 have d:∀k,(k<N0∨∃r∈rws [] [] [] ⟨aJ,0⟩ ⟨aJ,0⟩ ⟨aJ,0⟩,r.v.ownBlock=aK k)->k<B:=λk a=>by
  rcases a with a | ⟨r,hr,e⟩
  ·omega
  ·exact absurd e (b r hr k)
 have p:=hn.hr.gs;refine⟨⟨f.own,λr hr g n=>⟨λe=>by have:=hn.lt r hr g n;omega,λe=>(hn.og r hr g n).2 (d g e)⟩,f.hr.any l (λq c k a=>⟨λe=>by have:=hn.hr.lt q c k a;omega,λe=> ?_⟩) (λk a=>by have:=d k a;omega) (λe=>by have:=d _ e;omega),f.hd,f.cy⟩,aQ W _ _,eG W _ _,⟨λr hr=> ?_,?_⟩,λr hr g e=>absurd e (b r hr g),lD.nil _ _⟩
 ·have m:=d k e;rcases gZ.1 c with c | c
  ·exact(hn.hr.og q c k a).2 m
  ·exact hn.hr.rx q c k a m
 ·simp only[rws,gY,List.not_mem_nil,or_false]at hr;rcases hr with rfl | rfl | rfl
  ·exact World.ownsRow_nil _ _ _ _
  ·exact World.ownsRow_nil _ _ _ _
  ·exact World.ownsRow_nil _ _ _ _
 ·refine gN.2 λi j t u o g e=> ?_
  exact absurd e (b _ (gL t) g)
theorem dY.low {N1:Nat}(h:dY W G N0 s v rs qs)(hN:N1<=N0)(hG:N0<=G):dY W G N1 s v rs []:=
 ⟨h.r.sub λk b=>b.imp (λe=>gI e hN) id,h.k,h.fz,h.o,λr a g e=>⟨(h.og r a g e).1,gQ hN (h.og r a g e).2⟩,lD.nil _ _⟩
theorem dY.dD (h:dY W G N0 s v rs [])(hG:N0<=G)(hb:b<N0)(i:Nat)(u:Value):dY (W.setCell ⟨b,i,aJ⟩ u) G N0 s v rs []:=
 ⟨h.r.dD (.inl hb) i u,aAc h.k (by omega) i u,aAs h.fz _ _,h.o.far (λr a e=>by have:=(h.og r a b e).2;omega) i u,h.og,lD.nil _ _⟩
theorem Ux {W2 W7:World}(h:dY W2 G N0 s v rs ys)(hN:N0<=W2.heap.size)(hi:i<rs.length){r':Rs}{g7 cap7:Nat}(hr:r'.v=aA (aK ⟨g7,0,aJ⟩) r'.n cap7)(ho7:r'.on W7 0)(hg7:W2.grownBy W7 rs[i].v.ownBlock)(hl7:rs[i].v.ownBlock=aK g7∨g7=W2.heap.size)(lN:g7<W7.heap.size):
 dY (W7.setCell ⟨G,7+i,aJ⟩ (aA (aK ⟨g7,0,aJ⟩) r'.n cap7)) G N0 s v (rs.set i r') ys:=by
 have b:=h.put hi hg7 ho7 (λg e=>by
  rw[hr]at e;obtain rfl:g7=g:=by simpa[gTh]using e
  rcases hl7 with a | a
  ·exact .inl a
  ·exact .inr ⟨by omega,lN⟩) hN
 rw[hr]at b;exact b
section
variable {w W2 W7:World}{G N0 g7 cap7:Nat}{s:Sy}{v:Sc}{acts:List Ac}{qs ys:List Aq}{L:List Th}{pa pt pw:Pl}
theorem aBP (h:dY W2 G N0 s v (rws acts qs L pa pt pw) ys)(hN:N0<=W2.heap.size)(c:Ac)(ho7:W7.ownsRow 0 70 7 (aA (aK ⟨g7,0,aJ⟩) (acts.length+1) cap7) (acts.length+1) (flat lT acts++lT c))(hg7:W2.grownBy W7 (aA pa.a acts.length pa.c).ownBlock)(hl7:(aA pa.a acts.length pa.c).ownBlock=aK g7∨g7=W2.heap.size)(lN:g7<W7.heap.size):
 dY (W7.setCell ⟨G,7,aJ⟩ (aA (aK ⟨g7,0,aJ⟩) (acts.length+1) cap7)) G N0 s v (rws (acts++[c]) qs L ⟨aK ⟨g7,0,aJ⟩,cap7⟩ pt pw) ys:=by
 have b:=Ux h hN (i:=0) (show 0<3 by decide) (r':=Qc (acts++[c]) ⟨aK ⟨g7,0,aJ⟩,cap7⟩) (g7:=g7) (cap7:=cap7) rfl (by
  have e:flat lT (acts++[c])=flat lT acts++lT c:=by rw[aS,fJ]
  unfold Rs.on Qc;rw[gTb,e];exact ho7) hg7 hl7 lN
 have d:(Qc (acts++[c]) ⟨aK ⟨g7,0,aJ⟩,cap7⟩).n=acts.length+1:=by simp[Qc]
 rw[d]at b;exact b
theorem aBQ (h:dY W2 G N0 s v (rws acts qs L pa pt pw) ys)(hN:N0<=W2.heap.size)(c:Aq)(ho7:W7.ownsRow 0 72 3 (aA (aK ⟨g7,0,aJ⟩) (qs.length+1) cap7) (qs.length+1) (flat xK qs++xK c))(hg7:W2.grownBy W7 (aA pt.a qs.length pt.c).ownBlock)(hl7:(aA pt.a qs.length pt.c).ownBlock=aK g7∨g7=W2.heap.size)(lN:g7<W7.heap.size):
 dY (W7.setCell ⟨G,8,aJ⟩ (aA (aK ⟨g7,0,aJ⟩) (qs.length+1) cap7)) G N0 s v (rws acts (qs++[c]) L pa ⟨aK ⟨g7,0,aJ⟩,cap7⟩ pw) ys:=by
 have b:=Ux h hN (i:=1) (show 1<3 by decide) (r':=Qd (qs++[c]) ⟨aK ⟨g7,0,aJ⟩,cap7⟩) (g7:=g7) (cap7:=cap7) rfl (by
  have e:flat xK (qs++[c])=flat xK qs++xK c:=by rw[aS,fJ]
  unfold Rs.on Qd;rw[gTb,e];exact ho7) hg7 hl7 lN
 have d:(Qd (qs++[c]) ⟨aK ⟨g7,0,aJ⟩,cap7⟩).n=qs.length+1:=by simp[Qd]
 rw[d]at b;exact b
end
def vT (p:Ac×Int):List Value:=[aB aI p.1.k,aB aI p.1.u,aB aI p.1.n,aB aI p.1.m,aB aI p.1.p,aB aI p.1.f,aF ⟨p.1.s.toArray⟩,aB aI p.2]
theorem MP (p:Ac×Int):(vT p).length=8:=rfl
theorem Qh (hc:∀i v,(vT (c,f))[i]? =aK v->w.cell? ⟨b,o+i,aJ⟩=aK v):w.cell? ⟨b,o,aJ⟩=aK (aB aI c.k)/\w.cell? ⟨b,o+1,aJ⟩=aK (aB aI c.u)/\w.cell? ⟨b,o+2,aJ⟩=aK (aB aI c.n)/\w.cell? ⟨b,o+3,aJ⟩=aK (aB aI c.m)/\w.cell? ⟨b,o+4,aJ⟩=aK (aB aI c.p)/\w.cell? ⟨b,o+5,aJ⟩=aK (aB aI c.f)/\w.cell? ⟨b,o+6,aJ⟩=aK (aF ⟨c.s.toArray⟩)/\w.cell? ⟨b,o+7,aJ⟩=aK (aB aI f):=⟨hc 0 _ rfl,hc 1 _ rfl,hc 2 _ rfl,hc 3 _ rfl,hc 4 _ rfl,hc 5 _ rfl,hc 6 _ rfl,hc 7 _ rfl⟩
theorem aBT:(prog.info? 135).map (λi=>(i.zero,i.size,i.bytes))=aK (aK (aC #[aB aI 0,aB aI 0,aB aI 0,aB aI 0,aB aI 0,aB aI 0,aF ⟨#[]⟩,aB aI 0]),8,72):=by kernel_rfl
theorem aBU:(prog.info? 70).map (λi=>(i.zero,i.size,i.bytes))=aK (aK (aC #[aB aI 0,aB aI 0,aB aI 0,aB aI 0,aB aI 0,aB aI 0,aF ⟨#[]⟩]),7,64):=by kernel_rfl
theorem Uy:(prog.info? 72).map (λi=>(i.zero,i.size,i.bytes))=aK (aK (aC #[aB aI 0,aB aI 0,aA aJ 0 0]),3,40):=by kernel_rfl
def aAi (cp:Nat)(w:World)(ev:Ending)(w':World):Prop:=∃(l:List (Ac×Int)) (d:Option Addr) (cap:Nat),ev=aN (aA d l.length cap)/\2<=l.length/\l.length<=42/\w'.ownsRow w.heap.size 135 8 (aA d l.length cap) l.length (flat vT l)/\(∀j (hj:j<l.length),rE cp j l[j].1 l[j].2)/\Below w.heap.size w w'
theorem UA (f:Nat->Bool)(r:Rg)(hf:0<=r.f)(hs:1<=r.s)(p:Nat):upd f r.f.toNat (r.f+r.s).toNat false p=(f p&& !qW r p):=by
 unfold upd qW;by_cases h:r.f<=(p:Int)/\(p:Int)<r.f+r.s
 ·rw[if_pos (by omega),gTg h];simp
 ·rw[if_neg (by omega),gV h];simp
theorem aAl {m:List Rg}{r1 r2:Rg}(hm:dM m=true)(h1:0<=r1.f/\1<=r1.s)(h2:0<=r2.f/\1<=r2.s):(iJ ⟨m,[r1,r2]⟩).length<=m.length+2:=by
 have e:∀p,p<256->ZB ⟨m,[r1,r2]⟩ p=upd (upd (dB m) r1.f.toNat (r1.f+r1.s).toNat false) r2.f.toNat (r2.f+r2.s).toNat false p:=λp _=>by
  rw[UA _ r2 h2.1 h2.2,UA _ r1 h1.1 h1.2];unfold ZB dB;simp only[List.any_cons,List.any_nil,Bool.or_false,Bool.not_or,Bool.and_assoc]
 unfold iJ;rw[vS e];have l1:=qX (upd (dB m) r1.f.toNat (r1.f+r1.s).toNat false) r2.f.toNat (r2.f+r2.s).toNat false (by omega);have a:=qX (dB m) r1.f.toNat (r1.f+r1.s).toNat false (by omega);have b:=congrArg List.length (Gp hm);omega
theorem Bg (a b c:Int):dM (iJ (zT a b c))=true:=by
 have d:=(GN a b c).1;have g:=fA a (m:=20) (by decide);have j:=fA c (m:=30) (by decide);have e:=fA a (m:=7) (by decide);have i:=fA b (m:=9) (by decide);have f:=fA c (m:=5) (by decide);have h:=aAl (m:=(zT a b c).m) (r1:=⟨pk a 20+pk c 30,1+pk a 7⟩) (r2:=⟨150+pk b 9,1+pk c 5⟩) d ⟨by simp only;omega,by simp only;omega⟩ ⟨by simp only;omega,by simp only;omega⟩;refine LY _ (gQ h ?_);show 2+2<=40;omega
theorem UC (a b c:Int):∃split least aAh:Nat,16*pk a 9=(split:Int)/\pk b 12=(least:Int)/\1+pk c 4=(aAh:Int)/\split<=256/\split%16=0/\least<=256/\1<=aAh/\aAh<=4:=by
 have d:=fA a (m:=9) (by decide);have e:=fA b (m:=12) (by decide);have f:=fA c (m:=4) (by decide);exact⟨(16*pk a 9).toNat,(pk b 12).toNat,(1+pk c 4).toNat,by omega,by omega,by omega,by omega,by omega,by omega,by omega,by omega⟩
theorem Qk (hc:∀i v,(lT c)[i]? =aK v->w.cell? ⟨b,o+i,aJ⟩=aK v):w.cell? ⟨b,o,aJ⟩=aK (aB aI c.k)/\w.cell? ⟨b,o+1,aJ⟩=aK (aB aI c.u)/\w.cell? ⟨b,o+2,aJ⟩=aK (aB aI c.n)/\w.cell? ⟨b,o+3,aJ⟩=aK (aB aI c.m)/\w.cell? ⟨b,o+4,aJ⟩=aK (aB aI c.p)/\w.cell? ⟨b,o+5,aJ⟩=aK (aB aI c.f)/\w.cell? ⟨b,o+6,aJ⟩=aK (aF ⟨c.s.toArray⟩):=⟨hc 0 _ rfl,hc 1 _ rfl,hc 2 _ rfl,hc 3 _ rfl,hc 4 _ rfl,hc 5 _ rfl,hc 6 _ rfl⟩
def aLf (tells:List An)(sE:Sy)(w:World)(ev:Ending)(w':World):Prop:=
 ∃(a:Sc) (qs:List Aq) (d:Option Addr) (b:Nat),ev=aN (aG #[aA d tells.length b,aC #[aA a.a1 a.n1 a.c1,aA a.hc.az 2 a.hc.cz,aA a.hc.am 2 a.hc.cm,aB aI (sE.h.aAh:Int),aA a.hc.al a.hc.lc.length a.hc.cl,aA a.hc.av sE.h.live.length a.hc.cv,aA a.a2 a.ys.length a.c2],aB aI 0])/\qs.map (·.x)=tells/\w'.ownsRow w.heap.size 72 3 (aA d tells.length b) tells.length (flat xK qs)/\lD w' (λk=>(aA d tells.length b).ownBlock=aK k) qs/\fO w' w.heap.size sE a/\Below w.heap.size w w'
def aCU (P:Sy->Ac->Sy×An->Prop):Prop:=∀(v:Sc) (s:Sy) (c:Ac) (r:Sy×An) (W:World),lZ W v s->EC s->sS W->yD W->P s c r->Calls prog 60 #[aC #[aA v.a1 v.n1 v.c1,aA v.hc.az 2 v.hc.cz,aA v.hc.am 2 v.hc.cm,aB aI (s.h.aAh:Int),aA v.hc.al v.hc.lc.length v.hc.cl,aA v.hc.av s.h.live.length v.hc.cv,aA v.a2 v.ys.length v.c2],aC #[aB aI c.k,aB aI c.u,aB aI c.n,aB aI c.m,aB aI c.p,aB aI c.f,aF ⟨c.s.toArray⟩]] W (aBH v s r W)
theorem aEG (P:Sy->Ac->Sy×An->Prop)(h:Hp)(hk:eY h)(u0 u1 u2 u3 u4:Value)(a:Option Addr)(n cap:Nat)(acts:List Ac)(tells:List An)(sE:Sy)(w:World)(ho:sS w)(hsz:yD w)
 (hnew:∀W,Below w.heap.size w W->Calls prog 20 #[aC #[u0,u1,u2,u3,u4]] W (DU h W)) (hl:acts.length=n) (hn:n<=300) (hr:Row w a (flat lT acts)) (hact:aCU P) (hrun:Run P sE (dK h 6) acts tells) (hge:EC sE):
 Calls prog 27 #[aC #[u0,u1,u2,u3,u4],aA a n cap] w (aLf tells sE w):=by
 obtain⟨K1,K2,F1,F2,Y,J⟩:=boxes2 w #[u0,u1,u2,u3,u4] 29 #[aA aJ 0 0,aA aJ 0 0,aA aJ 0 0,aB aI 0,aA aJ 0 0,aA aJ 0 0,aA aJ 0 0] 42;have oW:=gO (hnew _ J);have HN:=gO hnew;have HO:=gO (ho.below J);have iL:=gO (hsz.below J);have HR:=gO (hr.below J);have aLg:=gO hact;have aAm:=gO hrun;have HGE:=gO hge;have hlt:tells.length=n:=by rw[<- hrun.len,hl]
 have I:=gO hlt;have HL:=gO hl;have hn3:¬(300:Int)<n:=by omega
 have HB1:=gO J;have HK2:=gO K2;have HF2:=gO F2;unfold DU at oW;obtain⟨k0,k1,k2,k3,k4⟩:=gA5 K1;clear K1 K2 F1 F2 J ho hsz hnew hr hact hrun hge hlt hl;have hwN:=ML hk;have ZN:=gO hwN;clear hwN;obtain⟨R,hS0⟩:∃R,dK h 6=R:=⟨_,rfl⟩
 change Hid (Calls prog 20 _ _ λev w'=>∃z,ev=aN (aG #[.agg (z.vals (dK h 6)),aB aI 0])/\fO w' _ (dK h 6) z/\Below _ _ w')at oW;rw[hS0]at oW aAm ZN;clear hS0;go_enter func27,ntmps27
 go_upto_region 1 with fail
 generalize (w.alloc _).alloc _=E at*;go_upto_region 2 with (go_at_call 20;refine oW.out.mono ?_;rintro ev w2 ⟨y,he,hn2,hb2⟩;(replace he:ev=aN (aG #[aC #[aA y.a1 y.n1 y.c1,aA y.hc.az 2 y.hc.cz,aA y.hc.am 2 y.hc.cm,aB aI (R.h.aAh:Int),aA y.hc.al y.hc.lc.length y.hc.cl,aA y.hc.av R.h.live.length y.hc.cv,aA y.a2 y.ys.length y.c2],aB aI 0]):=he);subst he)
 clear k0 k1 k2 k3 k4 oW;have HS3:=gO (fO.box hn2);have hb3:=gW hb2 (aAq w2 (aO #[aA y.a1 y.n1 y.c1,aA y.hc.az 2 y.hc.cz,aA y.hc.am 2 y.hc.cm,aB aI (R.h.aAh:Int),aA y.hc.al y.hc.lc.length y.hc.cl,aA y.hc.av R.h.live.length y.hc.cv,aA y.a2 y.ys.length y.c2] 42));have hbx:w2.heap.size<(w2.alloc (aO #[aA y.a1 y.n1 y.c1,aA y.hc.az 2 y.hc.cz,aA y.hc.am 2 y.hc.cm,aB aI (R.h.aAh:Int),aA y.hc.al y.hc.lc.length y.hc.cl,aA y.hc.av R.h.live.length y.hc.cv,aA y.a2 y.ys.length y.c2] 42)).heap.size:=by simp
 have HB3:=gO hb3;have hsz2:=hb2.size;clear hn2 hb2 hb3;generalize w2.alloc _=w3 at*;generalize w2.heap.size=B at*;go_upto_region 7 with fail
 go_wp2_with fail
 go_loopw [9,28] (λs9 s28 wr=>∃(j:Nat) (s:Sy) (v:Sc) (qs:List Aq) (d:Option Addr) (F:Nat),j<=n/\s28=aB aI (j:Int)/\s9=aA d j F/\Hid (Run P sE s (acts.drop j) (tells.drop j))/\Hid (qs.map (·.x)=tells.take j)/\Hid (SS wr B (λk=>k<E.heap.size∨(aA d j F).ownBlock=aK k) s v)/\Hid (wr.ownsRow w3.heap.size 72 3 (aA d j F) j (flat xK qs))/\Hid (lD wr (λk=>(k<E.heap.size∨k=B)∨(aA d j F).ownBlock=aK k) qs)/\w3.heap.size<=wr.heap.size/\Hid (Below E.heap.size E wr)) (λ_ s28 _=>n-(intOf s28).toNat)
 case atStart=>
  exact⟨0,R,y,[],aJ,0,gU _,rfl,rfl,aAm.out,rfl,HS3.out.sub (λk hk=>hk.resolve_right (by simp[gTh])),World.ownsRow_nil _ _ _ _,lD.nil _ _,gT _,HB3.out⟩
 case round=>
  obtain⟨j,s,v,qs,d,F,hj,rfl,rfl,V,U,Xn,Ij,HLJ,hwj,Xh⟩:=hrel;clear HS3 HB3;by_cases hlt:j<n
  ·have hji:(j:Int)<n:=by omega
   have hja:j<acts.length:=by have:=HL.out;omega
   have hjt:j<tells.length:=by have:=I.out;omega
   obtain⟨bb,off,ha1,hbb,hbc⟩:=aAw MN (by decide) (HR.out.below Xh.out) hja;obtain rfl:=ha1;obtain⟨t,hd,hg,hrn⟩:=Run.step hja hjt V.out;have HTK:=gO (show(qs.map (·.x))++[tells[j]]=tells.take (j+1)by rw[U.out];exact List.take_append_getElem hjt);generalize acts[j]=c at*;generalize tells[j]=x at*;obtain⟨c0,c1,c2,c3,c4,c5,c6⟩:=Qk hbc;have HD:=gO hd;have HG:=gO hg;have HRN:=gO hrn;clear hd hg hrn hbc V U;go_upto_region 11 with fail
   obtain⟨KA,K,FA,FX,N,WZ⟩:=boxes2 wr #[aB aI c.k,aB aI c.u,aB aI c.n,aB aI c.m,aB aI c.p,aB aI c.f,aF ⟨c.s.toArray⟩] 70 #[aB aI 0,aB aI 0,aA aJ 0 0] 72;have D:=gO (Xn.out.new WZ);have HO4:=gO (own_below Ij.out WZ (gT _));have HL4:=gO ((HLJ.out.more (M:=λk=>((k<E.heap.size∨k=B)∨(aA d j F).ownBlock=aK k)∨wr.heap.size<=k) λk hk=>hk).below WZ);have hOl:∀g,(aA d j F).ownBlock=aK g->w3.heap.size<=g/\g<wr.heap.size:=λg e=>Ij.out.lt g e
   have O:=gO hOl;clear hOl;have Z:=gO (gW Xh.out WZ);have hw4:=WZ.size;have hBw:=Xn.out.r.hr.gs;clear Xn Ij HLJ Xh c0 c1 c2 c3 c4 c5 c6 hbb WZ;generalize (wr.alloc _).alloc _=w4 at*;have Ui:=gO K;have HFX:=gO FX;obtain⟨q0,q1,q2,q3,q4,q5,q6⟩:=gA7 KA;obtain⟨g0,g1,g2,g3,g4,g5,g6⟩:=gA7 D.out.k;have HA:=gO (aLg.out v s c (t,x) w4 D.out.r.at HG.out (HO.out.below Z.out) (iL.out.below Z.out) HD.out);unfold aBH at HA;clear K KA FA FX HD;go_upto_region 12 with (go_at_call 60;refine HA.out.mono ?_;rintro ev w5 ⟨z,H,o,rfl,htr,A,ho5⟩;unfold Sc.vals;have KB:=gO (aAp D.out.k D.out.r.hr.gs A);have FB:=gO (aAt D.out.fz D.out.r.hr.gs A);have Q:=gO (aAp Ui.out N A);have FT:=gO (aAt HFX.out N A);have y0:=KB.out 0;have y1:=KB.out 1;have y2:=KB.out 2;have y3:=KB.out 3;have y4:=KB.out 4;have y5:=KB.out 5;have y6:=KB.out 6;have f0:=FB.out 0;have f1:=FB.out 1;have f2:=FB.out 2;have f3:=FB.out 3;have f4:=FB.out 4;have f5:=FB.out 5;have f6:=FB.out 6;have z0:=Q.out 0;have z1:=Q.out 1;have z2:=Q.out 2;have e0:=FT.out 0;have e1:=FT.out 1;have e2:=FT.out 2;unfold Sc.vals at y0 y1 y2 y3 y4 y5 y6;simp only[gB,gC,gD]at y0 y1 y2 y3 y4 y5 y6 z0 z1 z2)
   have hBne:(aA d j F).ownBlock≠aK B:=λe=>by have:=(O.out _ e).1;omega
   have aAk:(aA d j F).ownBlock≠aK (wr.heap.size+1):=λe=>by have:=(O.out _ e).2;omega
   have Kt:=ho5.lt;have K:=aAr (aAr (aAr (lW (T:=B) Q.out (show wr.heap.size+1≠B by omega) z t) 0 (aB aI (x.c:Int))) 1 (aB aI x.n)) 2 (aA H x.l.length o);simp only[gE,gG,gH]at K;have HS6:=gO ((((SS.put7 (htr B _ D.out.r) KB.out FB.out).dD (g:=wr.heap.size+1) (.inr ⟨Nat.le_succ _,N⟩) 0 (aB aI (x.c:Int))).dD (g:=wr.heap.size+1) (.inr ⟨Nat.le_succ _,N⟩) 1 (aB aI x.n)).dD (g:=wr.heap.size+1) (.inr ⟨Nat.le_succ _,N⟩) 2 (aA H x.l.length o));have HO6:=gO (bC (bC (bC (uG (own_below HO4.out A (gT _)) hBne z t) aAk (i:=0) (aB aI (x.c:Int))) aAk (i:=1) (aB aI x.n)) aAk (i:=2) (aA H x.l.length o));have hdB:(aA H x.l.length o).ownBlock≠aK B:=λe=>by have:=(Kt _ e).1;omega
   have S:(aA H x.l.length o).ownBlock≠aK (wr.heap.size+1):=λe=>by have:=(Kt _ e).1;omega
   have ho6:=own_base (bC (bC (bC (uG ho5 hdB z t) S (i:=0) (aB aI (x.c:Int))) S (i:=1) (aB aI x.n)) S (i:=2) (aA H x.l.length o)) (gU _);have HL6:=gO ((((((HL4.out.below A).put7 (T:=B) (.inl (.inl (.inr rfl))) z t).set (b:=wr.heap.size+1) (.inr (Nat.le_succ _)) 0 (aB aI (x.c:Int))).set (b:=wr.heap.size+1) (.inr (Nat.le_succ _)) 1 (aB aI x.n)).set (b:=wr.heap.size+1) (.inr (Nat.le_succ _)) 2 (aA H x.l.length o)).sub (M:=λk=>(k<E.heap.size∨k=B)∨(aA d j F).ownBlock=aK k) λk hk=> .inl hk);have aHZ:=gO (HL6.out.snoc (q:=⟨x,H,o⟩) ho6 λg hg hN=>by
    have h1:w4.heap.size<=g:=(Kt _ hg).1;rcases hN with (h2 | h2) | h2
    ·omega
    ·omega
    ·have:=(O.out _ h2).2;omega)
   have HB6:=gO (Below.setCell (Below.setCell (Below.setCell (aAz (T:=B) (gW Z.out A) hsz2 z t) (show E.heap.size<=(⟨wr.heap.size+1,0,aJ⟩:Addr).block by show E.heap.size<=wr.heap.size+1;omega) (aB aI (x.c:Int))) (show E.heap.size<=(⟨wr.heap.size+1,1,aJ⟩:Addr).block by show E.heap.size<=wr.heap.size+1;omega) (aB aI x.n)) (show E.heap.size<=(⟨wr.heap.size+1,2,aJ⟩:Addr).block by show E.heap.size<=wr.heap.size+1;omega) (aA H x.l.length o));have hw6:w4.heap.size<=((((((((((w5.setCell ⟨B,0,aJ⟩ (aA z.a1 z.n1 z.c1)).setCell ⟨B,1,aJ⟩ (aA z.hc.az 2 z.hc.cz)).setCell ⟨B,2,aJ⟩ (aA z.hc.am 2 z.hc.cm)).setCell ⟨B,3,aJ⟩ (aB aI (t.h.aAh:Int))).setCell ⟨B,4,aJ⟩ (aA z.hc.al z.hc.lc.length z.hc.cl)).setCell ⟨B,5,aJ⟩ (aA z.hc.av t.h.live.length z.hc.cv)).setCell ⟨B,6,aJ⟩ (aA z.a2 z.ys.length z.c2)).setCell ⟨wr.heap.size+1,0,aJ⟩ (aB aI (x.c:Int))).setCell ⟨wr.heap.size+1,1,aJ⟩ (aB aI x.n)).setCell ⟨wr.heap.size+1,2,aJ⟩ (aA H x.l.length o)).heap.size:=by
    have:=A.size;simp;omega
   clear A ho5 htr KB FB Q FT y0 y1 y2 y3 y4 y5 y6 f0 f1 f2 f3 f4 f5 f6 e0 e1 e2 z0 z1 z2 D HO4 HL4 Z HL6 hdB S ho6 Kt HA Ui HFX;generalize (((((((((w5.setCell _ _).setCell _ _).setCell _ _).setCell _ _).setCell _ _).setCell _ _).setCell _ _).setCell _ _).setCell _ _).setCell _ _=w6 at*;clear w5;have z0:=K 0;have z1:=K 1;have z2:=K 2;simp only[gB,gC,gD]at z0 z1 z2;have Ui:=gO K;clear K;have ba:=aAq w6 (aO #[aB aI (x.c:Int),aB aI x.n,aA H x.l.length o] 72);have HS7:=gO (HS6.out.below ba);have HO7:=gO (own_below HO6.out ba (gT _));have HL7:=gO ((aHZ.out.more (M:=λk=>((k<E.heap.size∨k=B)∨(aA d j F).ownBlock=aK k)∨w6.heap.size<=k) λk hk=>hk).below ba);have HB7:=gO (gW HB6.out ba);have zF:=gO (World.news_of_block (heap_alloc_new w6 (aO #[aB aI (x.c:Int),aB aI x.n,aA H x.l.length o] 72)));have hw7:w3.heap.size<=(w6.alloc (aO #[aB aI (x.c:Int),aB aI x.n,aA H x.l.length o] 72)).heap.size:=by have:=ba.size;omega
   have aDD:=ba.size;obtain⟨ti,hti,htz,hts,htb⟩:=info_parts Uy;clear ba HS6 HO6 aHZ HB6;go_wp2_with (at_builtin;refine wpList_append_lies _ rfl _ _ 44 rfl w3.heap.size 72 ti (aC #[aB aI 0,aB aI 0,aA aJ 0 0]) 3 40 underlying44 hti htz hts htb rfl (by decide) (aA d j F) j (flat xK qs) rfl HO7.out ⟨w6.heap.size,0,aJ⟩ 1 1 [aB aI (x.c:Int),aB aI x.n,aA H x.l.length o] rfl rfl zF.out (by simp[Value.oneCell']) (by decide) (by unfold maxLen;omega) (by omega) hw7 _ rfl ?_;intro g7 L w7 ho7 X hl7 lN)
   have HS8:Hid (SS w7 B (λk=>k<E.heap.size∨(aA (aK ⟨g7,0,aJ⟩) (j+1) L).ownBlock=aK k) t z):=HS7.out.out X (λk e=> .inl (.inr e)) λk hk=>by
    rcases hk with h | h
    ·exact .inl (.inl (.inl h))
    ·obtain rfl:g7=k:=by simpa[gTh]using h
     rcases hl7 with h1 | h1
     ·exact .inl (.inl (.inr h1))
     ·exact .inr ⟨Nat.le_of_eq h1.symm,lN⟩
   have HL8:=gO ((HL7.out.grown X λg e=> .inl (.inr e)).sub (M:=λk=>(k<E.heap.size∨k=B)∨(aA (aK ⟨g7,0,aJ⟩) (j+1) L).ownBlock=aK k) λk hk=>by
    rcases hk with h | h
    ·exact .inl (.inl h)
    ·obtain rfl:g7=k:=by simpa[gTh]using h
     rcases hl7 with h1 | h1
     ·exact .inl (.inr h1)
     ·exact .inr (by omega))
   have HB8:Hid (Below E.heap.size E w7):=Below.grown HB7.out X HB7.out.size λk e=>by
    have:=(O.out k e).1;omega
   have aPi:=X.size;refine⟨⟨j+1,t,z,qs++[⟨x,H,o⟩],aK ⟨g7,0,aJ⟩,L,by omega,by go_num,rfl,HRN.out,?_,HS8,?_,HL8,by omega,HB8⟩,by simp[intOf];omega⟩
   ·rw[List.map_append];exact HTK.out
   ·rw[aS];exact ho7
  ·obtain rfl:j=n:=by omega
   have hse:s=sE:=by
    have h9:=V.out;rw[List.drop_eq_nil_of_le (by have:=HL.out;omega),List.drop_eq_nil_of_le (by have:=I.out;omega)]at h9;exact h9.done
   subst hse;have HQE:Hid (qs.map (·.x)=tells):=by
    have h9:=U.out;rw[gTf (by have:=I.out;omega)]at h9;exact h9
   clear V U;obtain⟨g0,g1,g2,g3,g4,g5,g6⟩:=gA7 Xn.out.k;have Hf:Hid (Calls prog 12 #[aC #[aA v.a1 v.n1 v.c1,aA v.hc.az 2 v.hc.cz,aA v.hc.am 2 v.hc.cm,aB aI (s.h.aAh:Int),aA v.hc.al v.hc.lc.length v.hc.cl,aA v.hc.av s.h.live.length v.hc.cv,aA v.a2 v.ys.length v.c2]] wr λev w'=>∃z,ev=aN (aC #[aA z.a1 z.n1 z.c1,aA z.hc.az 2 z.hc.cz,aA z.hc.am 2 z.hc.cm,aB aI (s.h.aAh:Int),aA z.hc.al z.hc.lc.length z.hc.cl,aA z.hc.av s.h.live.length z.hc.cv,aA z.a2 z.ys.length z.c2])/\fO w' wr.heap.size s z/\Below wr.heap.size wr w'):=oJ v s wr Xn.out.r.at HGE.out.ok (λc hc=>gQ (HGE.out.nm c hc) (by decide));have HKR:=gO (aAp HK2.out Y Xh.out);have wB:=gO (aAt HF2.out Y Xh.out);have hsr:=gI Y Xh.out.size;go_wp2_with (go_at_call 12;refine Hf.out.mono ?_;rintro ev w5 ⟨C,rfl,hn5,A⟩;have Q:=aAp HKR.out hsr A;have FT:=aAt wB.out hsr A;obtain⟨y0,y1,y2,y3,y4,y5,y6⟩:=gA7 Q;obtain⟨f0,f1,f2,f3,f4,f5,f6⟩:=gF7 FT;skip)
   all_goals
    have K:=CU Q C s;have oI:=gO (fO.put7 (T:=w.heap.size+1) (G:=w.heap.size) hn5 hsr (by omega));have jA:=gO (aAz (T:=w.heap.size+1) (gW (Below.trans HB1.out (Xh.out.mono HB1.out.size)) A) (Nat.le_succ _) C s);have hOd:(aA d j F).ownBlock≠aK (w.heap.size+1):=λe=>by have:=(Ij.out.lt _ e).1;omega
    have HOX:=gO (own_base (uG (T:=w.heap.size+1) (own_below Ij.out A (gT _)) hOd C s) (show w.heap.size<=w3.heap.size by omega));have HLX:=gO ((lD.put7 (T:=w.heap.size+1) (HLJ.out.below A) (.inl (.inl Y)) C s).sub (M:=λk=>(aA d j F).ownBlock=aK k) λk hk=> .inr hk);clear Q FT y0 y1 y2 y3 y4 y5 y6 f0 f1 f2 f3 f4 f5 f6 hn5 A;go_wp2_with fail
    generalize ((((((w5.setCell _ _).setCell _ _).setCell _ _).setCell _ _).setCell _ _).setCell _ _).setCell _ _=wx at*;exact bodyPost_ret (v:=aG #[aA d j F,aC #[aA C.a1 C.n1 C.c1,aA C.hc.az 2 C.hc.cz,aA C.hc.am 2 C.hc.cm,aB aI (s.h.aAh:Int),aA C.hc.al C.hc.lc.length C.hc.cl,aA C.hc.av s.h.live.length C.hc.cv,aA C.a2 C.ys.length C.c2],aB aI 0]) (by simp[results,results27,go_sem,K]) rfl ⟨C,qs,d,F,by rw[I.out],HQE.out,by rw[I.out];exact HOX.out,by rw[I.out];exact HLX.out,oI.out,jA.out⟩
inductive DnD (s:Sy):Ac->Sy×An->Prop where
 |drain (u:Nat) (n:List UInt8):DnD s ⟨12,u,0,0,0,0,n⟩ ({s with h:=s.h.drain},⟨0,0,[]⟩)
theorem aBZ (v:Sc)(s:Sy)(ak au an am ap af:Int)(az:List UInt8)(r:Sy×An)(w:World)(hs:lZ w v s)(hg:EC s)(ho:sS w)(hsz:yD w)(hd:DnD s ⟨ak,au,an,am,ap,af,az⟩ r):
 Calls prog 60 #[aC #[aA v.a1 v.n1 v.c1,aA v.hc.az 2 v.hc.cz,aA v.hc.am 2 v.hc.cm,aB aI (s.h.aAh:Int),aA v.hc.al v.hc.lc.length v.hc.cl,aA v.hc.av s.h.live.length v.hc.cv,aA v.a2 v.ys.length v.c2],aC #[aB aI ak,aB aI au,aB aI an,aB aI am,aB aI ap,aB aI af,aF ⟨az.toArray⟩]] w (aBH v s r w):=by
 obtain⟨L,I⟩:∃L:List (Array Value×TypeId),L=[(#[aA v.a1 v.n1 v.c1,aA v.hc.az 2 v.hc.cz,aA v.hc.am 2 v.hc.cm,aB aI (s.h.aAh:Int),aA v.hc.al v.hc.lc.length v.hc.cl,aA v.hc.av s.h.live.length v.hc.cv,aA v.a2 v.ys.length v.c2],42),(#[aB aI ak,aB aI au,aB aI an,aB aI am,aB aI ap,aB aI af,aF ⟨az.toArray⟩],70),(#[aA aJ 0 0,aA aJ 0 0,aA aJ 0 0,aB aI 0,aA aJ 0 0,aA aJ 0 0,aA aJ 0 0],42),(#[aB aI 0,aB aI 0,aA aJ 0 0],72),(#[aA v.a1 v.n1 v.c1,aA v.hc.az 2 v.hc.cz,aA v.hc.am 2 v.hc.cm,aB aI (s.h.aAh:Int),aA v.hc.al v.hc.lc.length v.hc.cl,aA v.hc.av s.h.live.length v.hc.cv,aA v.a2 v.ys.length v.c2],42),(#[aB aI 0,aB aI 0,aA aJ 0 0],72)]:=⟨_,rfl⟩
 have K:((((((w.alloc (aO #[aA v.a1 v.n1 v.c1,aA v.hc.az 2 v.hc.cz,aA v.hc.am 2 v.hc.cm,aB aI (s.h.aAh:Int),aA v.hc.al v.hc.lc.length v.hc.cl,aA v.hc.av s.h.live.length v.hc.cv,aA v.a2 v.ys.length v.c2] 42)).alloc (aO #[aB aI ak,aB aI au,aB aI an,aB aI am,aB aI ap,aB aI af,aF ⟨az.toArray⟩] 70)).alloc (aO #[aA aJ 0 0,aA aJ 0 0,aA aJ 0 0,aB aI 0,aA aJ 0 0,aA aJ 0 0,aA aJ 0 0] 42)).alloc (aO #[aB aI 0,aB aI 0,aA aJ 0 0] 72)).alloc (aO #[aA v.a1 v.n1 v.c1,aA v.hc.az 2 v.hc.cz,aA v.hc.am 2 v.hc.cm,aB aI (s.h.aAh:Int),aA v.hc.al v.hc.lc.length v.hc.cl,aA v.hc.av s.h.live.length v.hc.cv,aA v.a2 v.ys.length v.c2] 42)).alloc (aO #[aB aI 0,aB aI 0,aA aJ 0 0] 72))=lay w L:=by rw[I];rfl
 have hl6:L.length=6:=by rw[I];rfl
 obtain⟨U,hz1⟩:=CY w L;have Z:=oU w L 0 (by omega);have B1:=oU w L 1 (by omega);have B2:=oU w L 2 (by omega);have B3:=oU w L 3 (by omega);have B4:=oU w L 4 (by omega);have B5:=oU w L 5 (by omega);simp only[I,List.getElem_cons_zero,List.getElem_cons_succ,Nat.add_zero]at Z B1 B2 B3 B4 B5;rw[<- I]at Z B1 B2 B3 B4 B5;rw[hl6]at hz1;clear I;have M:=gO K;clear K;generalize lay w L=E at*;have m:=gO U;have p:=gO (And.intro Z (And.intro B2 (And.intro B3 (And.intro B4 B5))));obtain⟨K1,F1⟩:=B1;obtain⟨K0,F0⟩:=Z;obtain⟨k0,k1,k2,k3,k4,k5,k6⟩:=gA7 K0;obtain⟨q0,q1,q2,X,q4,Y,q6⟩:=gA7 K1;have HQ1:=gO K1;clear K0 K1 F0 F1 B2 B3 B4 B5 U;go_enter func60,ntmps60
 go_upto_region 3 with fail
 rw[M.out];clear M;rw[show w.heap.size+1+1+1+1+1=w.heap.size+5 from rfl,show w.heap.size+1+1+1+1=w.heap.size+4 from rfl,show w.heap.size+1+1+1=w.heap.size+3 from rfl,show w.heap.size+1+1=w.heap.size+2 from rfl];go_upto_block 0 with fail
 go_cut [] (λwx=>vM v s r w wx)
 case rest=>
  obtain⟨W,rfl⟩:∃W,W=wc:=⟨_,rfl⟩
  have a:=gO hcut;obtain⟨d,f,A,H⟩:=hcut.x;have x0:=A 0;simp only[gB,gC]at x0;have t:=hcut.no;have q:=hcut.ok;have B:=gO H;have i:=gO A;have HW:=gO (show w.heap.size+6<=W.heap.size from hcut.gs);obtain⟨s',x⟩:=r;obtain⟨c,D,l⟩:=x;simp only at x0 t q B i;clear hcut A H;by_cases hc:c=0
  ·obtain⟨g,S,V⟩:=q hc;have C:(c:Int)=0:=by omega
   have j:=gO S;have Xg:=gO V;clear q t S V;go_upto_region 31 with fail
   have Q:=j.out 0;have R:=j.out 1;have P:=j.out 2;have F:=j.out 3;have J:=j.out 4;have T:=j.out 5;have O:=j.out 6;unfold Sc.vals at Q R P F J T O;have y0:=i.out 0;have y1:=i.out 1;have y2:=i.out 2;have q0:=a.out.k2 0;have q1:=a.out.k2 1;have q2:=a.out.k2 2;have X:=a.out.k2 3;have q4:=a.out.k2 4;have Y:=a.out.k2 5;have q6:=a.out.k2 6;have z0:=a.out.k3 0;have z1:=a.out.k3 1;have z2:=a.out.k3 2;have f0:=a.out.f2 0;have f1:=a.out.f2 1;have f2:=a.out.f2 2;have f3:=a.out.f2 3;have f4:=a.out.f2 4;have f5:=a.out.f2 5;have f6:=a.out.f2 6;have e0:=a.out.f3 0;have e1:=a.out.f3 1;have e2:=a.out.f3 2;simp only[gB,gC,gD]at Q R P F J T O y0 y1 y2 q0 q1 q2 X q4 Y q6 z0 z1 z2;have MO:=gO (AY (X0:=aB aI (c:Int)) (X1:=aB aI D) (X2:=aA d l.length f) a.out.b a.out.gs Xg.out a.out.k2 a.out.k3 B.out);have HC:=gO hc;clear C x0 hc;go_cut [] (λwx=>PY v s s' g w wx (aB aI (c:Int)) (aB aI D) (aA d l.length f) 3 l.length (aA d l.length f) (l.map vI))
   case first=>
    go_region_law fail
    all_goals (go_wp2_with fail)
    all_goals go_meet
    all_goals exact MO.out
   case rest=>
    have KX:=hcut.k;have KY:=hcut.y;have z:=gO hcut;clear hcut;go_wp2_with fail
    exact bodyPost_ret (v:=aG #[aC #[aA g.a1 g.n1 g.c1,aA g.hc.az 2 g.hc.cz,aA g.hc.am 2 g.hc.cm,aB aI (s'.h.aAh:Int),aA g.hc.al g.hc.lc.length g.hc.cl,aA g.hc.av s'.h.live.length g.hc.cv,aA g.a2 g.ys.length g.c2],aC #[aB aI (c:Int),aB aI D,aA d l.length f]]) (by simp[results,results60,go_sem,KX,KY]) rfl ⟨g,d,f,rfl,z.out.c,z.out.b,z.out.o⟩
  ·obtain rfl:s=s':=(t hc).symm;clear q t;have C:¬(c:Int)=0:=by omega
   go_upto_region 30 with fail
   have Q:=a.out.k0 0;have R:=a.out.k0 1;have P:=a.out.k0 2;have F:=a.out.k0 3;have J:=a.out.k0 4;have T:=a.out.k0 5;have O:=a.out.k0 6;unfold Sc.vals at Q R P F J T O;have y0:=i.out 0;have y1:=i.out 1;have y2:=i.out 2;have q0:=a.out.k2 0;have q1:=a.out.k2 1;have q2:=a.out.k2 2;have X:=a.out.k2 3;have q4:=a.out.k2 4;have Y:=a.out.k2 5;have q6:=a.out.k2 6;have z0:=a.out.k3 0;have z1:=a.out.k3 1;have z2:=a.out.k3 2;have f0:=a.out.f2 0;have f1:=a.out.f2 1;have f2:=a.out.f2 2;have f3:=a.out.f2 3;have f4:=a.out.f2 4;have f5:=a.out.f2 5;have f6:=a.out.f2 6;have e0:=a.out.f3 0;have e1:=a.out.f3 1;have e2:=a.out.f3 2;simp only[gB,gC,gD]at Q R P F J T O y0 y1 y2 q0 q1 q2 X q4 Y q6 z0 z1 z2;have MO:=gO (AY (X0:=aB aI (c:Int)) (X1:=aB aI D) (X2:=aA d l.length f) a.out.b a.out.gs (Cl.same (s:=s) (v:=v) a.out.b a.out.gs) a.out.k2 a.out.k3 B.out);clear C x0;go_cut [] (λwx=>PY v s s v w wx (aB aI (c:Int)) (aB aI D) (aA d l.length f) 3 l.length (aA d l.length f) (l.map vI))
   case first=>
    go_region_law fail
    all_goals (go_wp2_with fail)
    all_goals go_meet
    all_goals exact MO.out
   case rest=>
    have KX:=hcut.k;have KY:=hcut.y;have z:=gO hcut;clear hcut;go_wp2_with fail
    exact bodyPost_ret (v:=aG #[aC #[aA v.a1 v.n1 v.c1,aA v.hc.az 2 v.hc.cz,aA v.hc.am 2 v.hc.cm,aB aI (s.h.aAh:Int),aA v.hc.al v.hc.lc.length v.hc.cl,aA v.hc.av s.h.live.length v.hc.cv,aA v.a2 v.ys.length v.c2],aC #[aB aI (c:Int),aB aI D,aA d l.length f]]) (by simp[results,results60,go_sem,KX,KY]) rfl ⟨v,d,f,rfl,z.out.c,z.out.b,z.out.o⟩
 case first=>
  have G:=gO (hs.below m.out);have HG:=gO hg;have HO1:=gO (ho.below m.out);have HZ1:=gO (hsz.below m.out);have hll:v.hc.lc.length<=1000:=by
   have h:=G.out.hh.ll;have h9:=congrArg List.length h;rw[gTe]at h9;rw[h9];have:=hg.ok.hk.oQ;omega
  have hvl:s.h.live.length<=1000:=by have:=hg.ok.hk.iU;omega
  have hP:dP v s w E #[aA v.a1 v.n1 v.c1,aA v.hc.az 2 v.hc.cz,aA v.hc.am 2 v.hc.cm,aB aI (s.h.aAh:Int),aA v.hc.al v.hc.lc.length v.hc.cl,aA v.hc.av s.h.live.length v.hc.cv,aA v.a2 v.ys.length v.c2] #[aB aI 0,aB aI 0,aA aJ 0 0]:=⟨m.out,by omega,p.out.1.1,p.out.2.1.1,p.out.2.1.2,p.out.2.2.1.1,p.out.2.2.1.2,p.out.2.2.2.1.1,p.out.2.2.2.1.2,p.out.2.2.2.2.1,p.out.2.2.2.2.2⟩
  have HP:=gO hP;clear hs hg ho hsz hP p;cases hd with
  | drain u n=>
   have z:Hid (Calls prog 23 #[aC #[aA v.hc.az 2 v.hc.cz,aA v.hc.am 2 v.hc.cm,aB aI (s.h.aAh:Int),aA v.hc.al v.hc.lc.length v.hc.cl,aA v.hc.av s.h.live.length v.hc.cv]] E λev w'=>∃e:Hc,ev=aN (aG #[aC #[aA e.az 2 e.cz,aA e.am 2 e.cm,aB aI (s.h.drain.aAh:Int),aA e.al e.lc.length e.cl,aA e.av s.h.drain.live.length e.cv],aB aI 0])/\kR w' E.heap.size s.h.drain e/\Below E.heap.size E w'):=
    Ji v.hc.az v.hc.am v.hc.al v.hc.av v.hc.cz v.hc.cm v.hc.cl v.hc.cv v.hc.lc.length s.h.live.length v.hc.y0 v.hc.y1 v.hc.lc s.h E G.out.hh HG.out.ok.hk hll hvl
   go_wp2_with (go_at_call 23;refine z.out.mono ?_;rintro ev w2 ⟨e,rfl,hn,hb⟩;have N:=gO (HP.out.below hb);obtain⟨y0,y1,y2,y3,y4,y5,y6,f0,f1,f2,f3,f4,f5,f6,z0,z1,z2,e0,e1,e2⟩:=N.out.cells)
   all_goals go_meet
   all_goals
    have hP:=(N.out.puth4 (aA e.az 2 e.cz) (aA e.am 2 e.cm) (aB aI (s.h.drain.aAh:Int)) (aA e.al e.lc.length e.cl) (aA e.av s.h.drain.live.length e.cv)).code5 (aB aI 0);have hC:=((Cl.heap (s:=s) (v:=v) m.out (by omega) hb hn).puth4 (aA e.az 2 e.cz) (aA e.am 2 e.cm) (aB aI (s.h.drain.aAh:Int)) (aA e.al e.lc.length e.cl) (aA e.av s.h.drain.live.length e.cv)).set 5 0 (aB aI 0) (by decide);exact hP.Uw hC rfl
theorem aB0:aCU DnD:=λv s c r W d a g b e=>aBZ v s c.k c.u c.n c.m c.p c.f c.s r W d a g b e
theorem kV (w:World)(ho:sS w)(hsz:yD w):Calls prog 9 #[] w λev w'=>ev=aN (.bool true)/\Below w.heap.size w w':=by
 obtain⟨f,e,aAh,en1,U,N,H,z,E,A,I⟩:=UC 0 0 0;have G:Hid (∀W,Calls prog 26 #[aB aI 0,aB aI 0,aB aI 0] W λev w'=>∃g l i k,ev=aN (aC #[aA g 2 l,aA i 2 k,aB aI (f:Int),aB aI (e:Int),aB aI (aAh:Int)])/\vZ w' g i 2 2 (zT 0 0 0)/\Below W.heap.size W w'):=λW=>by
  have h:=aAj 0 0 0 W (by decide) (by decide) (by decide);rw[en1,U,N]at h;refine h.mono ?_;rintro ev w' ⟨g,l,i,k,D,x,t⟩;exact⟨g,l,i,k,D,x,t⟩
 obtain⟨o,F⟩:∃o,newH (iJ (zT 0 0 0)) f e aAh=o:=⟨_,rfl⟩
 have C:eY o:=by
  rw[<- F];exact(Me (Bg 0 0 0) H z E ⟨A,I⟩).1
 have oW:Hid (∀(W:World) (g i:Option Addr) (l k:Nat),vZ W g i 2 2 (zT 0 0 0)->yD W->Calls prog 20 #[aC #[aA g 2 l,aA i 2 k,aB aI (f:Int),aB aI (e:Int),aB aI (aAh:Int)]] W (DU o W)):=λW g i l k D x=>by
  rw[<- F];exact Ur g i 2 2 l k (zT 0 0 0) f e aAh W D (GN 0 0 0).1 (GN 0 0 0).2 (Bg 0 0 0) H z E ⟨A,I⟩ x
 have m:=ML C;obtain⟨K,V⟩:∃K:Sy,{dK o 6 with h:=(dK o 6).h.drain}=K:=⟨_,rfl⟩
 have T:Hid (∀(W:World) (g i:Option Addr) (l k:Nat) (b:Nat),vZ W g i 2 2 (zT 0 0 0)->sS W->yD W->Row W (aK ⟨b,0,aJ⟩) (flat lT [⟨12,0,0,0,0,0,[]⟩])->Calls prog 27 #[aC #[aA g 2 l,aA i 2 k,aB aI (f:Int),aB aI (e:Int),aB aI (aAh:Int)],aA (aK ⟨b,0,aJ⟩) 1 1] W λev w'=>∃(a:Sc) (d:Option Addr) (r:Nat),ev=aN (aG #[aA d 1 r,aC #[aA a.a1 a.n1 a.c1,aA a.hc.az 2 a.hc.cz,aA a.hc.am 2 a.hc.cm,aB aI (K.h.aAh:Int),aA a.hc.al a.hc.lc.length a.hc.cl,aA a.hc.av K.h.live.length a.hc.cv,aA a.a2 a.ys.length a.c2],aB aI 0])/\Below W.heap.size W w'):=λW g i l k b D x t h4=>by
  refine(aEG DnD o C _ _ _ _ _ _ 1 1 [⟨12,0,0,0,0,0,[]⟩] [⟨0,0,[]⟩] _ W x t (λW' hW=>oW.out W' g i l k (D.below hW) (t.below hW)) rfl (by decide) h4 aB0 (.cons (.drain 0 []) m .nil) (m.of m.ok.yG.ok m.ok.yG.sg)).mono ?_;rintro ev w' ⟨a,qs,d,r,h5,_,_,_,_,h6⟩;rw[V]at h5;exact⟨a,d,r,h5,h6⟩
 have O:Hid (∀(W:World) (g i:Option Addr) (l k:Nat),vZ W g i 2 2 (zT 0 0 0)->yD W->Calls prog 20 #[aC #[aA g 2 l,aA i 2 k,aB aI (f:Int),aB aI (e:Int),aB aI (aAh:Int)]] W λev w'=>∃a:Sc,ev=aN (aG #[aC #[aA a.a1 4096 a.c1,aA a.hc.az 2 a.hc.cz,aA a.hc.am 2 a.hc.cm,aB aI ((dK o 6).h.aAh:Int),aA a.hc.al a.hc.lc.length a.hc.cl,aA a.hc.av (dK o 6).h.live.length a.hc.cv,aA a.a2 a.ys.length a.c2],aB aI 0])/\Below W.heap.size W w'):=λW g i l k D x=>by
  refine(oW.out W g i l k D x).mono ?_;rintro ev w' ⟨a,t,h4,h5⟩;have h6:a.n1=4096:=by
   rw[<- h4.at.lw];exact m.ok.wl
  unfold Sc.vals at t;rw[h6]at t;exact⟨a,t,h5⟩
 clear V;generalize dK o 6=L at*;have HO:=gO ho;have iL:=gO hsz;clear en1 U N H z E A I F C oW m ho hsz;go_enter func9,ntmps9
 go_upto_region 2 with (first | (go_at_call 26;refine(G.out _).mono ?_;rintro ev w1 ⟨g,l,i,k,rfl,Q,J⟩) | (go_at_call 20;refine(O.out _ _ _ _ _ Q (iL.out.below J)).mono ?_;rintro ev M ⟨c,rfl,X⟩))
 have Z:=gW (gW J X) (aAq M (aO #[aA c.a1 4096 c.c1,aA c.hc.az 2 c.hc.cz,aA c.hc.am 2 c.hc.cm,aB aI (L.h.aAh:Int),aA c.hc.al c.hc.lc.length c.hc.cl,aA c.hc.av L.h.live.length c.hc.cv,aA c.a2 c.ys.length c.c2] 42));have k0:=aQ M #[aA c.a1 4096 c.c1,aA c.hc.az 2 c.hc.cz,aA c.hc.am 2 c.hc.cm,aB aI (L.h.aAh:Int),aA c.hc.al c.hc.lc.length c.hc.cl,aA c.hc.av L.h.live.length c.hc.cv,aA c.a2 c.ys.length c.c2] 42 0;simp only[gB,gC]at k0;have n:M.heap.size<(M.alloc (aO #[aA c.a1 4096 c.c1,aA c.hc.az 2 c.hc.cz,aA c.hc.am 2 c.hc.cm,aB aI (L.h.aAh:Int),aA c.hc.al c.hc.lc.length c.hc.cl,aA c.hc.av L.h.live.length c.hc.cv,aA c.a2 c.ys.length c.c2] 42)).heap.size:=by simp
 clear Q J X O;generalize M.alloc _=w3 at*;generalize M.heap.size=B at*;go_upto_region 3 with (first | (go_at_call 26;refine(G.out _).mono ?_;rintro ev w4 ⟨m3,d3,m4,d4,rfl,S,Y⟩))
 have Es:=aAq w4 (aO #[aB aI 12,aB aI 0,aB aI 0,aB aI 0,aB aI 0,aB aI 0,aF ⟨#[]⟩] 70);have q:=gW Y Es;have UD:=gW Z q;have u:Row (w4.alloc (aO #[aB aI 12,aB aI 0,aB aI 0,aB aI 0,aB aI 0,aB aI 0,aF ⟨#[]⟩] 70)) (aK ⟨w4.heap.size,0,aJ⟩) (flat lT [⟨12,0,0,0,0,0,[]⟩]):=λj v hj=>⟨w4.heap.size,0,rfl,by simp,by
  rw[Nat.zero_add,aQ];rw[<- hj];simp[flat,lT]⟩
 have P:=gO (T.out _ m3 m4 d3 d4 _ (S.below Es) (HO.out.below UD) (iL.out.below UD) u);clear T G S u;refine P.out.mono ?_;rintro ev w5 ⟨a,d,r,rfl,s⟩;have k5:=(Below.cell (gW q s) (p:=⟨B,0,aJ⟩) n).trans k0;have y:=aAq w5 (aO #[aA a.a1 a.n1 a.c1,aA a.hc.az 2 a.hc.cz,aA a.hc.am 2 a.hc.cm,aB aI (K.h.aAh:Int),aA a.hc.al a.hc.lc.length a.hc.cl,aA a.hc.av K.h.live.length a.hc.cv,aA a.a2 a.ys.length a.c2] 42);have R:B<w5.heap.size:=gI n (gW q s).size;have k6:=(Below.cell y (p:=⟨B,0,aJ⟩) R).trans k5;have jA:=gO (gW (gW UD s) y);clear k0 k5 Z Y Es q UD s y P n R;go_wp2_with fail
 all_goals go_ret
 all_goals exact⟨rfl,jA.out⟩
end Go.Proofs.YtjaogfhcnmjkiaaGreatDoor
