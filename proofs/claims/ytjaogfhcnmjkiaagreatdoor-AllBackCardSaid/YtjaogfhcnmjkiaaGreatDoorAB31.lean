/- joined. -/
import Derived.Test.YtjaogfhcnmjkiaaGreatDoorAB28
import Derived.Test.YtjaogfhcnmjkiaaGreatDoorAB29
import Derived.Test.YtjaogfhcnmjkiaaGreatDoorAB30
set_option linter.all false
set_option maxRecDepth 100000
set_option maxHeartbeats 0
namespace Go.Proofs.YtjaogfhcnmjkiaaGreatDoor
open Go.RowKit
open Go.Value renaming slice->aA,int->aB,agg->aC,string->aF,tuple->aG,pointer->aH,ownBlock->gTh
open Go.IntKind renaming i64->aI
open Option renaming none->aJ,some->aK
open Go.Ending renaming returned->aN
open Go.Obj renaming cells->aO
open Go.Proofs.Tryz
variable {L:List Th}{N0 cp i:Nat}{W w0:World}{acts:List Ac}{c':Ac}{f iv:Int}{h:Hp}{rs:List Rs}{s:Sy}{v:Sc}
inductive Gy (L:List Th)(i:Nat)(iv:Int):Ac->An->Prop where
 |num (c:Ac) (x:An) (h:c.k=8):Gy L i iv c x
 |WG (c:Ac) (x:An) (o:Nat) (h:c.k=1) (h1:c.n=o) (h2:o<=4) (h3:0<=x.n/\x.n<=256):Gy L i iv c x
 |obj (c:Ac) (x:An) (h:c.k=5) (h1:c.s=vX∨c.s=kK):Gy L i iv c x
 |many (c:Ac) (x:An) (h:c.k=15) (h1:x.l.length<=30):Gy L i iv c x
 |del (c:Ac) (x:An) (h:c.k=9∨c.k=2∨c.k=6) (h1:i<L.length) (h2:iv=i):Gy L i iv c x
 |mov (c:Ac) (x:An) (h:c.k=11) (h1:i<L.length) (h2:iv=i):Gy L i iv c x
 |wrt (c:Ac) (x:An) (h:c.k=13) (h1:i<L.length) (h2:iv=i):Gy L i iv c x
 |no (c:Ac) (x:An) (h:c.k=3∨c.k=7∨c.k=12∨c.k=14):Gy L i iv c x
theorem aBW (G N0:Nat)(s:Sy)(v:Sc)(acts:List Ac)(qs ys:List Aq)(L:List Th)(pa pt pw:Pl)(ck cu cn cm cp cf:Int)(cs:List UInt8)(x:An)(d:Option Addr)(cap i:Nat)(iv:Int)(w:World)(hg:fF w G N0 s v (rws acts qs L pa pt pw) ys)(hN:N0<=w.heap.size)(hL:L.length<=5000)(Es:N0<=G)(hq:(⟨x,d,cap⟩:Aq)∈ys)(hc:Gy L i iv ⟨ck,cu,cn,cm,cp,cf,cs⟩ x):
 Calls prog 62 #[aH (aK ⟨G,0,aJ⟩),aC #[aB aI ck,aB aI cu,aB aI cn,aB aI cm,aB aI cp,aB aI cf,aF ⟨cs.toArray⟩],aC #[aB aI (x.c:Int),aB aI x.n,aA d x.l.length cap],aB aI iv] w (AQ G N0 s v acts qs ys (lC L ⟨ck,cu,cn,cm,cp,cf,cs⟩ x i) pa pt w):=by
 cases hc with
 | num h=>
  obtain rfl:ck=8:=h;exact aEv G N0 s v acts qs ys L pa pt pw cu cn cm cp cf cs x d cap i iv w hg hN hL Es
 | WG o h h1 h2 h3=>
  obtain rfl:ck=1:=h;obtain rfl:cn=o:=h1;exact aEw G N0 s v acts qs ys L pa pt pw cu o cm cp cf cs x d cap i iv w hg hN hL Es o h2 h3
 | obj h h1=>
  obtain rfl:ck=5:=h;exact aEx G N0 s v acts qs ys L pa pt pw cu cn cm cp cf cs x d cap i iv w hg hN hL Es h1
 | many h h1=>
  obtain rfl:ck=15:=h;exact aBV G N0 s v acts qs ys L pa pt pw cu cn cm cp cf cs x d cap i iv w hg hN hL Es (by omega) hq
 | del h h1 h2=>exact ZV G N0 s v acts qs ys L pa pt pw cu cn cm cp cf cs x d cap i iv w hg hN hL Es ck h h1 h2
 | mov h h1 h2=>
  obtain rfl:ck=11:=h;exact aBT G N0 s v acts qs ys L pa pt pw cu cn cm cp cf cs x d cap i iv w hg hN hL Es h1 h2
 | wrt h h1 h2=>
  obtain rfl:ck=13:=h;exact aBU G N0 s v acts qs ys L pa pt pw cu cn cm cp cf cs x d cap i iv w hg hN hL Es h1 h2
 | no h=>exact WJ G N0 s v acts qs ys L pa pt pw cu cn cm cp cf cs x d cap i iv w hg hN hL Es ck h
theorem aHZ {j:Nat}{c:Ac}{x:An}(ha:rV cp j c f)(hi:(f<=0/\c'=c)∨(0<f/\(∃t,L[i]? =aK t/\fits c t/\c'=c.at t.a)/\iv=i))(hx:ZW c' x)(h0:x.c=0):Gy L i iv c' x:=by
 have b:c'.k=c.k/\c'.n=c.n/\c'.s=c.s:=by
  rcases hi with ⟨_,rfl⟩ | ⟨_,⟨t,_,_,rfl⟩,_⟩
  ·exact⟨rfl,rfl,rfl⟩
  ·exact⟨rfl,rfl,rfl⟩
 have d:0<f->i<L.length/\iv=i:=λr=>by
  rcases hi with ⟨h,_⟩ | ⟨_,⟨t,h,_⟩,e⟩
  ·omega
  ·exact⟨(gK.1 h).1,e⟩
 by_cases g:j=0
 ·exact .no _ _ (.inl (by rw[b.1,(ha.1 g).1]))
 by_cases p:j=1
 ·exact .no _ _ (.inl (by rw[b.1,(ha.2.1 p).1]))
 have q:=ha.2.2 (by omega);cases q with
 | dL u n h h1 e=>exact .num _ _ b.1
 | jG u f h h1=>exact .del _ _ (.inl b.1) (d (by omega)).1 (d (by omega)).2
 | resize u n f h h1 e h3=>exact .mov _ _ b.1 (d (by omega)).1 (d (by omega)).2
 | pages u o f h h1 e=>exact .WG _ _ o b.1 b.2.1 h1 (hx.n b.1 h0)
 | give u f h h1=>exact .del _ _ (.inr (.inl b.1)) (d (by omega)).1 (d (by omega)).2
 | new u n h h1=>exact .obj _ _ b.1 (by rw[b.2.2];exact h1)
 | drop u n f h h1 e=>exact .del _ _ (.inr (.inr b.1)) (d (by omega)).1 (d (by omega)).2
 | drain u n h h1=>exact .no _ _ (.inr (.inr (.inl b.1)))
 | shrink u n h h1=>exact .no _ _ (.inr (.inl b.1))
 | bulk u m h h1 e=>exact .many _ _ b.1 hx.l
 | write u m f h h1 e=>exact .wrt _ _ b.1 (d (by omega)).1 (d (by omega)).2
 | read u f h e=>exact .no _ _ (.inr (.inr (.inr b.1)))
def Nxt (h:Hp)(j:Nat)(s:Sy)(L:List Th)(acts:List Ac)(tells:List An)(c':Ac)(iv:Int):Prop:=∃(i:Nat) (r:Sy×An),Dn s c' r/\Ii s/\Qj h (j+1) r.1 (if r.2.c=0 then lC L c' r.2 i else L) (acts++[c']) (tells++[r.2])/\r.2.l.length<=30/\(r.2.c=0->Gy L i iv c' r.2)
section
variable {h:Hp}{j:Nat}{s:Sy}{L:List Th}{acts:List Ac}{tells:List An}{c:Ac}{f:Int}
theorem Nxt.zero (hk:fG h)(hl:h.live=[])(p:Qj h j s L acts tells)(ha:rV h.aP j c f)(hf:f<=0):Nxt h j s L acts tells c (-1):=by
 obtain⟨r,a,b,g⟩:=p.act hk hl ha (c':=c) (i:=0) (.inl ⟨hf,rfl⟩);have d:=aCX b.ok ha ⟨rfl,rfl,rfl⟩ a;exact⟨0,r,a,b,g,d.l,λe=>aHZ ha (.inl ⟨hf,rfl⟩) d e⟩
theorem Nxt.thing (hk:fG h)(hl:h.live=[])(p:Qj h j s L acts tells)(ha:rV h.aP j c f)(hf:0<f){x:Th}(hi:L[i]? =aK x)(hx:fits c x):Nxt h j s L acts tells (c.at x.a) i:=by
 obtain⟨r,d,g,k⟩:=p.act hk hl ha (c':=c.at x.a) (i:=i) (.inr ⟨hf,x,hi,hx,rfl⟩);have b:=aCX (c':=c.at x.a) g.ok ha ⟨rfl,rfl,rfl⟩ d;exact⟨i,r,d,g,k,b.l,λe=>aHZ ha (.inr ⟨hf,⟨x,hi,hx,rfl⟩,rfl⟩) b e⟩
theorem rV.about (ha:rV cp j c f)(hf:0<f):2<=j/\f<=9/\(c.k=2∨c.k=6∨c.k=9∨c.k=11∨c.k=13∨c.k=14):=by
 have g:j≠0:=λe=>by have:=(ha.1 e).2;omega
 have a:j≠1:=λe=>by have:=(ha.2.1 e).2;omega
 have b:2<=j:=by omega
 have d:=ha.2.2 b;refine⟨b,?_⟩;cases d with
 | dL u n h a b=>omega
 | pages u o f h a b=>omega
 | new u n h a=>omega
 | bulk u m h a b=>omega
 | drain u n h a=>omega
 | shrink u n h a=>omega
 | jG u f h a=>exact⟨a.2,by simp⟩
 | resize u n f h a b h3=>exact⟨a.2,by simp⟩
 | give u f h a=>exact⟨a.2,by simp⟩
 | drop u n f h a b=>exact⟨b.2,by simp⟩
 | write u m f h a b=>exact⟨b.2,by simp⟩
 | read u f h b=>exact⟨b.2,by simp⟩
end
def ZX (h:Hp)(w:World)(ev:Ending)(w':World):Prop:=∃(G:Nat) (s:Sy) (v:Sc) (L:List Th) (a:List Ac) (qs:List Aq) (c d b:Pl) (j:Nat),ev=aN (aG #[aH (aK ⟨G,0,aJ⟩),.bool true])/\w.heap.size<=G/\fF w' G w.heap.size s v (rws a qs L c d b) qs/\Qj h j s L a (qs.map (·.x))/\2<=j/\j<=42/\L.length<=30*j/\Below w.heap.size w w'
structure Gz (h:Hp)(A G N0 j:Nat)(w0:World)(s:Sy)(v:Sc)(L:List Th)(acts:List Ac)(qs:List Aq)(pa pt pw:Pl)(c':Ac)(f iv:Int)(W:World):Prop where
 st:fF W G N0 s v (rws acts qs L pa pt pw) qs
 b:Below N0 w0 W
 k:∀o,W.cell? ⟨A,o,aJ⟩=(mW c'++[aB aI f]).toArray[o]?
 a:A<W.heap.size
 n:Nxt h j s L acts (qs.map (·.x)) c' iv
theorem Gz.q {A G j:Nat}{qs:List Aq}{pa pt pw:Pl}(b:Gz h A G N0 j w0 s v L acts qs pa pt pw c' f iv W):W.cell? ⟨A,0,aJ⟩=aK (aB aI c'.k)/\W.cell? ⟨A,1,aJ⟩=aK (aB aI c'.u)/\W.cell? ⟨A,2,aJ⟩=aK (aB aI c'.n)/\W.cell? ⟨A,3,aJ⟩=aK (aB aI c'.m)/\W.cell? ⟨A,4,aJ⟩=aK (aB aI c'.p)/\W.cell? ⟨A,5,aJ⟩=aK (aB aI c'.f)/\W.cell? ⟨A,6,aJ⟩=aK (aF ⟨c'.s.toArray⟩):=⟨b.k 0,b.k 1,b.k 2,b.k 3,b.k 4,b.k 5,b.k 6⟩
theorem Gz.qB {A G j:Nat}{qs:List Aq}{pa pt pw:Pl}(b:Gz h A G N0 j w0 s v L acts qs pa pt pw c' f iv W):∀X,Below W.heap.size W X->X.cell? ⟨A,0,aJ⟩=aK (aB aI c'.k)/\X.cell? ⟨A,1,aJ⟩=aK (aB aI c'.u)/\X.cell? ⟨A,2,aJ⟩=aK (aB aI c'.n)/\X.cell? ⟨A,3,aJ⟩=aK (aB aI c'.m)/\X.cell? ⟨A,4,aJ⟩=aK (aB aI c'.p)/\X.cell? ⟨A,5,aJ⟩=aK (aB aI c'.f)/\X.cell? ⟨A,6,aJ⟩=aK (aF ⟨c'.s.toArray⟩):=λX c=>by
 have k:=aQ b.k b.a c;exact⟨k 0,k 1,k 2,k 3,k 4,k 5,k 6⟩
theorem fF.svB {G:Nat}{qs:List Aq}(h:fF W G N0 s v rs qs):∀X,Below W.heap.size W X->X.cell? ⟨G,0,aJ⟩=aK (aA v.a1 v.n1 v.c1)/\X.cell? ⟨G,1,aJ⟩=aK (aA v.hc.az 2 v.hc.cz)/\X.cell? ⟨G,2,aJ⟩=aK (aA v.hc.am 2 v.hc.cm)/\X.cell? ⟨G,3,aJ⟩=aK (aB aI (s.h.aP:Int))/\X.cell? ⟨G,4,aJ⟩=aK (aA v.hc.al v.hc.lc.length v.hc.cl)/\X.cell? ⟨G,5,aJ⟩=aK (aA v.hc.av s.h.live.length v.hc.cv)/\X.cell? ⟨G,6,aJ⟩=aK (aA v.a2 v.ys.length v.c2):=λ_ a=>(h.below a).sv
structure ZY (A Y G N0:Nat)(w0:World)(s:Sy)(v:Sc)(rs:List Rs)(ys:List Aq)(c:Ac)(f:Int)(q:Aq)(W:World):Prop where
 st:fF W G N0 s v rs ys
 b:Below N0 w0 W
 k:∀o,W.cell? ⟨A,o,aJ⟩=(mW c++[aB aI f]).toArray[o]?
 y:∀o,W.cell? ⟨Y,o,aJ⟩=(xM q).toArray[o]?
 a:A<W.heap.size/\Y<W.heap.size
 g:A≠G/\Y≠G
 ne:∀r∈rs,r.v.ownBlock≠aK A/\r.v.ownBlock≠aK Y
section
variable {A Y G N0:Nat}{w0 W W2 W7:World}{s:Sy}{v:Sc}{rs:List Rs}{ys:List Aq}{c:Ac}{f:Int}{q:Aq}
theorem ZY.below (h:ZY A Y G N0 w0 s v rs ys c f q W)(hN:N0<=W.heap.size)(hb:Below W.heap.size W W2):ZY A Y G N0 w0 s v rs ys c f q W2:=
 ⟨h.st.below hb,h.b.trans (hb.mono hN),aQ h.k h.a.1 hb,aQ h.y h.a.2 hb,⟨gI h.a.1 hb.size,gI h.a.2 hb.size⟩,h.g,h.ne⟩
theorem ZY.grow (h:ZY A Y G N0 w0 s v rs ys c f q W)(hG:N0<=G)(hN:N0<=W.heap.size)(hi:i<rs.length){r':Rs}{g7:Nat}(hg7:W.grownBy W7 rs[i].v.ownBlock)(hb':r'.v.ownBlock=aK g7)(hl7:rs[i].v.ownBlock=aK g7∨g7=W.heap.size)(j:Nat)(u:Value)(hst:fF (W7.setCell ⟨G,j,aJ⟩ u) G N0 s v (rs.set i r') ys):ZY A Y G N0 w0 s v (rs.set i r') ys c f q (W7.setCell ⟨G,j,aJ⟩ u):=by
 have l:=h.ne _ (gL hi);refine⟨hst,gS (Below.grown h.b hg7 hN λk e=>(h.st.og _ (gL hi) k e).2) G j hG u,aS (bV h.k h.a.1 hg7 λe=>l.1 e.symm) h.g.1 j u,aS (bV h.y h.a.2 hg7 λe=>l.2 e.symm) h.g.2 j u,by rw[World.size_setCell];exact⟨gI h.a.1 hg7.size,gI h.a.2 hg7.size⟩,h.g,λr n=> ?_⟩;rcases oN n with rfl | ⟨q,m,_,rfl⟩
 ·rw[hb'];rcases hl7 with e | e
  ·rw[<- e];exact l
  ·have:=h.a;exact⟨λd=>by have:=gP d;omega,λd=>by have:=gP d;omega⟩
 ·exact h.ne _ (gL m)
theorem ZY.qs (h:ZY A Y G N0 w0 s v rs ys c f q W):W.cell? ⟨A,0,aJ⟩=aK (aB aI c.k)/\W.cell? ⟨A,1,aJ⟩=aK (aB aI c.u)/\W.cell? ⟨A,2,aJ⟩=aK (aB aI c.n)/\W.cell? ⟨A,3,aJ⟩=aK (aB aI c.m)/\W.cell? ⟨A,4,aJ⟩=aK (aB aI c.p)/\W.cell? ⟨A,5,aJ⟩=aK (aB aI c.f)/\W.cell? ⟨A,6,aJ⟩=aK (aF ⟨c.s.toArray⟩)/\W.cell? ⟨Y,0,aJ⟩=aK (aB aI (q.x.c:Int))/\W.cell? ⟨Y,1,aJ⟩=aK (aB aI q.x.n)/\W.cell? ⟨Y,2,aJ⟩=aK (aA q.d q.x.l.length q.c):=⟨h.k 0,h.k 1,h.k 2,h.k 3,h.k 4,h.k 5,h.k 6,h.y 0,h.y 1,h.y 2⟩
end
theorem aB2 (h:Hp)(hk:fG h)(hl0:h.live=[])(u0 u1 u2 u3 u4:Value)(a:Option Addr)(n cap:Nat)(l:List (Ac×Int))(w:World)(ho:vP w)(hsz:Bg w)
 (hnew:∀W,Below w.heap.size w W->Calls prog 20 #[aC #[u0,u1,u2,u3,u4]] W (AA h W)) (hl:l.length=n) (hn:2<=n/\n<=42) (hr:Row w a (flat vN l)) (hask:∀j (hj:j<l.length),rV h.aP j l[j].1 l[j].2):
 Calls prog 28 #[aC #[u0,u1,u2,u3,u4],aA a n cap] w (ZX h w):=by
 obtain⟨K1,F1,hsb,hbw⟩:=boxes1 w #[u0,u1,u2,u3,u4] 29;have nP:=gO (hnew _ hbw);have HO:=gO ho;have kH:=gO hsz;have HR:=gO hr;have aH1:=gO hask;have HK:=gO hk;have HL0:=gO hl0;have HL:=gO hl;have HB1:=gO hbw;unfold AA at nP;obtain⟨k0,k1,k2,k3,k4⟩:=gA5 K1;clear K1 F1 hbw ho hsz hnew hr hask hl;have HP0:=gO (Qj.start hk);clear hk hl0;obtain⟨I,hS0⟩:∃I,dW h 6=I:=⟨_,rfl⟩
 change Hid (Calls prog 20 _ _ λev w'=>∃z,ev=aN (aG #[.agg (z.vals (dW h 6)),aB aI 0])/\iI w' _ (dW h 6) z/\Below _ _ w')at nP;rw[hS0]at nP HP0;clear hS0;go_enter func28,ntmps28
 go_upto_region 1 with fail
 generalize w.alloc _=w1 at*;go_upto_region 2 with (go_at_call 20;refine nP.out.mono ?_;rintro ev w2 ⟨y,he,hn2,hb2⟩;(replace he:ev=aN (aG #[aC #[aA y.a1 y.n1 y.c1,aA y.hc.az 2 y.hc.cz,aA y.hc.am 2 y.hc.cm,aB aI (I.h.aP:Int),aA y.hc.al y.hc.lc.length y.hc.cl,aA y.hc.av I.h.live.length y.hc.cv,aA y.a2 y.ys.length y.c2],aB aI 0]):=he);subst he)
 have hb3:=aT w2 (aO #[aA y.a1 y.n1 y.c1,aA y.hc.az 2 y.hc.cz,aA y.hc.am 2 y.hc.cm,aB aI (I.h.aP:Int),aA y.hc.al y.hc.lc.length y.hc.cl,aA y.hc.av I.h.live.length y.hc.cv,aA y.a2 y.ys.length y.c2] 42);have HN3:Hid (iI (w2.alloc (aO #[aA y.a1 y.n1 y.c1,aA y.hc.az 2 y.hc.cz,aA y.hc.am 2 y.hc.cm,aB aI (I.h.aP:Int),aA y.hc.al y.hc.lc.length y.hc.cl,aA y.hc.av I.h.live.length y.hc.cv,aA y.a2 y.ys.length y.c2] 42)) w1.heap.size I y):=SR.below hn2 hb3;have HB3:=gO (Below.trans HB1.out ((gW hb2 hb3).mono HB1.out.size));have KB:=bI w2 #[aA y.a1 y.n1 y.c1,aA y.hc.az 2 y.hc.cz,aA y.hc.am 2 y.hc.cm,aB aI (I.h.aP:Int),aA y.hc.al y.hc.lc.length y.hc.cl,aA y.hc.av I.h.live.length y.hc.cv,aA y.a2 y.ys.length y.c2] 42;have hw1:=HB1.out.size;have hw2:=hb2.size;have hw3:=hb3.size;obtain⟨y0,y1,y2,y3,y4,y5,y6⟩:=gA7 KB;clear k0 k1 k2 k3 k4 nP hn2 hb2 hb3 KB HB1;generalize w2.alloc _=w3 at*;go_upto_region 3 with fail
 have HST0:=gO (fF.start (N0:=w.heap.size) HN3.out hw1);have HB4:=gO (gW HB3.out (aT w3 (aO #[aA y.a1 y.n1 y.c1,aA y.hc.az 2 y.hc.cz,aA y.hc.am 2 y.hc.cm,aB aI (I.h.aP:Int),aA y.hc.al y.hc.lc.length y.hc.cl,aA y.hc.av I.h.live.length y.hc.cv,aA y.a2 y.ys.length y.c2,aA aJ 0 0,aA aJ 0 0,aA aJ 0 0] 47)));have hG0:w.heap.size<=w3.heap.size:=HB3.out.size;clear y0 y1 y2 y3 y4 y5 y6 HN3 HB3 hw1 hw2 hw3 hsb;generalize w3.alloc _=w4 at*;generalize w3.heap.size=G at*;clear w3;go_upto_region 5 with fail
 go_wp2_with fail
 generalize aG #[aC #[aA y.a1 y.n1 y.c1,aA y.hc.az 2 y.hc.cz,aA y.hc.am 2 y.hc.cm,aB aI (I.h.aP:Int),aA y.hc.al y.hc.lc.length y.hc.cl,aA y.hc.av I.h.live.length y.hc.cv,aA y.a2 y.ys.length y.c2],aB aI 0]=V0;generalize aC #[aA y.a1 y.n1 y.c1,aA y.hc.az 2 y.hc.cz,aA y.hc.am 2 y.hc.cm,aB aI (I.h.aP:Int),aA y.hc.al y.hc.lc.length y.hc.cl,aA y.hc.av I.h.live.length y.hc.cv,aA y.a2 y.ys.length y.c2,aA aJ 0 0,aA aJ 0 0,aA aJ 0 0]=V1;generalize aC #[aA y.a1 y.n1 y.c1,aA y.hc.az 2 y.hc.cz,aA y.hc.am 2 y.hc.cm,aB aI (I.h.aP:Int),aA y.hc.al y.hc.lc.length y.hc.cl,aA y.hc.av I.h.live.length y.hc.cv,aA y.a2 y.ys.length y.c2]=V2;go_loopw [27] (λs27 wr=>∃(j:Nat) (s:Sy) (v:Sc) (L:List Th) (B:List Ac) (qs:List Aq) (O N R:Pl),j<=n/\s27=aB aI (j:Int)/\Hid (fF wr G w.heap.size s v (rws B qs L O N R) qs)/\Hid (Qj h j s L B (qs.map (·.x)))/\Hid (Below w.heap.size w wr)/\L.length<=30*j/\B.length<=j/\qs.length<=j) (λs27 _=>n-(intOf s27).toNat)
 case atStart=>exact⟨0,I,y,[],[],[],⟨aJ,0⟩,⟨aJ,0⟩,⟨aJ,0⟩,gU _,rfl,HST0.out,HP0.out,HB4.out,gT _,gT _,gT _⟩
 case round=>
  obtain⟨j,s,v,L,B,qs,O,N,R,hj,rfl,T,Xg,MQ,Xe,hal,hql⟩:=hrel;clear HST0 HP0 HB4;by_cases hlt:j<n
  ·have hji:(j:Int)<n:=by omega
   have hjl:j<l.length:=by have:=HL.out;omega
   obtain⟨bb,off,ha1,hbb,hbc⟩:=aZ Me (by decide) (HR.out.below MQ.out) hjl;obtain rfl:=ha1;have S:=gO (aH1.out j hjl);generalize l[j]=p at*;obtain⟨c,f⟩:=p;obtain⟨c0,c1,c2,c3,c4,c5,c6,c7⟩:=Qa hbc;replace S:Hid (rV h.aP j c f):=S;have hba:=aT wr (aO #[aB aI c.k,aB aI c.u,aB aI c.n,aB aI c.m,aB aI c.p,aB aI c.f,aF ⟨c.s.toArray⟩,aB aI f] 135);have KA:=bI wr #[aB aI c.k,aB aI c.u,aB aI c.n,aB aI c.m,aB aI c.p,aB aI c.f,aF ⟨c.s.toArray⟩,aB aI f] 135;have FA:=fP wr #[aB aI c.k,aB aI c.u,aB aI c.n,aB aI c.m,aB aI c.p,aB aI c.f,aF ⟨c.s.toArray⟩,aB aI f] 135;have Z:wr.heap.size<(wr.alloc (aO #[aB aI c.k,aB aI c.u,aB aI c.n,aB aI c.m,aB aI c.p,aB aI c.f,aF ⟨c.s.toArray⟩,aB aI f] 135)).heap.size:=by simp
   have H:=gO (T.out.below hba);have HB5:=gO (gW MQ.out hba);have hGA:=T.out.lt;have hwA:=MQ.out.size;have HRB:Hid (∀r∈rws B qs L O N R,∀g,r.v.ownBlock=aK g->g<wr.heap.size):=λr hr g e=>(T.out.o.lt r hr g e).2
   have Ia:=gO hba;go_upto_region 8 with fail
   clear hba c0 c1 c2 c3 c4 c5 c6 c7 hbb hbc;generalize wr.alloc _=w5 at*;obtain⟨q0,q1,q2,q3,q4,q5,q6,q7⟩:=gA8 KA;have HKA:=gO KA;have HFA:=gO FA;clear KA FA
   go_upto_if 33 with fail
   go_cut [11] (λs11 wx=>∃(C:Ac) (iv:Int),s11=aB aI iv/\Hid (Gz h wr.heap.size G w.heap.size j w s v L B qs O N R C f iv wx))
   case first=>
    by_cases hf:0<f
    ·obtain⟨hj2,hf9,hck⟩:=S.out.about hf;have aH2:=aBZ G R.c R.a R.c L c.k c.u c.n c.m c.p c.f f c.s w5 (H.out.k 9) H.out.lt (bJ (H.out.o.each (pU L R) (by simp[rws]))) (by omega) ⟨by omega,hf9⟩ hck;have MB:=gO aH2;clear aH2 hck;go_upto_region 11 with (go_at_call 61;refine MB.out.mono ?_;rintro ev w6 ⟨r,rfl,hpr,hb6⟩)
     have Q:=gO (H.out.below hb6);have HBA6:=gO (gW Ia.out hb6);have U:=gO (aQ HKA.out Z hb6);have HFA6:=gO (aU HFA.out Z hb6);have aH3:=gI Z hb6.size;clear q0 q1 q2 q3 q4 q5 q6 q7 MB hb6 H HB5 HKA HFA Z Ia;clear w5;rcases hpr with rfl | ⟨i,x,hi,hfx,rfl⟩
     ·go_wp2_with fail
      go_roundw
      case rel=>exact⟨j+1,s,v,L,B,qs,O,N,R,by omega,by go_num,Q.out,Xg.out.skip S.out hf,Below.trans MQ.out (HBA6.out.mono hwA),by omega,by omega,by omega⟩
      case measure=>simp[intOf];omega
     ·obtain⟨hil,hie⟩:=gK.1 hi;obtain⟨g,hg⟩:=AV Q.out hil;obtain⟨ht,hf0,hgl⟩:=uI Q.out hil hg;rw[hie]at ht;have t0:w6.cell? ⟨g,i*6,aJ⟩=aK (aB aI x.a):=ht 0 _ rfl;have hii:(i:Int)<L.length:=by omega
      have hi0:¬(i:Int)<0:=by omega
      have k9:w6.cell? ⟨G,9,aJ⟩=aK (aA R.a L.length R.c):=Q.out.k 9;rw[hg]at k9;have f4:=HFA6.out 4;have q0:=U.out 0;have q4:=U.out 4;simp only[gB,gC,gD]at q0 q4;have hxa:=((Xg.out.i2 hj2).room (gM hi))
      have WX:=gO (Nxt.thing HK.out HL0.out Xg.out S.out hf hi hfx);have hbS:=gS HBA6.out wr.heap.size 4 (gT _) (aB aI x.a);have KS:=aW U.out 4 (aB aI x.a);simp only[gE,gG,gH]at KS;clear hi hfx ht hf0 hie Q HFA6 U;by_cases hk2:c.k=2
      ·have HBS:=gO (gS hbS wr.heap.size 4 (gT _) (aB aI (x.a/16)));have KS2:=aW KS 4 (aB aI (x.a/16));simp only[gE,gG,gH]at KS2;have HKS:=gO KS2;have hdv:x.a.tdiv 16=x.a/16:=Int.tdiv_eq_ediv_of_nonneg hxa.1;clear KS KS2 hbS;go_wp2_with fail
       go_meet
       refine⟨c.at x.a,i,rfl,T.out.below HBS.out,Below.trans MQ.out (HBS.out.mono hwA),?_,by simpa using aH3,WX.out⟩;have e:(mW (c.at x.a)++[aB aI f]).toArray=#[aB aI c.k,aB aI c.u,aB aI c.n,aB aI c.m,aB aI (x.a/16),aB aI c.f,aF ⟨c.s.toArray⟩,aB aI f]:=by simp[mW,Ac.at,hk2]
       rw[e];exact HKS.out
      ·have HBS:=gO hbS;have HKS:=gO KS;clear KS hbS;go_wp2_with fail
       go_meet
       refine⟨c.at x.a,i,rfl,T.out.below HBS.out,Below.trans MQ.out (HBS.out.mono hwA),?_,by simpa using aH3,WX.out⟩;have e:(mW (c.at x.a)++[aB aI f]).toArray=#[aB aI c.k,aB aI c.u,aB aI c.n,aB aI c.m,aB aI x.a,aB aI c.f,aF ⟨c.s.toArray⟩,aB aI f]:=by simp[mW,Ac.at,hk2]
       rw[e];exact HKS.out
    ·have WX:=gO (Nxt.zero HK.out HL0.out Xg.out S.out (by omega));go_wp2_with fail
     go_meet
     exact⟨c,-1,rfl,H.out,HB5.out,HKA.out,Z,WX.out⟩
   case rest=>
    obtain⟨C,iv,rfl,E⟩:=hcut;obtain⟨W,rfl⟩:∃W,W=wc:=⟨_,rfl⟩
    obtain⟨i,⟨t,x⟩,hd,hg,hp,aEB,hnt⟩:=E.out.n;simp only at hp aEB hnt;have HD:=gO hd;have HG:=gO hg;have HP2:=gO hp;have HNT:=gO hnt;clear q0 q1 q2 q3 q4 q5 q6 q7 hd hg hp hnt H HB5 HKA HFA Z Ia Xg S T MQ;clear w5;have hAW:=E.out.a;have HDN:Hid (∀bs W',kV W s v s v CU bs W'->Calls prog 21 #[aC #[aA v.a1 v.n1 v.c1,aA v.hc.az 2 v.hc.cz,aA v.hc.am 2 v.hc.cm,aB aI (s.h.aP:Int),aA v.hc.al v.hc.lc.length v.hc.cl,aA v.hc.av s.h.live.length v.hc.cv,aA v.a2 v.ys.length v.c2],aC #[aB aI C.k,aB aI C.u,aB aI C.n,aB aI C.m,aB aI C.p,aB aI C.f,aF ⟨C.s.toArray⟩]] W' (λev w5=>∃(z:Sc) (d:Option Addr) (cap:Nat),ev=aN (aG #[aC #[aA z.a1 z.n1 z.c1,aA z.hc.az 2 z.hc.cz,aA z.hc.am 2 z.hc.cm,aB aI (t.h.aP:Int),aA z.hc.al z.hc.lc.length z.hc.cl,aA z.hc.av t.h.live.length z.hc.cv,aA z.a2 z.ys.length z.c2],aC #[aB aI (x.c:Int),aB aI x.n,aA d x.l.length cap]])/\kV W s v t z ⟨x,d,cap⟩ bs w5/\Below W'.heap.size W' w5)):=by
     intro bs W' hL;refine(Ui v s C.k C.u C.n C.m C.p C.f C.s (t,x) W' (hL.c G _ E.out.st.r).at HG.out (HO.out.below (gW E.out.b hL.b)) (kH.out.below (gW E.out.b hL.b)) HD.out).mono ?_;rintro ev w5 ⟨z,d,cap,rfl,htr,hb,ho⟩;exact⟨z,d,cap,rfl,hL.call (q:=⟨x,d,cap⟩) htr hb ho,hb⟩
    have h0:=kV.start W s v;have h1:=h0.box #[aA aJ 0 0,aA aJ 0 0,aA aJ 0 0,aB aI 0,aA aJ 0 0,aA aJ 0 0,aA aJ 0 0] 42;have h2:=h0.box #[aB aI 0,aB aI 0,aA aJ 0 0] 72;have h3:=h1.WQ (n:=W.heap.size+1) (A:=#[aB aI 0,aB aI 0,aA aJ 0 0]) (by simp) 72;have h4:=h2.WQ (n:=W.heap.size+1) (A:=#[aA aJ 0 0,aA aJ 0 0,aA aJ 0 0,aB aI 0,aA aJ 0 0,aA aJ 0 0,aA aJ 0 0]) (by simp) 42;have HD0:=gO (HDN.out _ _ h0.drew);have HD1:=gO (HDN.out _ _ h1.drew);have HD2:=gO (HDN.out _ _ h2.drew);have HD3:=gO (HDN.out _ _ h3.drew);have HD4:=gO (HDN.out _ _ h4.drew);clear h0 h1 h2 h3 h4 HDN HD;obtain⟨k0,k1,k2,k3,k4,k5,k6⟩:=E.out.st.sv;obtain⟨q0,q1,q2,q3,q4,q5,q6⟩:=E.out.q;go_upto_region 15 with fail
    go_cut [12,13] (λs12 s13 wx=>∃(X Y:Nat) (z:Sc) (d:Option Addr) (cap:Nat),s12=aH (aK ⟨X,0,aJ⟩)/\s13=aH (aK ⟨Y,0,aJ⟩)/\kV W s v t z ⟨x,d,cap⟩ [(X,#[aA z.a1 z.n1 z.c1,aA z.hc.az 2 z.hc.cz,aA z.hc.am 2 z.hc.cm,aB aI (t.h.aP:Int),aA z.hc.al z.hc.lc.length z.hc.cl,aA z.hc.av t.h.live.length z.hc.cv,aA z.a2 z.ys.length z.c2]),(Y,#[aB aI (x.c:Int),aB aI x.n,aA d x.l.length cap])] wx)
    case first=>
     have LG:=E.out.st.svB;have LA:=E.out.qB;clear HNT HP2 HRB aH1 HK HL0 HL HR HG HO kH hn aEB hal hql Xe hlt hjl hji hj;clear k0 k1 k2 k3 k4 k5 k6 q0 q1 q2 q3 q4 q5 q6;go_region_held3 (λX=>Below W.heap.size W X) ((repeat (first | with_reducible assumption | with_reducible exact gX _ _ | with_reducible refine Below.setCell ?_ ?_ _ | with_reducible apply Below.drew | with_reducible refine gW ?_ (aT _ _) | with_reducible refine gW ?_ (by with_reducible assumption) | (simp only;omega)))) (first | (go_at_call 21;(with_reducible refine HD0.out.mono ?_);rintro ev w5 ⟨z,d,cap,rfl,D,hb5⟩;have hs5:=D.b.size) | (go_at_call 21;(with_reducible refine HD1.out.mono ?_);rintro ev w5 ⟨z,d,cap,rfl,D,hb5⟩;have hs5:=D.b.size;obtain⟨K51,F51,aB3⟩:=D.k1) | (go_at_call 21;(with_reducible refine HD2.out.mono ?_);rintro ev w5 ⟨z,d,cap,rfl,D,hb5⟩;have hs5:=D.b.size;obtain⟨K51,F51,aB3⟩:=D.k1) | (go_at_call 21;(with_reducible refine HD3.out.mono ?_);rintro ev w5 ⟨z,d,cap,rfl,D,hb5⟩;have hs5:=D.b.size;obtain⟨K51,F51,aB3⟩:=D.k1;obtain⟨K52,F52,aLq⟩:=D.k2) | (go_at_call 21;(with_reducible refine HD4.out.mono ?_);rintro ev w5 ⟨z,d,cap,rfl,D,hb5⟩;have hs5:=D.b.size;obtain⟨K51,F51,aB3⟩:=D.k1;obtain⟨K52,F52,aLq⟩:=D.k2))
     all_goals (go_wp2_with fail;go_meet)
     all_goals refine⟨_,_,z,d,cap,rfl,rfl,?_⟩
     all_goals first
      |(repeat (first | with_reducible exact D | with_reducible apply kV.put7 | with_reducible apply kV.put3 | with_reducible apply kV.aCY | with_reducible apply kV.aCZ | with_reducible refine kV.WQ ?_ (by simp) _));done
      |refine kV.swap ?_;(repeat (first | with_reducible exact D | with_reducible apply kV.put7 | with_reducible apply kV.put3 | with_reducible apply kV.aCY | with_reducible apply kV.aCZ | with_reducible refine kV.WQ ?_ (by simp) _));done
    case rest=>
     obtain⟨X,Y,z,d,cap,rfl,rfl,GK⟩:=hcut;obtain⟨W6,rfl⟩:∃W6,W6=wc:=⟨_,rfl⟩
     clear k0 k1 k2 k3 k4 k5 k6 q0 q1 q2 q3 q4 q5 q6 HD0 HD1 HD2 HD3 HD4;have HP:=gO GK;have lx:=GK.l _ (List.mem_cons_self ..);have ly:=GK.l _ (List.mem_cons_of_mem _ (List.mem_cons_self ..));simp only at lx ly;have KX:=lx.2.2.1;have hY:=ly.1;have hY6:=ly.2.1;have HKY:=gO ly.2.2.1;have hW6:=GK.b.size;obtain⟨x0,x1,x2,x3,x4,x5,x6⟩:=gA7 KX;clear lx ly GK KX;obtain⟨k0,k1,k2,k3,k4,k5,k6⟩:=(E.out.st.below HP.out.b).sv;have HF6:=gO (E.out.st.below HP.out.b).fz;obtain⟨f0,f1,f2,f3,f4,f5,f6⟩:=gF7 HF6.out;have hAG:wr.heap.size≠G:=by omega
     have hYG:Y≠G:=by omega
     have QK:∀g,(Aq.sl ⟨x,d,cap⟩).ownBlock=aK g->W.heap.size<=g:=λg e=>(HP.out.o.lt g e).1
     have hs7:=(E.out.st.sys HP.out.b λX' hr=>(HP.out.c G X' hr).sub λk hk=> .inl hk).list (q:=⟨x,d,cap⟩) (own_base (uH HP.out.o (λe=>by have:=QK _ e;omega) z t) (gU _)) λg e=>⟨by have:=QK g e;omega,λr hr e'=>by have:=HRB.out r hr g e';have:=QK g e;omega⟩
     have J:Hid (ZY wr.heap.size Y G w.heap.size w t z (rws B qs L O N R) (qs++[⟨x,d,cap⟩]) C f ⟨x,d,cap⟩ (((((((W6.setCell ⟨G,0,aJ⟩ (aA z.a1 z.n1 z.c1)).setCell ⟨G,1,aJ⟩ (aA z.hc.az 2 z.hc.cz)).setCell ⟨G,2,aJ⟩ (aA z.hc.am 2 z.hc.cm)).setCell ⟨G,3,aJ⟩ (aB aI (t.h.aP:Int))).setCell ⟨G,4,aJ⟩ (aA z.hc.al z.hc.lc.length z.hc.cl)).setCell ⟨G,5,aJ⟩ (aA z.hc.av t.h.live.length z.hc.cv)).setCell ⟨G,6,aJ⟩ (aA z.a2 z.ys.length z.c2))):=⟨hs7,dX (gW E.out.b HP.out.b) hG0 z t,mX (aQ E.out.k E.out.a HP.out.b) hAG z t,mX HKY.out hYG z t,by have h9:(((((((W6.setCell ⟨G,0,aJ⟩ (aA z.a1 z.n1 z.c1)).setCell ⟨G,1,aJ⟩ (aA z.hc.az 2 z.hc.cz)).setCell ⟨G,2,aJ⟩ (aA z.hc.am 2 z.hc.cm)).setCell ⟨G,3,aJ⟩ (aB aI (t.h.aP:Int))).setCell ⟨G,4,aJ⟩ (aA z.hc.al z.hc.lc.length z.hc.cl)).setCell ⟨G,5,aJ⟩ (aA z.hc.av t.h.live.length z.hc.cv)).setCell ⟨G,6,aJ⟩ (aA z.a2 z.ys.length z.c2)).heap.size=W6.heap.size:=(by simp);omega,⟨hAG,hYG⟩,λr hr=>⟨λe=>by have:=HRB.out r hr _ e;omega,λe=>by have:=HRB.out r hr _ e;omega⟩⟩
     clear hs7 QK E HF6 HKY;go_upto_region 17 with fail
     clear HP k0 k1 k2 k3 k4 k5 k6 f0 f1 f2 f3 f4 f5 f6 x0 x1 x2 x3 x4 x5 x6;have hWX:w.heap.size<=(((((((W6.setCell ⟨G,0,aJ⟩ (aA z.a1 z.n1 z.c1)).setCell ⟨G,1,aJ⟩ (aA z.hc.az 2 z.hc.cz)).setCell ⟨G,2,aJ⟩ (aA z.hc.am 2 z.hc.cm)).setCell ⟨G,3,aJ⟩ (aB aI (t.h.aP:Int))).setCell ⟨G,4,aJ⟩ (aA z.hc.al z.hc.lc.length z.hc.cl)).setCell ⟨G,5,aJ⟩ (aA z.hc.av t.h.live.length z.hc.cv)).setCell ⟨G,6,aJ⟩ (aA z.a2 z.ys.length z.c2)).heap.size:=J.out.b.size;generalize (((((((W6.setCell _ _).setCell _ _).setCell _ _).setCell _ _).setCell _ _).setCell _ _).setCell _ _)=w7 at*;go_cut [] (λwx=>∃V,Hid (ZY wr.heap.size Y G w.heap.size w t z (rws (B++[C]) qs L V N R) (qs++[⟨x,d,cap⟩]) C f ⟨x,d,cap⟩ wx))
     case first=>
      obtain⟨q0,q1,q2,q3,q4,q5,q6,_⟩:=J.out.qs;have k7:w7.cell? ⟨G,7,aJ⟩=aK (aA O.a B.length O.c):=J.out.st.k 7;have DY:(aA O.a B.length O.c).ownBlock≠aK G:=λe=>(J.out.st.og (PV B O) (by simp[rws]) G e).1 rfl
      have ZU:=J.out.st.lt;have hAl:=J.out.a.1;have hYl:=J.out.a.2;have hbd:Below w7.heap.size w7 (w7.alloc (aO #[aB aI C.k,aB aI C.u,aB aI C.n,aB aI C.m,aB aI C.p,aB aI C.f,aF ⟨C.s.toArray⟩] 70)).drew:=(aT w7 _).drew;have F:=gO (J.out.below (by omega:w.heap.size<=w7.heap.size) hbd);have zA:=gO (World.news_of_block (w:=(w7.alloc (aO #[aB aI C.k,aB aI C.u,aB aI C.n,aB aI C.m,aB aI C.p,aB aI C.f,aF ⟨C.s.toArray⟩] 70)).drew) (heap_alloc_new w7 _));have HO2:=gO (F.out.st.o.each (PV B O) (by simp[rws]));have hds:=hbd.size;obtain⟨ti,hti,htz,hts,htb⟩:=info_parts aB1;go_region_law (refine step_append_lies _ rfl _ _ 43 rfl 0 70 ti (aC #[aB aI 0,aB aI 0,aB aI 0,aB aI 0,aB aI 0,aB aI 0,aF ⟨#[]⟩]) 7 64 underlying43 hti htz hts htb rfl (by decide) (aA O.a B.length O.c) B.length (flat mW B) rfl HO2.out ⟨w7.heap.size,0,aJ⟩ 1 1 [aB aI C.k,aB aI C.u,aB aI C.n,aB aI C.m,aB aI C.p,aB aI C.f,aF ⟨C.s.toArray⟩] rfl rfl zA.out (by simp[Value.oneCell']) (by decide) (by unfold maxLen;omega) (by omega) (gU _) _ rfl ?_;intro g7 P wq ho7 M hl7 mQ;have k97:wq.cell? ⟨G,7,aJ⟩=aK (aA O.a B.length O.c):=bV F.out.st.k F.out.st.lt M (λe=>DY e.symm) 7;have f97:wq.frozen? ⟨G,7,aJ⟩=false:=bY F.out.st.fz F.out.st.lt M (λe=>DY e.symm) 7)
      all_goals (go_wp2_with fail)
      all_goals go_meet
      all_goals exact⟨⟨aK ⟨g7,0,aJ⟩,P⟩,F.out.grow hG0 (by omega) (i:=0) (show 0<3 by decide) M rfl hl7 7 (aA (aK ⟨g7,0,aJ⟩) (B.length+1) P) (aBX F.out.st (by omega) C ho7 M hl7 mQ)⟩
     case rest=>
      obtain⟨V,K⟩:=hcut;obtain⟨w8,rfl⟩:∃w8,w8=wc:=⟨_,rfl⟩
      clear J hWX;clear w7;go_upto_region 18 with fail
      go_cut [] (λwx=>∃pt',Hid (ZY wr.heap.size Y G w.heap.size w t z (rws (B++[C]) (qs++[⟨x,d,cap⟩]) L V pt' R) (qs++[⟨x,d,cap⟩]) C f ⟨x,d,cap⟩ wx))
      case first=>
       obtain⟨_,_,_,_,_,_,_,y0,y1,y2⟩:=K.out.qs;have k8:w8.cell? ⟨G,8,aJ⟩=aK (aA N.a qs.length N.c):=K.out.st.k 8;have DY:(aA N.a qs.length N.c).ownBlock≠aK G:=λe=>(K.out.st.og (PW qs N) (by simp[rws]) G e).1 rfl
       have hWX:w.heap.size<=w8.heap.size:=K.out.b.size;have ZU:=K.out.st.lt;have hAl:=K.out.a.1;have hYl:=K.out.a.2;have hbd:Below w8.heap.size w8 (w8.alloc (aO #[aB aI (x.c:Int),aB aI x.n,aA d x.l.length cap] 72)).drew:=(aT w8 _).drew;have F:=gO (K.out.below (by omega:w.heap.size<=w8.heap.size) hbd);have zA:=gO (World.news_of_block (w:=(w8.alloc (aO #[aB aI (x.c:Int),aB aI x.n,aA d x.l.length cap] 72)).drew) (heap_alloc_new w8 _));have HO2:=gO (F.out.st.o.each (PW qs N) (by simp[rws]));have hds:=hbd.size;obtain⟨ti,hti,htz,hts,htb⟩:=info_parts Uj;go_region_law (refine step_append_lies _ rfl _ _ 44 rfl 0 72 ti (aC #[aB aI 0,aB aI 0,aA aJ 0 0]) 3 40 underlying44 hti htz hts htb rfl (by decide) (aA N.a qs.length N.c) qs.length (flat xM qs) rfl HO2.out ⟨w8.heap.size,0,aJ⟩ 1 1 [aB aI (x.c:Int),aB aI x.n,aA d x.l.length cap] rfl rfl zA.out (by simp[Value.oneCell']) (by decide) (by unfold maxLen;omega) (by omega) (gU _) _ rfl ?_;intro g7 P wq ho7 M hl7 mQ;have k97:wq.cell? ⟨G,8,aJ⟩=aK (aA N.a qs.length N.c):=bV F.out.st.k F.out.st.lt M (λe=>DY e.symm) 8;have f97:wq.frozen? ⟨G,8,aJ⟩=false:=bY F.out.st.fz F.out.st.lt M (λe=>DY e.symm) 8)
       all_goals (go_wp2_with fail)
       all_goals go_meet
       all_goals exact⟨⟨aK ⟨g7,0,aJ⟩,P⟩,F.out.grow hG0 (by omega) (i:=1) (show 1<3 by decide) M rfl hl7 8 (aA (aK ⟨g7,0,aJ⟩) (qs.length+1) P) (aBY F.out.st (by omega) ⟨x,d,cap⟩ ho7 M hl7 mQ)⟩
      case rest=>
       obtain⟨pt',HM9⟩:=hcut;obtain⟨w9,rfl⟩:∃w9,w9=wc:=⟨_,rfl⟩
       clear K;clear w8;obtain⟨q0,q1,q2,q3,q4,q5,q6,y0,y1,y2⟩:=HM9.out.qs;have hml:((qs++[(⟨x,d,cap⟩:Aq)]).map (·.x))=qs.map (·.x)++[x]:=by rw[List.map_append];rfl
       have HML:=gO hml;have Ea:=gO (show(B++[C]).length<=j+1 by simp;omega);have HQL:=gO (show(qs++[(⟨x,d,cap⟩:Aq)]).length<=j+1 by simp;omega);clear hml;by_cases hx0:x.c=0
       ·have aH6:(x.c:Int)=0:=by omega
        have hll:=WO L C x i aEB;have hno:=aBW G w.heap.size t z (B++[C]) (qs++[⟨x,d,cap⟩]) (qs++[⟨x,d,cap⟩]) L V pt' R C.k C.u C.n C.m C.p C.f C.s x d cap i iv w9 HM9.out.st HM9.out.b.size (by omega) hG0 (List.mem_append_right _ (gTa.2 rfl)) (HNT.out hx0);rw[aH6]at hno;have Yu:=gO hno;have HPN:Hid (Qj h (j+1) t (lC L C x i) (B++[C]) ((qs++[(⟨x,d,cap⟩:Aq)]).map (·.x))):=by
         rw[HML.out];have h9:=HP2.out;rw[if_pos hx0]at h9;exact h9
        have HX0:=gO hx0;clear hno hx0 HNT HP2;go_wp2_with (go_at_call 62;refine Yu.out.mono ?_;rintro ev wn ⟨pw',rfl,hsn,hbn⟩)
        go_roundw
        case rel=>exact⟨j+1,t,z,lC L C x i,B++[C],qs++[Aq.mk x d cap],V,pt',pw',by omega,by go_num,hsn,HPN.out,Below.trans HM9.out.b hbn,by omega,Ea.out,HQL.out⟩
        case measure=>simp[intOf];omega
       ·have aH6:¬(x.c:Int)=0:=by omega
        have HPN:Hid (Qj h (j+1) t L (B++[C]) ((qs++[(⟨x,d,cap⟩:Aq)]).map (·.x))):=by
         rw[HML.out];have h9:=HP2.out;rw[if_neg hx0]at h9;exact h9
        clear hx0 HNT HP2;go_wp2_with fail
        go_roundw
        case rel=>exact⟨j+1,t,z,L,B++[C],qs++[Aq.mk x d cap],V,pt',R,by omega,by go_num,HM9.out.st,HPN.out,HM9.out.b,by omega,Ea.out,HQL.out⟩
        case measure=>simp[intOf];omega
  ·obtain rfl:j=n:=by omega
   go_wp2_with fail
   all_goals go_ret2
   all_goals exact⟨G,s,v,L,B,qs,O,N,R,j,rfl,hG0,T.out,Xg.out,hn.1,hn.2,Xe,MQ.out⟩
end Go.Proofs.YtjaogfhcnmjkiaaGreatDoor
