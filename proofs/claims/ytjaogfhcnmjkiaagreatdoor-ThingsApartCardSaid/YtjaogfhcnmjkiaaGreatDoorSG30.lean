/- joined. -/
import Derived.Test.YtjaogfhcnmjkiaaGreatDoorSG26
import Derived.Test.YtjaogfhcnmjkiaaGreatDoorSG27
import Derived.Test.YtjaogfhcnmjkiaaGreatDoorSG28
import Derived.Test.YtjaogfhcnmjkiaaGreatDoorSG29
set_option linter.all false
set_option maxRecDepth 100000
set_option maxHeartbeats 0
namespace Go.Proofs.YtjaogfhcnmjkiaaGreatDoor
open Go.RowKit
open Go.Value renaming slice->aA,int->aB,agg->aC,string->aF,tuple->aG,pointer->aH,ownBlock->gTh
open Go.IntKind renaming i64->aI
open Option renaming none->aJ,some->aK
open Go.Ending renaming returned->aN
open Go.Obj renaming cells->aO
open Go.Proofs.Tryz
variable {L:List Th}{N0 cp i:Nat}{W w0:World}{acts:List Ac}{c':Ac}{f iv:Int}{h:Hp}{rs:List Rs}{s:Sy}{v:Sc}
inductive GK (L:List Th)(i:Nat)(iv:Int):Ac->An->Prop where
 |num (c:Ac) (x:An) (h:c.k=8):GK L i iv c x
 |Uu (c:Ac) (x:An) (o:Nat) (h:c.k=1) (h1:c.n=o) (h2:o<=4) (h3:0<=x.n/\x.n<=256):GK L i iv c x
 |obj (c:Ac) (x:An) (h:c.k=5) (h1:c.s=wC∨c.s=jR):GK L i iv c x
 |many (c:Ac) (x:An) (h:c.k=15) (h1:x.l.length<=30):GK L i iv c x
 |del (c:Ac) (x:An) (h:c.k=9∨c.k=2∨c.k=6) (h1:i<L.length) (h2:iv=i):GK L i iv c x
 |mov (c:Ac) (x:An) (h:c.k=11) (h1:i<L.length) (h2:iv=i):GK L i iv c x
 |wrt (c:Ac) (x:An) (h:c.k=13) (h1:i<L.length) (h2:iv=i):GK L i iv c x
 |no (c:Ac) (x:An) (h:c.k=3∨c.k=7∨c.k=12∨c.k=14):GK L i iv c x
theorem aBO (G N0:Nat)(s:Sy)(v:Sc)(acts:List Ac)(qs ys:List Aq)(L:List Th)(pa pt pw:Pl)(ck cu cn cm cp cf:Int)(cs:List UInt8)(x:An)(d:Option Addr)(cap i:Nat)(iv:Int)(w:World)(hg:dY w G N0 s v (rws acts qs L pa pt pw) ys)(hN:N0<=w.heap.size)(hL:L.length<=5000)(ED:N0<=G)(hq:(⟨x,d,cap⟩:Aq)∈ys)(hc:GK L i iv ⟨ck,cu,cn,cm,cp,cf,cs⟩ x):
 Calls prog 62 #[aH (aK ⟨G,0,aJ⟩),aC #[aB aI ck,aB aI cu,aB aI cn,aB aI cm,aB aI cp,aB aI cf,aF ⟨cs.toArray⟩],aC #[aB aI (x.c:Int),aB aI x.n,aA d x.l.length cap],aB aI iv] w (AZ G N0 s v acts qs ys (lF L ⟨ck,cu,cn,cm,cp,cf,cs⟩ x i) pa pt w):=by
 cases hc with
 | num h=>
  obtain rfl:ck=8:=h;exact aEw G N0 s v acts qs ys L pa pt pw cu cn cm cp cf cs x d cap i iv w hg hN hL ED
 | Uu o h h1 h2 h3=>
  obtain rfl:ck=1:=h;obtain rfl:cn=o:=h1;exact aEx G N0 s v acts qs ys L pa pt pw cu o cm cp cf cs x d cap i iv w hg hN hL ED o h2 h3
 | obj h h1=>
  obtain rfl:ck=5:=h;exact aEy G N0 s v acts qs ys L pa pt pw cu cn cm cp cf cs x d cap i iv w hg hN hL ED h1
 | many h h1=>
  obtain rfl:ck=15:=h;exact aBN G N0 s v acts qs ys L pa pt pw cu cn cm cp cf cs x d cap i iv w hg hN hL ED (by omega) hq
 | del h h1 h2=>exact aAd G N0 s v acts qs ys L pa pt pw cu cn cm cp cf cs x d cap i iv w hg hN hL ED ck h h1 h2
 | mov h h1 h2=>
  obtain rfl:ck=11:=h;exact aBL G N0 s v acts qs ys L pa pt pw cu cn cm cp cf cs x d cap i iv w hg hN hL ED h1 h2
 | wrt h h1 h2=>
  obtain rfl:ck=13:=h;exact aBM G N0 s v acts qs ys L pa pt pw cu cn cm cp cf cs x d cap i iv w hg hN hL ED h1 h2
 | no h=>exact WU G N0 s v acts qs ys L pa pt pw cu cn cm cp cf cs x d cap i iv w hg hN hL ED ck h
theorem aHN {j:Nat}{c:Ac}{x:An}(ha:rE cp j c f)(hi:(f<=0/\c'=c)∨(0<f/\(∃t,L[i]? =aK t/\fits c t/\c'=c.at t.a)/\iv=i))(hx:aAe c' x)(h0:x.c=0):GK L i iv c' x:=by
 have b:c'.k=c.k/\c'.n=c.n/\c'.s=c.s:=by
  rcases hi with ⟨_,rfl⟩ | ⟨_,⟨t,_,_,rfl⟩,_⟩
  ·exact⟨rfl,rfl,rfl⟩
  ·exact⟨rfl,rfl,rfl⟩
 have d:0<f->i<L.length/\iv=i:=λr=>by
  rcases hi with ⟨h,_⟩ | ⟨_,⟨t,h,_⟩,e⟩
  ·omega
  ·exact⟨(gK.1 h).1,e⟩
 by_cases g:j=0
 ·exact .no _ _ (.inl (by rw[b.1,(ha.1 g).1]))
 by_cases p:j=1
 ·exact .no _ _ (.inl (by rw[b.1,(ha.2.1 p).1]))
 have q:=ha.2.2 (by omega);cases q with
 | dV u n h h1 e=>exact .num _ _ b.1
 | fM u f h h1=>exact .del _ _ (.inl b.1) (d (by omega)).1 (d (by omega)).2
 | resize u n f h h1 e h3=>exact .mov _ _ b.1 (d (by omega)).1 (d (by omega)).2
 | pages u o f h h1 e=>exact .Uu _ _ o b.1 b.2.1 h1 (hx.n b.1 h0)
 | give u f h h1=>exact .del _ _ (.inr (.inl b.1)) (d (by omega)).1 (d (by omega)).2
 | new u n h h1=>exact .obj _ _ b.1 (by rw[b.2.2];exact h1)
 | drop u n f h h1 e=>exact .del _ _ (.inr (.inr b.1)) (d (by omega)).1 (d (by omega)).2
 | drain u n h h1=>exact .no _ _ (.inr (.inr (.inl b.1)))
 | shrink u n h h1=>exact .no _ _ (.inr (.inl b.1))
 | bulk u m h h1 e=>exact .many _ _ b.1 hx.l
 | write u m f h h1 e=>exact .wrt _ _ b.1 (d (by omega)).1 (d (by omega)).2
 | read u f h e=>exact .no _ _ (.inr (.inr (.inr b.1)))
def Nxt (h:Hp)(j:Nat)(s:Sy)(L:List Th)(acts:List Ac)(tells:List An)(c':Ac)(iv:Int):Prop:=∃(i:Nat) (r:Sy×An),Dn s c' r/\EC s/\Qs h (j+1) r.1 (if r.2.c=0 then lF L c' r.2 i else L) (acts++[c']) (tells++[r.2])/\r.2.l.length<=30/\(r.2.c=0->GK L i iv c' r.2)
section
variable {h:Hp}{j:Nat}{s:Sy}{L:List Th}{acts:List Ac}{tells:List An}{c:Ac}{f:Int}
theorem Nxt.zero (hk:eY h)(hl:h.live=[])(p:Qs h j s L acts tells)(ha:rE h.aAh j c f)(hf:f<=0):Nxt h j s L acts tells c (-1):=by
 obtain⟨r,a,b,g⟩:=p.act hk hl ha (c':=c) (i:=0) (.inl ⟨hf,rfl⟩);have d:=aCR b.ok ha ⟨rfl,rfl,rfl⟩ a;exact⟨0,r,a,b,g,d.l,λe=>aHN ha (.inl ⟨hf,rfl⟩) d e⟩
theorem Nxt.thing (hk:eY h)(hl:h.live=[])(p:Qs h j s L acts tells)(ha:rE h.aAh j c f)(hf:0<f){x:Th}(hi:L[i]? =aK x)(hx:fits c x):Nxt h j s L acts tells (c.at x.a) i:=by
 obtain⟨r,d,g,k⟩:=p.act hk hl ha (c':=c.at x.a) (i:=i) (.inr ⟨hf,x,hi,hx,rfl⟩);have b:=aCR (c':=c.at x.a) g.ok ha ⟨rfl,rfl,rfl⟩ d;exact⟨i,r,d,g,k,b.l,λe=>aHN ha (.inr ⟨hf,⟨x,hi,hx,rfl⟩,rfl⟩) b e⟩
theorem rE.about (ha:rE cp j c f)(hf:0<f):2<=j/\f<=9/\(c.k=2∨c.k=6∨c.k=9∨c.k=11∨c.k=13∨c.k=14):=by
 have g:j≠0:=λe=>by have:=(ha.1 e).2;omega
 have a:j≠1:=λe=>by have:=(ha.2.1 e).2;omega
 have b:2<=j:=by omega
 have d:=ha.2.2 b;refine⟨b,?_⟩;cases d with
 | dV u n h a b=>omega
 | pages u o f h a b=>omega
 | new u n h a=>omega
 | bulk u m h a b=>omega
 | drain u n h a=>omega
 | shrink u n h a=>omega
 | fM u f h a=>exact⟨a.2,by simp⟩
 | resize u n f h a b h3=>exact⟨a.2,by simp⟩
 | give u f h a=>exact⟨a.2,by simp⟩
 | drop u n f h a b=>exact⟨b.2,by simp⟩
 | write u m f h a b=>exact⟨b.2,by simp⟩
 | read u f h b=>exact⟨b.2,by simp⟩
end
def aAg (h:Hp)(w:World)(ev:Ending)(w':World):Prop:=∃(G:Nat) (s:Sy) (v:Sc) (L:List Th) (a:List Ac) (qs:List Aq) (c d b:Pl) (j:Nat),ev=aN (aG #[aH (aK ⟨G,0,aJ⟩),.bool true])/\w.heap.size<=G/\dY w' G w.heap.size s v (rws a qs L c d b) qs/\Qs h j s L a (qs.map (·.x))/\2<=j/\j<=42/\L.length<=30*j/\Below w.heap.size w w'
structure GL (h:Hp)(A G N0 j:Nat)(w0:World)(s:Sy)(v:Sc)(L:List Th)(acts:List Ac)(qs:List Aq)(pa pt pw:Pl)(c':Ac)(f iv:Int)(W:World):Prop where
 st:dY W G N0 s v (rws acts qs L pa pt pw) qs
 b:Below N0 w0 W
 k:∀o,W.cell? ⟨A,o,aJ⟩=(lT c'++[aB aI f]).toArray[o]?
 a:A<W.heap.size
 n:Nxt h j s L acts (qs.map (·.x)) c' iv
theorem GL.q {A G j:Nat}{qs:List Aq}{pa pt pw:Pl}(b:GL h A G N0 j w0 s v L acts qs pa pt pw c' f iv W):W.cell? ⟨A,0,aJ⟩=aK (aB aI c'.k)/\W.cell? ⟨A,1,aJ⟩=aK (aB aI c'.u)/\W.cell? ⟨A,2,aJ⟩=aK (aB aI c'.n)/\W.cell? ⟨A,3,aJ⟩=aK (aB aI c'.m)/\W.cell? ⟨A,4,aJ⟩=aK (aB aI c'.p)/\W.cell? ⟨A,5,aJ⟩=aK (aB aI c'.f)/\W.cell? ⟨A,6,aJ⟩=aK (aF ⟨c'.s.toArray⟩):=⟨b.k 0,b.k 1,b.k 2,b.k 3,b.k 4,b.k 5,b.k 6⟩
theorem GL.qB {A G j:Nat}{qs:List Aq}{pa pt pw:Pl}(b:GL h A G N0 j w0 s v L acts qs pa pt pw c' f iv W):∀X,Below W.heap.size W X->X.cell? ⟨A,0,aJ⟩=aK (aB aI c'.k)/\X.cell? ⟨A,1,aJ⟩=aK (aB aI c'.u)/\X.cell? ⟨A,2,aJ⟩=aK (aB aI c'.n)/\X.cell? ⟨A,3,aJ⟩=aK (aB aI c'.m)/\X.cell? ⟨A,4,aJ⟩=aK (aB aI c'.p)/\X.cell? ⟨A,5,aJ⟩=aK (aB aI c'.f)/\X.cell? ⟨A,6,aJ⟩=aK (aF ⟨c'.s.toArray⟩):=λX c=>by
 have k:=aAp b.k b.a c;exact⟨k 0,k 1,k 2,k 3,k 4,k 5,k 6⟩
theorem dY.svB {G:Nat}{qs:List Aq}(h:dY W G N0 s v rs qs):∀X,Below W.heap.size W X->X.cell? ⟨G,0,aJ⟩=aK (aA v.a1 v.n1 v.c1)/\X.cell? ⟨G,1,aJ⟩=aK (aA v.hc.az 2 v.hc.cz)/\X.cell? ⟨G,2,aJ⟩=aK (aA v.hc.am 2 v.hc.cm)/\X.cell? ⟨G,3,aJ⟩=aK (aB aI (s.h.aAh:Int))/\X.cell? ⟨G,4,aJ⟩=aK (aA v.hc.al v.hc.lc.length v.hc.cl)/\X.cell? ⟨G,5,aJ⟩=aK (aA v.hc.av s.h.live.length v.hc.cv)/\X.cell? ⟨G,6,aJ⟩=aK (aA v.a2 v.ys.length v.c2):=λ_ a=>(h.below a).sv
structure Bj (A Y G N0:Nat)(w0:World)(s:Sy)(v:Sc)(rs:List Rs)(ys:List Aq)(c:Ac)(f:Int)(q:Aq)(W:World):Prop where
 st:dY W G N0 s v rs ys
 b:Below N0 w0 W
 k:∀o,W.cell? ⟨A,o,aJ⟩=(lT c++[aB aI f]).toArray[o]?
 y:∀o,W.cell? ⟨Y,o,aJ⟩=(xK q).toArray[o]?
 a:A<W.heap.size/\Y<W.heap.size
 g:A≠G/\Y≠G
 ne:∀r∈rs,r.v.ownBlock≠aK A/\r.v.ownBlock≠aK Y
section
variable {A Y G N0:Nat}{w0 W W2 W7:World}{s:Sy}{v:Sc}{rs:List Rs}{ys:List Aq}{c:Ac}{f:Int}{q:Aq}
theorem Bj.below (h:Bj A Y G N0 w0 s v rs ys c f q W)(hN:N0<=W.heap.size)(hb:Below W.heap.size W W2):Bj A Y G N0 w0 s v rs ys c f q W2:=
 ⟨h.st.below hb,h.b.trans (hb.mono hN),aAp h.k h.a.1 hb,aAp h.y h.a.2 hb,⟨gI h.a.1 hb.size,gI h.a.2 hb.size⟩,h.g,h.ne⟩
theorem Bj.grow (h:Bj A Y G N0 w0 s v rs ys c f q W)(hG:N0<=G)(hN:N0<=W.heap.size)(hi:i<rs.length){r':Rs}{g7:Nat}(hg7:W.grownBy W7 rs[i].v.ownBlock)(hb':r'.v.ownBlock=aK g7)(hl7:rs[i].v.ownBlock=aK g7∨g7=W.heap.size)(j:Nat)(u:Value)(hst:dY (W7.setCell ⟨G,j,aJ⟩ u) G N0 s v (rs.set i r') ys):Bj A Y G N0 w0 s v (rs.set i r') ys c f q (W7.setCell ⟨G,j,aJ⟩ u):=by
 have l:=h.ne _ (gL hi);refine⟨hst,gS (Below.grown h.b hg7 hN λk e=>(h.st.og _ (gL hi) k e).2) G j hG u,aAc (bD h.k h.a.1 hg7 λe=>l.1 e.symm) h.g.1 j u,aAc (bD h.y h.a.2 hg7 λe=>l.2 e.symm) h.g.2 j u,by rw[World.size_setCell];exact⟨gI h.a.1 hg7.size,gI h.a.2 hg7.size⟩,h.g,λr n=> ?_⟩;rcases nS n with rfl | ⟨q,m,_,rfl⟩
 ·rw[hb'];rcases hl7 with e | e
  ·rw[<- e];exact l
  ·have:=h.a;exact⟨λd=>by have:=gP d;omega,λd=>by have:=gP d;omega⟩
 ·exact h.ne _ (gL m)
theorem Bj.qs (h:Bj A Y G N0 w0 s v rs ys c f q W):W.cell? ⟨A,0,aJ⟩=aK (aB aI c.k)/\W.cell? ⟨A,1,aJ⟩=aK (aB aI c.u)/\W.cell? ⟨A,2,aJ⟩=aK (aB aI c.n)/\W.cell? ⟨A,3,aJ⟩=aK (aB aI c.m)/\W.cell? ⟨A,4,aJ⟩=aK (aB aI c.p)/\W.cell? ⟨A,5,aJ⟩=aK (aB aI c.f)/\W.cell? ⟨A,6,aJ⟩=aK (aF ⟨c.s.toArray⟩)/\W.cell? ⟨Y,0,aJ⟩=aK (aB aI (q.x.c:Int))/\W.cell? ⟨Y,1,aJ⟩=aK (aB aI q.x.n)/\W.cell? ⟨Y,2,aJ⟩=aK (aA q.d q.x.l.length q.c):=⟨h.k 0,h.k 1,h.k 2,h.k 3,h.k 4,h.k 5,h.k 6,h.y 0,h.y 1,h.y 2⟩
end
end Go.Proofs.YtjaogfhcnmjkiaaGreatDoor
