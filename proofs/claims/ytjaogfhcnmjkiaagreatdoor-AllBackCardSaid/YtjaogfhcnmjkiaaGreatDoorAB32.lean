/- joined. -/
import Derived.Test.YtjaogfhcnmjkiaaGreatDoorAB28
set_option linter.all false
set_option maxRecDepth 100000
set_option maxHeartbeats 0
namespace Go.Proofs.YtjaogfhcnmjkiaaGreatDoor
open Go.RowKit
open Go.Value renaming slice->aA,int->aB,agg->aC,string->aF,tuple->aG,pointer->aH,ownBlock->gTh
open Go.IntKind renaming i64->aI
open Option renaming none->aJ,some->aK
open Go.Ending renaming returned->aN
open Go.Obj renaming cells->aO
open Go.Proofs.Tryz
variable {a0 a1 a2 a3 a4 a5 a6:Value}
structure AX (T B:Nat)(w0:World)(m:List (Ac×Int))(d:Option Addr)(n cap:Nat)(r:Rw)(A:Array Value)(W:World):Prop where
 p:∀o,W.cell? ⟨T,o,aJ⟩=(#[aB aI r.k,aB aI r.a,aB aI r.b,aB aI r.c]:Array Value)[o]?
 k:∀o,W.cell? ⟨T+1,o,aJ⟩=A[o]?
 fz:∀o,W.frozen? ⟨T+1,o,aJ⟩=false
 o:W.ownsRow B 135 8 (aA d n cap) n (flat vN m)
 b:Below B w0 W
 t:T+1<W.heap.size
 z:B<=T/\B<=W.heap.size
 ne:(aA d n cap).ownBlock≠aK (T+1)
section
variable {T B:Nat}{w0:World}{m:List (Ac×Int)}{d:Option Addr}{n cap:Nat}{r:Rw}{A:Array Value}{W W':World}
theorem AX.below (h:AX T B w0 m d n cap r A W)(hb:Below W.heap.size W W'):AX T B w0 m d n cap r A W':=
 ⟨aQ h.p (Nat.lt_of_succ_lt h.t) hb,aQ h.k h.t hb,aU h.fz h.t hb,own_below h.o hb (gT _),h.b.trans (hb.mono h.z.2),gI h.t hb.size,⟨h.z.1,gQ h.z.2 hb.size⟩,h.ne⟩
theorem AX.set (h:AX T B w0 m d n cap r A W)(i:Nat)(u:Value):AX T B w0 m d n cap r (A.setIfInBounds i u) (W.setCell ⟨T+1,i,aJ⟩ u):=
 ⟨aS h.p (by omega) i u,aW h.k i u,aV h.fz _ u,bU h.o h.ne u,Below.setCell h.b (show B<=T+1 from Nat.le_succ_of_le h.z.1) u,by rw[World.size_setCell];exact h.t,⟨h.z.1,by rw[World.size_setCell];exact h.z.2⟩,h.ne⟩
theorem AX.set0 (h:AX T B w0 m d n cap r #[a0,a1,a2,a3,a4,a5,a6] W)(u:Value):AX T B w0 m d n cap r #[u,a1,a2,a3,a4,a5,a6] (W.setCell ⟨T+1,0,aJ⟩ u):=by
 have a:=h.set 0 u;simpa only[gE,gG,gH]using a
theorem AX.set2 (h:AX T B w0 m d n cap r #[a0,a1,a2,a3,a4,a5,a6] W)(u:Value):AX T B w0 m d n cap r #[a0,a1,u,a3,a4,a5,a6] (W.setCell ⟨T+1,2,aJ⟩ u):=by
 have a:=h.set 2 u;simpa only[gE,gG,gH]using a
theorem AX.set3 (h:AX T B w0 m d n cap r #[a0,a1,a2,a3,a4,a5,a6] W)(u:Value):AX T B w0 m d n cap r #[a0,a1,a2,u,a4,a5,a6] (W.setCell ⟨T+1,3,aJ⟩ u):=by
 have a:=h.set 3 u;simpa only[gE,gG,gH]using a
theorem AX.set5 (h:AX T B w0 m d n cap r #[a0,a1,a2,a3,a4,a5,a6] W)(u:Value):AX T B w0 m d n cap r #[a0,a1,a2,a3,a4,u,a6] (W.setCell ⟨T+1,5,aJ⟩ u):=by
 have a:=h.set 5 u;simpa only[gE,gG,gH]using a
theorem AX.set6 (h:AX T B w0 m d n cap r #[a0,a1,a2,a3,a4,a5,a6] W)(u:Value):AX T B w0 m d n cap r #[a0,a1,a2,a3,a4,a5,u] (W.setCell ⟨T+1,6,aJ⟩ u):=by
 have a:=h.set 6 u;simpa only[gE,gG,gH]using a
theorem AX.drew (h:AX T B w0 m d n cap r A W):AX T B w0 m d n cap r A W.drew:=h.below (gX _ _).drew
theorem AX.alloc (h:AX T B w0 m d n cap r A W)(o:Obj):AX T B w0 m d n cap r A (W.alloc o):=h.below (aT _ _)
end
theorem aEC (q:Nat)(hq:q<3):∃M:Nat,(1<=M/\M<=140)/\∀h,([aB aI 4,aB aI 40,aB aI 140]:List Value)[q]'h=aB aI (M:Int):=by
 rcases(show q=0∨q=1∨q=2 by omega)with rfl | rfl | rfl
 ·exact⟨4,by omega,λ_=>rfl⟩
 ·exact⟨40,by omega,λ_=>rfl⟩
 ·exact⟨140,by omega,λ_=>rfl⟩
theorem aED (q:Nat)(hq:q<7):∃F:Nat,(F=0∨F=2∨F=4∨F=1∨F=8∨F=3∨F=10)/\∀h,([aB aI 0,aB aI 2,aB aI 4,aB aI 1,aB aI 8,aB aI 3,aB aI 10]:List Value)[q]'h=aB aI (F:Int):=by
 rcases(show q=0∨q=1∨q=2∨q=3∨q=4∨q=5∨q=6 by omega)with rfl | rfl | rfl | rfl | rfl | rfl | rfl
 ·exact⟨0,by omega,λ_=>rfl⟩
 ·exact⟨2,by omega,λ_=>rfl⟩
 ·exact⟨4,by omega,λ_=>rfl⟩
 ·exact⟨1,by omega,λ_=>rfl⟩
 ·exact⟨8,by omega,λ_=>rfl⟩
 ·exact⟨3,by omega,λ_=>rfl⟩
 ·exact⟨10,by omega,λ_=>rfl⟩
theorem aB5 (q:Nat)(hq:q<3):∃n:List UInt8,(n=vX∨n=kK∨n=k4B)/\∀h,([aF ⟨#[111,98]⟩,aF ⟨#[112,97,105,114]⟩,aF ⟨#[107,52]⟩]:List Value)[q]'h=aF ⟨n.toArray⟩:=by
 rcases(show q=0∨q=1∨q=2 by omega)with rfl | rfl | rfl
 ·exact⟨vX,.inl rfl,λ_=>rfl⟩
 ·exact⟨kK,.inr (.inl rfl),λ_=>rfl⟩
 ·exact⟨k4B,.inr (.inr rfl),λ_=>rfl⟩
theorem Uk (q:Nat)(hq:q<2):∃n:List UInt8,(n=vX∨n=kK)/\∀h,([aF ⟨#[111,98]⟩,aF ⟨#[112,97,105,114]⟩]:List Value)[q]'h=aF ⟨n.toArray⟩:=by
 rcases(show q=0∨q=1 by omega)with rfl | rfl
 ·exact⟨vX,.inl rfl,λ_=>rfl⟩
 ·exact⟨kK,.inr rfl,λ_=>rfl⟩
theorem aEE (q:Nat)(hq:q<2):∃K:Int,(K=12∨K=7)/\∀h,([aB aI 12,aB aI 7]:List Value)[q]'h=aB aI K:=by
 rcases(show q=0∨q=1 by omega)with rfl | rfl
 ·exact⟨12,.inl rfl,λ_=>rfl⟩
 ·exact⟨7,.inr rfl,λ_=>rfl⟩
structure aLr (cp T B:Nat)(w0:World)(m:List (Ac×Int))(d:Option Addr)(n cap:Nat)(r:Rw)(c:Ac)(f:Int)(W:World):Prop where
 a:pJ cp c f
 h:AX T B w0 m d n cap r (mW c).toArray W
theorem aB6 (a:Option Addr)(n c cp:Nat)(l:List Rw)(w:World)(hl:l.length=n)(hr:Row w a (flat yQ l))(hwf:∀r∈l,r.wf)(hcp:1<=cp/\cp<=4)(hn:n<=maxLen):
 Calls prog 29 #[aA a n c,aB aI (cp:Int),aB aI 40] w (aAa cp w):=by
 unfold maxLen at hn;have HR:=gO hr;have HWF:=gO hwf;have y:Hid (∀(n m:Int) (W:World),in64 n->1<=m->m<=1000000->Calls prog 13 #[aB aI n,aB aI m] W λe A=>e=aN (aB aI (pk n m))/\W=A):=λn m W C G I=>Eu n m W C.1 C.2 G I
 have HPI:∀(n m v:Int),in64 n->1<=m->m<=1000000->pk n m=v->Hid (∀W,Calls prog 13 #[aB aI n,aB aI m] W λe A=>e=aN (aB aI v)/\W=A):=λn m v C G I Y W=>by rw[<- Y];exact y.out n m W C G I
 clear hr hwf;go_enter func29,ntmps29
 go_upto_region 2 with fail
 obtain⟨l0,Q⟩:∃l0:List (Ac×Int),l0=[(⟨3,0,5,1,0,0,vX⟩,0),(⟨3,0,2,2,0,0,kK⟩,0)]:=⟨_,rfl⟩
 have hl2:l0.length=2:=by rw[Q];rfl
 have HO0:Hid ((w.alloc (aO #[aB aI 3,aB aI 0,aB aI 5,aB aI 1,aB aI 0,aB aI 0,aF ⟨#[111,98]⟩,aB aI 0,aB aI 3,aB aI 0,aB aI 2,aB aI 2,aB aI 0,aB aI 0,aF ⟨#[112,97,105,114]⟩,aB aI 0] 135)).ownsRow w.heap.size 135 8 (aA (aK ⟨w.heap.size,0,aJ⟩) 2 2) 2 (flat vN l0)):=by
  rw[Q];exact World.ownsRow_lit w #[aB aI 3,aB aI 0,aB aI 5,aB aI 1,aB aI 0,aB aI 0,aF ⟨#[111,98]⟩,aB aI 0,aB aI 3,aB aI 0,aB aI 2,aB aI 2,aB aI 0,aB aI 0,aF ⟨#[112,97,105,114]⟩,aB aI 0] 2 (gT _) (by unfold maxLen;omega) rfl
 have HA0:Hid (∀j (hj:j<l0.length),rV cp j l0[j].1 l0[j].2):=λj hj=>by
  subst Q
  match j,hj with
  | 0,_=>exact⟨λ_=>⟨rfl,rfl⟩,λe=>by omega,λe=>by omega⟩
  | 1,_=>exact⟨λe=>by omega,λ_=>⟨rfl,rfl⟩,λe=>by omega⟩
  | j+2,hj=>exact absurd hj (by simp)
 have HB0:=gO (aT w (aO #[aB aI 3,aB aI 0,aB aI 5,aB aI 1,aB aI 0,aB aI 0,aF ⟨#[111,98]⟩,aB aI 0,aB aI 3,aB aI 0,aB aI 2,aB aI 2,aB aI 0,aB aI 0,aF ⟨#[112,97,105,114]⟩,aB aI 0] 135));clear Q;generalize w.alloc _=w1 at*;go_wp2_with fail
 go_loopw [7,8] (λs7 s8 wr=>∃(j:Nat) (m:List (Ac×Int)) (d:Option Addr) (x:Nat),j<=n/\j<=40/\s8=aB aI (j:Int)/\s7=aA d (j+2) x/\Hid (m.length=j+2)/\Hid (∀q (hq:q<m.length),rV cp q m[q].1 m[q].2)/\Hid (wr.ownsRow w.heap.size 135 8 (aA d (j+2) x) (j+2) (flat vN m))/\Hid (Below w.heap.size w wr)) (λ_ s8 _=>n-(intOf s8).toNat)
 case atStart=>exact⟨0,l0,aK ⟨w.heap.size,0,aJ⟩,2,gU _,by decide,rfl,rfl,hl2,HA0,HO0,HB0⟩
 case round=>
  obtain⟨j,m,d,x,hj,hj4,rfl,rfl,E,HAM,HOM,D⟩:=hrel;clear HA0 HO0 HB0;by_cases hlt:j<n/\j<40
  ·have hji:(j:Int)<n:=by omega
   have aLt:(j:Int)<40:=by omega
   obtain⟨bb,off,hba,hbb,hbc⟩:=aZ vG (by decide) (HR.out.below D.out) (j:=j) (by omega);obtain rfl:=hba;have hw:=HWF.out _ (gL (show j<l.length by omega));generalize l[j]=r at*;obtain⟨t0,t1,t2,t3⟩:=Qb hbc;obtain⟨wk,wa,wb,wc⟩:=hw;obtain⟨u,hu⟩:∃u:Nat,pk r.b cp=(u:Int):=⟨(pk r.b cp).toNat,by have:=Bh r.b cp (by omega);omega⟩
   have H:u<cp:=by have:=Xj r.b cp (by omega);omega
   clear hbc;go_upto_region 7 with (go_at_call 13;refine(y.out _ _ _ (by assumption) (by omega) (by omega)).mono ?_;rintro J A ⟨rfl,rfl⟩)
   obtain⟨k,hk⟩:∃k:Nat,pk r.k 24=(k:Int):=⟨(pk r.k 24).toNat,by have:=Bh r.k 24 (by omega);omega⟩
   have aLu:k<24:=by have:=Xj r.k 24 (by omega);omega
   obtain⟨KA,KX,FA,FX,hsx,S⟩:=boxes2 wr #[aB aI r.k,aB aI r.a,aB aI r.b,aB aI r.c] 139 #[aB aI 0,aB aI u,aB aI 0,aB aI 0,aB aI 0,aB aI 0,aF ⟨#[]⟩] 70;have g:Hid (AX wr.heap.size w.heap.size w m d (j+2) x r #[aB aI 0,aB aI u,aB aI 0,aB aI 0,aB aI 0,aB aI 0,aF ⟨#[]⟩] _):=⟨KA,KX,FX,own_below HOM.out S (gT _),D.out.trans (S.mono D.out.size),hsx,⟨D.out.size,gQ D.out.size S.size⟩,λe=>by have:=(HOM.out.lt _ e).2;omega⟩
   have HKA:=gO KA;have aAc:wr.heap.size<((wr.alloc (aO #[aB aI r.k,aB aI r.a,aB aI r.b,aB aI r.c] 139)).alloc (aO #[aB aI 0,aB aI u,aB aI 0,aB aI 0,aB aI 0,aB aI 0,aF ⟨#[]⟩] 70)).heap.size:=by omega
   have p0:=KA 0;have p1:=KA 1;have p2:=KA 2;have p3:=KA 3;simp only[gB,gC,gD]at p0 p1 p2 p3;clear KA KX FA FX S t0 t1 t2 t3;generalize (wr.alloc _).alloc _=w2 at*;go_upto_block 2 with (go_at_call 13;refine(y.out _ _ _ (by assumption) (by omega) (by omega)).mono ?_;rintro J A ⟨rfl,rfl⟩)
   go_cut [11] (λs11 wx=>∃(i:Ac) (f:Int),s11=aB aI f/\Hid (aLr cp wr.heap.size w.heap.size w m d (j+2) x r i f wx))
   case first=>
    have q0:=g.out.k 0;have q2:=g.out.k 2;have q3:=g.out.k 3;have q5:=g.out.k 5;have q6:=g.out.k 6;have f0:=g.out.fz 0;have f2:=g.out.fz 2;have f3:=g.out.fz 3;have f5:=g.out.fz 5;have f6:=g.out.fz 6;simp only[gB,gC,gD]at q0 q2 q3 q5 q6;have b9:=fM r.a (m:=9) (by decide);by_cases hc0:k<5
    ·have Z:(k:Int)<5:=by omega
     have b3:=fM r.c (m:=3) (by decide);obtain⟨q,V⟩:∃q:Nat,pk r.c 3=(q:Int):=⟨(pk r.c 3).toNat,by omega⟩
     have t:q<3:=by omega
     have U:(q:Int)<3:=by omega
     obtain⟨M,hM1,B⟩:=aEC q t;have R:=B (by simpa using t);have bM:=fM r.a (m:=M) (by omega);obtain⟨N,hN⟩:∃N:Nat,1+pk r.a M=(N:Int):=⟨(1+pk r.a M).toNat,by omega⟩
     have hN1:1<=N:=by omega
     have hN2:N<=140:=by omega
     have hwr:IntKind.i64.wrap (N:Int)=(N:Int):=IntWalk.i64_in _ (by omega);clear b3 B;go_upto_region 13 with fail
     go_region_law (go_simp;go_at_call 13;refine(y.out _ _ _ (by assumption) (by omega) (by omega)).mono ?_;rintro J A ⟨rfl,rfl⟩;try rw[V])
     all_goals (go_wp2_with fail)
     all_goals go_meet
     all_goals exact⟨⟨8,u,N,0,0,0,[]⟩,0,rfl,⟨.dL u N H hN1 hN2,(((g.out.set0 _).set2 _).alloc _).drew⟩⟩
    by_cases hc3:10<=k/\k<13
    ·have Z:¬(k:Int)<5:=by omega
     have C:¬(k:Int)<9:=by omega
     have G:¬(k:Int)=9:=by omega
     have I:(k:Int)<13:=by omega
     have b5:=fM r.a (m:=5) (by decide);have b7:=fM r.c (m:=7) (by decide);obtain⟨N,hN⟩:∃N:Nat,pk r.a 5=(N:Int):=⟨(pk r.a 5).toNat,by omega⟩
     have hN1:N<=4:=by omega
     obtain⟨q,V⟩:∃q:Nat,pk r.c 7=(q:Int):=⟨(pk r.c 7).toNat,by omega⟩
     have t:q<7:=by omega
     have U:(q:Int)<7:=by omega
     obtain⟨F,O,B⟩:=aED q t;have R:=B (by simpa using t);have X:=gO O;clear b5 b7 B O;go_wp2_with (go_at_call 13;refine(y.out _ _ _ (by assumption) (by omega) (by omega)).mono ?_;rintro J A ⟨rfl,rfl⟩;try rw[V])
     all_goals go_meet
     all_goals exact⟨⟨1,u,N,0,0,F,[]⟩,0,rfl,⟨.pages u N F H hN1 X.out,((((g.out.set0 _).set2 _).set5 _).alloc _)⟩⟩
    by_cases hc5:16<=k/\k<18
    ·have Z:¬(k:Int)<5:=by omega
     have C:¬(k:Int)<9:=by omega
     have G:¬(k:Int)=9:=by omega
     have I:¬(k:Int)<13:=by omega
     have Y:¬(k:Int)<16:=by omega
     have h5:(k:Int)<18:=by omega
     have b3:=fM r.a (m:=2) (by decide);obtain⟨q,V⟩:∃q:Nat,pk r.a 2=(q:Int):=⟨(pk r.a 2).toNat,by omega⟩
     have t:q<2:=by omega
     have U:(q:Int)<2:=by omega
     obtain⟨nm,O,B⟩:=Uk q t;have R:=B (by simpa using t);have X:=gO O;clear b3 B O;go_wp2_with (go_at_call 13;refine(y.out _ _ _ (by assumption) (by omega) (by omega)).mono ?_;rintro J A ⟨rfl,rfl⟩;try rw[V])
     all_goals go_meet
     all_goals exact⟨⟨5,u,0,0,0,0,nm⟩,0,rfl,⟨.new u _ H X.out,(((g.out.set0 _).set6 _).alloc _)⟩⟩
    by_cases hc6:k=18
    ·have Z:¬(k:Int)<5:=by omega
     have C:¬(k:Int)<9:=by omega
     have G:¬(k:Int)=9:=by omega
     have I:¬(k:Int)<13:=by omega
     have Y:¬(k:Int)<16:=by omega
     have h5:¬(k:Int)<18:=by omega
     have h6:(k:Int)=18:=by omega
     subst hc6;have b3:=fM r.c (m:=2) (by decide);obtain⟨q,V⟩:∃q:Nat,pk r.c 2=(q:Int):=⟨(pk r.c 2).toNat,by omega⟩
     have t:q<2:=by omega
     have U:(q:Int)<2:=by omega
     obtain⟨nm,O,B⟩:=Uk q t;have R:=B (by simpa using t);have X:=gO O;clear b3 B O;go_wp2_with (go_at_call 13;refine(y.out _ _ _ (by assumption) (by omega) (by omega)).mono ?_;rintro J A ⟨rfl,rfl⟩;try rw[V])
     all_goals go_meet
     all_goals exact⟨⟨6,u,0,0,0,0,nm⟩,1+pk r.a 9,rfl,⟨.drop u _ _ H X.out (by omega),(((g.out.set0 _).set6 _).alloc _)⟩⟩
    by_cases hc7:k=19
    ·have Z:¬(k:Int)<5:=by omega
     have C:¬(k:Int)<9:=by omega
     have G:¬(k:Int)=9:=by omega
     have I:¬(k:Int)<13:=by omega
     have Y:¬(k:Int)<16:=by omega
     have h5:¬(k:Int)<18:=by omega
     have h6:¬(k:Int)=18:=by omega
     have h7:(k:Int)=19:=by omega
     subst hc7;have b3:=fM r.c (m:=3) (by decide);have b2:=fM r.a (m:=2) (by decide);obtain⟨q,V⟩:∃q:Nat,pk r.c 3=(q:Int):=⟨(pk r.c 3).toNat,by omega⟩
     have t:q<3:=by omega
     have U:(q:Int)<3:=by omega
     obtain⟨nm,O,B⟩:=aB5 q t;have R:=B (by simpa using t);have X:=gO O;obtain⟨p,e2⟩:∃p:Nat,pk r.a 2=(p:Int):=⟨(pk r.a 2).toNat,by omega⟩
     have hp3:p<2:=by omega
     have hpi:(p:Int)<2:=by omega
     obtain⟨K,hG,aH8⟩:=aEE p hp3;have hGe:=aH8 (by simpa using hp3);have HG:=gO hG;clear b2 b3 B O aH8 hG;go_wp2_with (go_at_call 13;refine(y.out _ _ _ (by assumption) (by omega) (by omega)).mono ?_;rintro J A ⟨rfl,rfl⟩;first | rw[e2] | rw[V])
     all_goals go_meet
     all_goals
      refine⟨⟨K,u,0,0,0,0,nm⟩,0,rfl,⟨?_,(((g.out.set0 _).set6 _).alloc _).alloc _⟩⟩;rcases HG.out with rfl | rfl
      ·exact .drain u _ H X.out
      ·exact .shrink u _ H X.out
    by_cases hk9:5<=k/\k<9
    ·have C:¬(k:Int)<5:=by omega
     have G:(k:Int)<9:=by omega
     go_wp2_with (go_at_call 13;refine(y.out _ _ _ (by assumption) (by omega) (by omega)).mono ?_;rintro J A ⟨rfl,rfl⟩)
     all_goals go_meet
     all_goals exact⟨⟨9,u,0,0,0,0,[]⟩,1+pk r.a 9,rfl,⟨.jG u _ H (by omega),g.out.set0 _⟩⟩
    by_cases hk10:k=9
    ·have C:¬(k:Int)<5:=by omega
     have G:¬(k:Int)<9:=by omega
     have I:(k:Int)=9:=by omega
     have b60:=fM r.a (m:=60) (by decide);have b6:=fM r.c (m:=6) (by decide);obtain⟨N,hN⟩:∃N:Nat,1+pk r.a 60=(N:Int):=⟨(1+pk r.a 60).toNat,by omega⟩
     have L:1<=N/\N<=60:=by omega
     subst hk10;go_wp2_with (go_at_call 13;refine(y.out _ _ _ (by assumption) (by omega) (by omega)).mono ?_;rintro J A ⟨rfl,rfl⟩)
     all_goals go_meet
     all_goals exact⟨⟨11,u,N,0,0,0,[]⟩,1+pk r.c 6,rfl,⟨.resize u N _ H (by omega) L.1 L.2,(g.out.set0 _).set2 _⟩⟩
    by_cases aPB:13<=k/\k<16
    ·have Z:¬(k:Int)<5:=by omega
     have C:¬(k:Int)<9:=by omega
     have G:¬(k:Int)=9:=by omega
     have I:¬(k:Int)<13:=by omega
     have Y:(k:Int)<16:=by omega
     go_wp2_with (go_at_call 13;refine(y.out _ _ _ (by assumption) (by omega) (by omega)).mono ?_;rintro J A ⟨rfl,rfl⟩)
     all_goals go_meet
     all_goals exact⟨⟨2,u,0,0,0,0,[]⟩,1+pk r.a 9,rfl,⟨.give u _ H (by omega),g.out.set0 _⟩⟩
    by_cases aPC:23<=k
    ·have Z:¬(k:Int)<5:=by omega
     have C:¬(k:Int)<9:=by omega
     have G:¬(k:Int)=9:=by omega
     have I:¬(k:Int)<13:=by omega
     have Y:¬(k:Int)<16:=by omega
     have h5:¬(k:Int)<18:=by omega
     have h6:¬(k:Int)=18:=by omega
     have h7:¬(k:Int)=19:=by omega
     have h8:¬(k:Int)=20:=by omega
     have h9:¬(k:Int)<23:=by omega
     go_wp2_with (go_at_call 13;refine(y.out _ _ _ (by assumption) (by omega) (by omega)).mono ?_;rintro J A ⟨rfl,rfl⟩)
     all_goals go_meet
     all_goals exact⟨⟨14,u,0,0,0,0,[]⟩,1+pk r.a 9,rfl,⟨.read u _ H (by omega),g.out.set0 _⟩⟩
    by_cases aPD:21<=k
    ·have Z:¬(k:Int)<5:=by omega
     have C:¬(k:Int)<9:=by omega
     have G:¬(k:Int)=9:=by omega
     have I:¬(k:Int)<13:=by omega
     have Y:¬(k:Int)<16:=by omega
     have h5:¬(k:Int)<18:=by omega
     have h6:¬(k:Int)=18:=by omega
     have h7:¬(k:Int)=19:=by omega
     have h8:¬(k:Int)=20:=by omega
     have h9:(k:Int)<23:=by omega
     have bM:=fM r.c (m:=1000) (by decide);go_wp2_with (go_at_call 13;refine(y.out _ _ _ (by assumption) (by omega) (by omega)).mono ?_;rintro J A ⟨rfl,rfl⟩)
     all_goals go_meet
     all_goals exact⟨⟨13,u,0,pk r.c 1000,0,0,[]⟩,1+pk r.a 9,rfl,⟨.write u _ _ H (by omega) (by omega),(g.out.set0 _).set3 _⟩⟩
    by_cases aLv:k=20
    ·have Z:¬(k:Int)<5:=by omega
     have C:¬(k:Int)<9:=by omega
     have G:¬(k:Int)=9:=by omega
     have I:¬(k:Int)<13:=by omega
     have Y:¬(k:Int)<16:=by omega
     have h5:¬(k:Int)<18:=by omega
     have h6:¬(k:Int)=18:=by omega
     have h7:¬(k:Int)=19:=by omega
     have h8:(k:Int)=20:=by omega
     have bM:=fM r.a (m:=30) (by decide);obtain⟨N,hN⟩:∃N:Nat,1+pk r.a 30=(N:Int):=⟨(1+pk r.a 30).toNat,by omega⟩
     have L:1<=N/\N<=30:=by omega
     subst aLv;go_wp2_with (go_at_call 13;refine(y.out _ _ _ (by assumption) (by omega) (by omega)).mono ?_;rintro J A ⟨rfl,rfl⟩)
     all_goals go_meet
     all_goals exact⟨⟨15,u,N,0,0,0,vX⟩,0,rfl,⟨.bulk u N H L.1 L.2,((g.out.set0 _).set6 _).set2 _⟩⟩
    exact absurd aLu (by omega)
   case rest=>
    obtain⟨i,f,rfl,HK⟩:=hcut;have HAA:=gO HK.out.a;have P:=gO HK.out.h;clear HK g y HPI HKA p0 p1 p2 p3 aAc hsx;have q0:=P.out.k 0;have q1:=P.out.k 1;have q2:=P.out.k 2;have q3:=P.out.k 3;have q4:=P.out.k 4;have q5:=P.out.k 5;have q6:=P.out.k 6;simp only[mW,gB,gC,gD]at q0 q1 q2 q3 q4 q5 q6;have T:=aT wc (aO #[aB aI i.k,aB aI i.u,aB aI i.n,aB aI i.m,aB aI i.p,aB aI i.f,aF ⟨i.s.toArray⟩,aB aI f] 135);have HO3:=gO (own_below P.out.o T (gT _));have HB3:=gO (gW P.out.b T);have zA:=gO (World.news_of_block (heap_alloc_new wc (aO #[aB aI i.k,aB aI i.u,aB aI i.n,aB aI i.m,aB aI i.p,aB aI i.f,aF ⟨i.s.toArray⟩,aB aI f] 135)));have hsz2:w.heap.size<=(wc.alloc (aO #[aB aI i.k,aB aI i.u,aB aI i.n,aB aI i.m,aB aI i.p,aB aI i.f,aF ⟨i.s.toArray⟩,aB aI f] 135)).heap.size:=gQ P.out.z.2 T.size;obtain⟨ti,hti,htz,hts,htb⟩:=info_parts aB0;clear T;go_wp2_with (at_builtin;refine wpList_append_lies _ rfl _ _ 89 rfl w.heap.size 135 ti (aC #[aB aI 0,aB aI 0,aB aI 0,aB aI 0,aB aI 0,aB aI 0,aF ⟨#[]⟩,aB aI 0]) 8 72 underlying89 hti htz hts htb rfl (by decide) (aA d (j+2) x) (j+2) (flat vN m) rfl HO3.out ⟨wc.heap.size,0,aJ⟩ 1 1 [aB aI i.k,aB aI i.u,aB aI i.n,aB aI i.m,aB aI i.p,aB aI i.f,aF ⟨i.s.toArray⟩,aB aI f] rfl rfl zA.out (by simp[Value.oneCell']) (by decide) (by unfold maxLen;omega) (by omega) hsz2 _ rfl ?_;intro g7 cap7 w7 ho7 hg7 hl7 mQ)
    all_goals
     refine⟨⟨j+1,m++[(i,f)],aK ⟨g7,0,aJ⟩,cap7,by omega,by omega,by go_num,rfl,by rw[gTb,E.out];rfl,λq hq=> ?_,?_,?_⟩,by simp[intOf];omega⟩
     ·have hml:=E.out;by_cases hq':q<m.length
      ·rw[List.getElem_append_left hq'];exact HAM.out q hq'
      ·have hqe:q=m.length:=by rw[gTb]at hq;simp at hq;omega
       subst hqe;simp only[List.getElem_concat_length];exact⟨λe=>by omega,λe=>by omega,λ_=>HAA.out⟩
     ·have ef:flat vN (m++[(i,f)])=flat vN m++vN (i,f):=by rw[bG,iC]
      rw[ef];exact ho7
     ·exact Below.grown HB3.out hg7 HB3.out.size λk e=>(HO3.out.lt k e).1
  ·have aH9:Hid (aAa cp w (aN (aA d (j+2) x)) wr):=⟨m,d,x,by rw[E.out],by have:=E.out;omega,by have:=E.out;omega,by rw[E.out];exact HOM.out,HAM.out,D.out⟩
   clear y HPI HR HWF;by_cases hn2:j<n
   ·have hji:(j:Int)<n:=by omega
    have aLt:¬(j:Int)<40:=by omega
    go_wp2_with fail
    all_goals go_ret
    all_goals exact aH9.out
   ·have hji:¬(j:Int)<n:=by omega
    go_wp2_with fail
    all_goals go_ret
    all_goals exact aH9.out
end Go.Proofs.YtjaogfhcnmjkiaaGreatDoor
