/- joined. -/
import Derived.Test.YtjaogfhcnmjkiaaGreatDoorAB27
set_option linter.all false
set_option maxRecDepth 100000
set_option maxHeartbeats 0
namespace Go.Proofs.YtjaogfhcnmjkiaaGreatDoor
open Go.RowKit
open Go.Value renaming slice->aA,int->aB,agg->aC,string->aF,tuple->aG,pointer->aH,ownBlock->gTh
open Go.IntKind renaming i64->aI
open Option renaming none->aJ,some->aK
open Go.Ending renaming returned->aN
open Go.Obj renaming cells->aO
open Go.Proofs.Tryz
variable {G N0 g i:Nat}{L:List Th}{W:World}{acts:List Ac}{pa pt pw:Pl}{qs ys:List Aq}{row:Option Nat}{s:Sy}{u:Value}{v:Sc}
theorem AU (h:fF W G N0 s v (rws acts qs L pa pt pw) ys)(hi:i<L.length)(hg:pw.a=aK ⟨g,0,aJ⟩){j:Nat}(hj:j<6){t':Th}(he:lY t'=(lY L[i]).set j u)(hu:u.oneCell'=true):
 fF (W.setCell ⟨g,i*6+j,aJ⟩ u) G N0 s v (rws acts qs (L.set i t') pa pt pw) ys/\N0<=g:=by
 have b:=h.cell (i:=2) (show 2<3 by decide) (g:=g) (c:=pw.c) (by show(pU L pw).v=_;unfold pU;rw[hg];rfl) (i*6+j) u hu;have e:({pU L pw with xs:=(pU L pw).xs.set (i*6+j) u}:Rs)=pU (L.set i t') pw:=by
  unfold pU;simp only[List.length_set];rw[tY iW hj L i hi he]
 refine⟨?_,(h.og (pU L pw) (by simp[rws]) g (by unfold pU;rw[hg];rfl)).2⟩;have d:(rws acts qs L pa pt pw).set 2 {pU L pw with xs:=(pU L pw).xs.set (i*6+j) u}=rws acts qs (L.set i t') pa pt pw:=by rw[e];rfl
 rw[<- d];exact b
theorem uI (h:fF W G N0 s v (rws acts qs L pa pt pw) ys)(hi:i<L.length)(hg:pw.a=aK ⟨g,0,aJ⟩):
 (∀j u,(lY L[i])[j]? =aK u->W.cell? ⟨g,i*6+j,aJ⟩=aK u)/\(∀o,W.frozen? ⟨g,o,aJ⟩=false)/\g<W.heap.size:=by
 obtain⟨f,e,_,c,b,d⟩:=EK iW (by decide) (h.o.each (pU L pw) (by simp[rws])) hi;rw[hg]at e;obtain rfl:g=f:=by simpa using e
 exact⟨b,d,c⟩
theorem AV (h:fF W G N0 s v (rws acts qs L pa pt pw) ys)(hi:i<L.length):∃g,pw.a=aK ⟨g,0,aJ⟩:=by
 obtain⟨b,e,_⟩:=EK iW (by decide) (h.o.each (pU L pw) (by simp[rws])) hi;exact⟨b,e⟩
theorem aBS {b o:Nat}{v:Value}(hne:b≠G)(h:W.cell? ⟨b,o,aJ⟩=aK v):(W.setCell ⟨G,i,aJ⟩ u).cell? ⟨b,o,aJ⟩=aK v:=by
 have a:(⟨G,i,aJ⟩:Addr)≠⟨b,o,aJ⟩:=λe=>hne (by simpa using(congrArg Addr.block e).symm)
 exact(World.cell?_setCell_other _ _ _ _ a).trans h
theorem aBT (G N0:Nat)(s:Sy)(v:Sc)(acts:List Ac)(qs ys:List Aq)(L:List Th)(pa pt pw:Pl)(cu cn cm cp cf:Int)(cs:List UInt8)(x:An)(d:Option Addr)(cap i:Nat)(iv:Int)(w:World)(hg:fF w G N0 s v (rws acts qs L pa pt pw) ys)(hN:N0<=w.heap.size)(hL:L.length<=5000)(Es:N0<=G)(hi:i<L.length)(hiv:iv=(i:Int)):
 Calls prog 62 #[aH (aK ⟨G,0,aJ⟩),aC #[aB aI 11,aB aI cu,aB aI cn,aB aI cm,aB aI cp,aB aI cf,aF ⟨cs.toArray⟩],aC #[aB aI (x.c:Int),aB aI x.n,aA d x.l.length cap],aB aI iv] w (AQ G N0 s v acts qs ys (lC L ⟨11,cu,cn,cm,cp,cf,cs⟩ x i) pa pt w):=by
 subst hiv;obtain⟨W,N,F1,F2,hsz,q⟩:=boxes2 w #[aB aI 11,aB aI cu,aB aI cn,aB aI cm,aB aI cp,aB aI cf,aF ⟨cs.toArray⟩] 70 #[aB aI (x.c:Int),aB aI x.n,aA d x.l.length cap] 72;have b:=gO (hg.below q);have D:=gO (q.mono hN);have hN1:N0<=w.heap.size:=hN;obtain⟨q0,q1,Y,q3,q4,q5,q6⟩:=gA7 W;have z0:=N 0;have z1:=N 1;have z2:=N 2;simp only[gB,gC,gD]at z0 z1 z2;have TK:=gO (fun(g:Nat) (e:(aA pw.a L.length pw.c).ownBlock=aK g)=>(hg.o.lt (pU L pw) (by simp[rws]) g e).2);have WW:G<w.heap.size:=hg.lt;clear W N F1 F2 q hg;go_enter func62,ntmps62
 go_upto_region 1 with fail
 generalize (w.alloc _).alloc _=h at*;have ZU:G<h.heap.size:=b.out.lt;have C:w.heap.size<h.heap.size:=by omega
 have Z:h.cell? ⟨G,9,aJ⟩=aK (aA pw.a L.length pw.c):=b.out.k 9;have DY:(aA pw.a L.length pw.c).ownBlock≠aK G:=λe=>(b.out.og (pU L pw) (by simp[rws]) G e).1 rfl
 obtain⟨g,hg⟩:=AV b.out hi;obtain⟨V,hf,hgl⟩:=uI b.out hi hg;have hii:(i:Int)<L.length:=by omega
 have t0:h.cell? ⟨g,i*6,aJ⟩=aK (aB aI L[i].a):=V 0 _ rfl;have p0:=hf (i*6);rw[hg]at Z;obtain⟨t1,r⟩:∃t1:Th,t1={L[i]with a:=x.n}:=⟨_,rfl⟩
 have f:=AU b.out hi hg (j:=0) (by decide) (u:=aB aI x.n) (t':=t1) (by rw[r];rfl) rfl;have I:Hid (fF (h.setCell ⟨g,i*6,aJ⟩ (aB aI x.n)) G N0 s v (rws acts qs (L.set i t1) pa pt pw) ys):=f.1;have K:=gO (gS D.out g (i*6) f.2 (aB aI x.n));have S:N0<=g:=f.2;have F:N0<=h.heap.size:=by omega
 have hgw:g<w.heap.size:=TK.out g (by rw[hg];rfl);have T:(h.setCell ⟨g,i*6,aJ⟩ (aB aI x.n)).cell? ⟨w.heap.size,2,aJ⟩=aK (aB aI cn):=aBS (by omega) Y;clear f hf V;go_upto_region 19 with fail
 go_cut [] (λwx=>Hid (fF wx G N0 s v (rws acts qs (L.set i t1) pa pt pw) ys)/\Hid (Below N0 w wx)/\wx.cell? ⟨w.heap.size,2,aJ⟩=aK (aB aI cn)/\N0<=wx.heap.size)
 case first=>
  go_region_law fail
  all_goals (go_wp2_with fail)
  all_goals go_meet
  all_goals have A:=(gX (h.setCell ⟨g,i*6,aJ⟩ (aB aI x.n)).heap.size (h.setCell ⟨g,i*6,aJ⟩ (aB aI x.n))).drew
  all_goals exact⟨I.out.below A,K.out.trans (A.mono (by simpa using F)),(A.cell (p:=⟨w.heap.size,2,aJ⟩) (by simpa using C)).trans T,by simpa using F⟩
 case rest=>
  obtain⟨m,B,q2c,Q⟩:=hcut;have M:i<(L.set i t1).length:=by rw[List.length_set];exact hi
  obtain⟨E,H,aLj⟩:=uI m.out M hg;have u1:wc.cell? ⟨g,i*6+1,aJ⟩=aK (aB aI (L.set i t1)[i].z):=E 1 _ rfl;have p1:=H (i*6+1);have k93:wc.cell? ⟨G,9,aJ⟩=aK (aA (aK ⟨g,0,aJ⟩) L.length pw.c):=by
   have h9:=m.out.k 9;have J:wc.cell? ⟨G,9,aJ⟩=aK (aA pw.a (L.set i t1).length pw.c):=h9;rw[List.length_set,hg]at J;exact J
  obtain⟨O,t⟩:∃O:Th,O={L[i]with a:=x.n,z:=cn}:=⟨_,rfl⟩
  have U:(L.set i t1)[i]=t1:=by simp
  have y:=AU m.out M hg (j:=1) (by decide) (u:=aB aI cn) (t':=O) (by rw[U,t,r];rfl) rfl;have X:(L.set i t1).set i O=lC L ⟨11,cu,cn,cm,cp,cf,cs⟩ x i:=by
   rw[List.set_set,t];unfold lC;simp[gJ hi]
  rw[X]at y;have P:=gO y.1;have R:=gO (gS B g (i*6+1) S (aB aI cn));clear y H E X U r t m B q0 q1 Y q3 q4 q5 q6 z0 z1 z2 t0 p0 Z I K b D;go_wp2_with fail
  go_region_law fail
  all_goals
   have A:=(gX (wc.setCell ⟨g,i*6+1,aJ⟩ (aB aI cn)).heap.size (wc.setCell ⟨g,i*6+1,aJ⟩ (aB aI cn))).drew;exact bodyPost_ret (v:=aG #[]) (by simp[results,results62,go_sem]) rfl ⟨_,rfl,P.out.below A,R.out.trans (A.mono (by simpa using Q))⟩
theorem aBU (G N0:Nat)(s:Sy)(v:Sc)(acts:List Ac)(qs ys:List Aq)(L:List Th)(pa pt pw:Pl)(cu cn cm cp cf:Int)(cs:List UInt8)(x:An)(d:Option Addr)(cap i:Nat)(iv:Int)(w:World)(hg:fF w G N0 s v (rws acts qs L pa pt pw) ys)(hN:N0<=w.heap.size)(hL:L.length<=5000)(Es:N0<=G)(hi:i<L.length)(hiv:iv=(i:Int)):
 Calls prog 62 #[aH (aK ⟨G,0,aJ⟩),aC #[aB aI 13,aB aI cu,aB aI cn,aB aI cm,aB aI cp,aB aI cf,aF ⟨cs.toArray⟩],aC #[aB aI (x.c:Int),aB aI x.n,aA d x.l.length cap],aB aI iv] w (AQ G N0 s v acts qs ys (lC L ⟨13,cu,cn,cm,cp,cf,cs⟩ x i) pa pt w):=by
 subst hiv;obtain⟨R,J,F1,Y,hsz,q⟩:=boxes2 w #[aB aI 13,aB aI cu,aB aI cn,aB aI cm,aB aI cp,aB aI cf,aF ⟨cs.toArray⟩] 70 #[aB aI (x.c:Int),aB aI x.n,aA d x.l.length cap] 72;have f:=gO (hg.below q);have A:=gO (q.mono hN);have hN1:N0<=w.heap.size:=hN;obtain⟨q0,q1,q2,q3,q4,q5,q6⟩:=gA7 R;have z0:=J 0;have z1:=J 1;have W:=J 2;simp only[gB,gC,gD]at z0 z1 W;have TK:=gO (fun(g:Nat) (e:(aA pw.a L.length pw.c).ownBlock=aK g)=>(hg.o.lt (pU L pw) (by simp[rws]) g e).2);have WW:G<w.heap.size:=hg.lt;clear R J F1 Y q hg;go_enter func62,ntmps62
 go_upto_region 1 with fail
 generalize (w.alloc _).alloc _=p at*;have ZU:G<p.heap.size:=f.out.lt;have T:w.heap.size<p.heap.size:=by omega
 have V:p.cell? ⟨G,9,aJ⟩=aK (aA pw.a L.length pw.c):=f.out.k 9;have DY:(aA pw.a L.length pw.c).ownBlock≠aK G:=λe=>(f.out.og (pU L pw) (by simp[rws]) G e).1 rfl
 obtain⟨g,hg⟩:=AV f.out hi;obtain⟨Q,X,hgl⟩:=uI f.out hi hg;have hii:(i:Int)<L.length:=by omega
 have t0:p.cell? ⟨g,i*6+4,aJ⟩=aK (aB aI L[i].w):=Q 4 _ rfl;have p0:=X (i*6+4);rw[hg]at V;obtain⟨t1,r⟩:∃t1:Th,t1={L[i]with w:=cm}:=⟨_,rfl⟩
 have h:=AU f.out hi hg (j:=4) (by decide) (u:=aB aI cm) (t':=t1) (by rw[r];rfl) rfl;have E:Hid (fF (p.setCell ⟨g,i*6+4,aJ⟩ (aB aI cm)) G N0 s v (rws acts qs (L.set i t1) pa pt pw) ys):=h.1;have H:=gO (gS A.out g (i*6+4) h.2 (aB aI cm));have O:N0<=g:=h.2;have C:N0<=p.heap.size:=by omega
 have Z:g<w.heap.size:=TK.out g (by rw[hg];rfl);clear h X Q;go_upto_region 22 with fail
 go_cut [] (λwx=>Hid (fF wx G N0 s v (rws acts qs (L.set i t1) pa pt pw) ys)/\Hid (Below N0 w wx)/\True/\N0<=wx.heap.size)
 case first=>
  go_region_law fail
  all_goals (go_wp2_with fail)
  all_goals go_meet
  all_goals have U:=(gX (p.setCell ⟨g,i*6+4,aJ⟩ (aB aI cm)).heap.size (p.setCell ⟨g,i*6+4,aJ⟩ (aB aI cm))).drew
  all_goals exact⟨E.out.below U,H.out.trans (U.mono (by simpa using C)),trivial,by simpa using C⟩
 case rest=>
  obtain⟨m,z,q2c,hN3⟩:=hcut;have I:i<(L.set i t1).length:=by rw[List.length_set];exact hi
  obtain⟨B,D,aLj⟩:=uI m.out I hg;have u1:wc.cell? ⟨g,i*6+5,aJ⟩=aK (.bool (L.set i t1)[i].b):=B 5 _ rfl;have p1:=D (i*6+5);have k93:wc.cell? ⟨G,9,aJ⟩=aK (aA (aK ⟨g,0,aJ⟩) L.length pw.c):=by
   have h9:=m.out.k 9;have F:wc.cell? ⟨G,9,aJ⟩=aK (aA pw.a (L.set i t1).length pw.c):=h9;rw[List.length_set,hg]at F;exact F
  obtain⟨K,t⟩:∃K:Th,K={L[i]with w:=cm,b:=true}:=⟨_,rfl⟩
  have P:(L.set i t1)[i]=t1:=by simp
  have y:=AU m.out I hg (j:=5) (by decide) (u:= .bool true) (t':=K) (by rw[P,t,r];rfl) rfl;have S:(L.set i t1).set i K=lC L ⟨13,cu,cn,cm,cp,cf,cs⟩ x i:=by
   rw[List.set_set,t];unfold lC;simp[gJ hi]
  rw[S]at y;have M:=gO y.1;have N:=gO (gS z g (i*6+5) O (.bool true));clear y D B S P r t m z q0 q1 q2 q3 q4 q5 q6 z0 z1 W t0 p0 V E H f A;go_wp2_with fail
  all_goals exact bodyPost_ret (v:=aG #[]) (by simp[results,results62,go_sem]) rfl ⟨_,rfl,M.out,N.out⟩
def Keeps (T:Nat)(w1 W:World):Prop:=∀b o u,(b=T∨b=T+1)->w1.cell? ⟨b,o,aJ⟩=aK u->W.cell? ⟨b,o,aJ⟩=aK u
section
variable {T:Nat}{w1 W W':World}
theorem Keeps.below (hb:Below w1.heap.size w1 W)(hT:T+1<w1.heap.size):Keeps T w1 W:=λb o u h e=>(hb.cell (p:=⟨b,o,aJ⟩) (show b<w1.heap.size by omega)).trans e
theorem Keeps.grown (h:Keeps T w1 W)(hg:W.grownBy W' row)(hT:T+1<W.heap.size)(hr:∀g,row=aK g->g<T):Keeps T w1 W':=λb o u hb e=>(hg.cell_far ⟨b,o,aJ⟩ (show b<W.heap.size by omega) (λa=>by have:=hr b a.symm;omega)).trans (h b o u hb e)
theorem Keeps.set (h:Keeps T w1 W)(hG:G<T)(i:Nat)(v:Value):Keeps T w1 (W.setCell ⟨G,i,aJ⟩ v):=λb o u hb e=>by
 have a:(⟨G,i,aJ⟩:Addr)≠⟨b,o,aJ⟩:=λe=>by have:G=b:=congrArg Addr.block e;omega
 exact(World.cell?_setCell_other _ _ _ _ a).trans (h b o u hb e)
end
theorem WL (w:World):(zeroValue 3).run prog w= .ok (.int .i64 0) w:=by
 obtain⟨i,a,b,c,hb⟩:=info_parts mO;simp[zeroValue,typeInfo,a,b]
theorem PX (w:World)(k1 k2 cs:List UInt8)(v1 v2 r:Int)(h1:k1.length<=1000)(h2:k2.length<=1000)(h3:cs.length<=1000)(w1:(Lit.int .i64 v1).wf=true)(w2:(Lit.int .i64 v2).wf=true)
 (hat:∀c,(((DataW.map []).put (.string k1) (.lit (.int .i64 v1))).put (.string k2) (.lit (.int .i64 v2)):DataW Unit).atKey (.string cs) (.lit (.int .i64 0))= .lit (.int .i64 c)->c=r):∃W2 W3,
 (Instr.mapUpdate 196 (.map (aK w.heap.size)) (.string ⟨k1.toArray⟩) (.int .i64 v1)).run prog (w.alloc (.map #[] 0)).drew= .ok () W2/\
 (Instr.mapUpdate 196 (.map (aK w.heap.size)) (.string ⟨k2.toArray⟩) (.int .i64 v2)).run prog W2= .ok () W3/\
 (Instr.lookup 196 (.map (aK w.heap.size)) (.string ⟨cs.toArray⟩) false).run prog W3= .ok (.int .i64 r) W3/\Below w.heap.size w W2/\Below w.heap.size w W3:=by
 have d:Below w.heap.size w (w.alloc (.map #[] 0)).drew:=(aT w _).drew;have m:(w.alloc (.map #[] 0)).drew.ownsMap prog 9 (plainElem (H:=Unit) prog 3) w.heap.size 0 (.map []):=World.ownsMap_made w prog 9 _;have K:=Go.Maps.string_keyed (P:=prog) (k:=9) underlying9;obtain⟨W2,e,j,f⟩:=m.update K underlying196 (by unfold maxLen;omega) (Nq k1 h1) (plainElem_int (H:=Unit) underlying3 w1);have a:Below w.heap.size w W2:=d.trans (tN f (gT _) d.size);obtain⟨W3,g,h,l⟩:=j.update K underlying196 (by unfold maxLen;omega) (Nq k2 h2) (plainElem_int (H:=Unit) underlying3 w2);obtain⟨c,b,i,_⟩:=h.lookup_int K underlying196 underlying3 (WL W3) (Nq cs h3);rw[hat c i]at b;exact⟨W2,W3,e,g,b,a,a.trans (tN l (gT _) a.size)⟩
theorem aEx (G N0:Nat)(s:Sy)(v:Sc)(acts:List Ac)(qs ys:List Aq)(L:List Th)(pa pt pw:Pl)(cu cn cm cp cf:Int)(cs:List UInt8)(x:An)(d:Option Addr)(cap i:Nat)(iv:Int)(w:World)(hg:fF w G N0 s v (rws acts qs L pa pt pw) ys)(hN:N0<=w.heap.size)(hL:L.length<=5000)(Es:N0<=G)(hcs:cs=vX∨cs=kK):
 Calls prog 62 #[aH (aK ⟨G,0,aJ⟩),aC #[.int .i64 5,.int .i64 cu,.int .i64 cn,.int .i64 cm,.int .i64 cp,.int .i64 cf,.string ⟨cs.toArray⟩],aC #[.int .i64 (x.c:Int),.int .i64 x.n,aA d x.l.length cap],.int .i64 iv] w (AQ G N0 s v acts qs ys (lC L ⟨5,cu,cn,cm,cp,cf,cs⟩ x i) pa pt w):=by
 skip
 obtain⟨X,H,F1,F2,p,C⟩:=boxes2 w #[.int .i64 5,.int .i64 cu,.int .i64 cn,.int .i64 cm,.int .i64 cp,.int .i64 cf,.string ⟨cs.toArray⟩] 70 #[.int .i64 (x.c:Int),.int .i64 x.n,aA d x.l.length cap] 72;have m:=gO (hg.below C);have O:=gO (C.mono hN);have hN1:N0<=w.heap.size:=hN;obtain⟨q0,q1,q2,q3,q4,q5,q6⟩:=gA7 X;have z0:=H 0;have z1:=H 1;have z2:=H 2;simp only[gB,gC,gD]at z0 z1 z2;have TK:=gO (fun(g:Nat) (e:(aA pw.a L.length pw.c).ownBlock=aK g)=>(hg.o.lt (pU L pw) (by simp[rws]) g e).2);have WW:G<w.heap.size:=hg.lt;clear X H F1 F2 C hg;go_enter func62,ntmps62
 go_upto_region 1 with fail
 generalize (w.alloc _).alloc _=j at*;have ZU:G<j.heap.size:=m.out.lt;have hsz0:w.heap.size<j.heap.size:=by omega
 have k9:j.cell? ⟨G,9,aJ⟩=aK (aA pw.a L.length pw.c):=m.out.k 9;have Y:(aA pw.a L.length pw.c).ownBlock≠aK G:=λe=>(m.out.og (pU L pw) (by simp[rws]) G e).1 rfl
 have W:cs.length<=1000:=by rcases hcs with rfl | rfl <;> decide
 obtain⟨W2,N,r2,r3,r4,b2,b3⟩:=PX j [111,98] [112,97,105,114] cs 5 2 (oC cs) (by decide) (by decide) W rfl rfl λc R=>by
  rcases hcs with rfl | rfl
  ·have e:(DataW.lit (Lit.int .i64 c):DataW Unit)= .lit (.int .i64 5):=R.symm.trans rfl;simpa[oC]using e
  ·have e:(DataW.lit (Lit.int .i64 c):DataW Unit)= .lit (.int .i64 2):=R.symm.trans rfl;simpa[oC,vX,kK]using e
 obtain⟨W2p,z,r2p,r3p,r4p,Q,D⟩:=PX j [112,97,105,114] [111,98] cs 2 5 (oC cs) (by decide) (by decide) W rfl rfl λc R=>by
  rcases hcs with rfl | rfl
  ·have e:(DataW.lit (Lit.int .i64 c):DataW Unit)= .lit (.int .i64 5):=R.symm.trans rfl;simpa[oC]using e
  ·have e:(DataW.lit (Lit.int .i64 c):DataW Unit)= .lit (.int .i64 2):=R.symm.trans rfl;simpa[oC,vX,kK]using e
 clear hcs;go_upto_region 7 with fail
 have b1:Below j.heap.size j (j.alloc (.map #[] 0)).drew:=(aT j _).drew;have r1:(Instr.makeMap 196 aJ).run prog j.drew= .ok (.map (aK j.heap.size)) (j.alloc (.map #[] 0)).drew:=by rfl
 obtain⟨ti,V,J,P,T⟩:=info_parts yF;have y:∀A,Keeps w.heap.size j A->A.cell? ⟨w.heap.size+1,1,aJ⟩=aK (.int .i64 x.n)/\A.cell? ⟨w.heap.size,6,aJ⟩=aK (.string ⟨cs.toArray⟩)/\A.cell? ⟨w.heap.size,0,aJ⟩=aK (.int .i64 5):=λA h=>⟨h _ _ _ (.inr rfl) z1,h _ _ _ (.inl rfl) q6,h _ _ _ (.inl rfl) q0⟩
 have K0:Keeps w.heap.size j j.drew:=Keeps.below (gX _ _).drew p;have X:=Keeps.below b1 p;have k9a:j.drew.cell? ⟨G,9,aJ⟩=aK (aA pw.a L.length pw.c):=k9;have k9b:(j.alloc (.map #[] 0)).drew.cell? ⟨G,9,aJ⟩=aK (aA pw.a L.length pw.c):=(m.out.below b1).k 9;have H:=Keeps.below b2 p;have K3:=Keeps.below b3 p;have t:=gW b3 (aT N (aO #[.int .i64 x.n,.int .i64 (oC cs),.int .i64 5,.string ⟨cs.toArray⟩,.int .i64 0,.bool false] 52));have KB:=Keeps.below t p;have q:=gO (m.out.below t);have k9c:W2.cell? ⟨G,9,aJ⟩=aK (aA pw.a L.length pw.c):=(m.out.below b2).k 9;have k9d:N.cell? ⟨G,9,aJ⟩=aK (aA pw.a L.length pw.c):=(m.out.below b3).k 9;have k9e:(N.alloc (aO #[.int .i64 x.n,.int .i64 (oC cs),.int .i64 5,.string ⟨cs.toArray⟩,.int .i64 0,.bool false] 52)).cell? ⟨G,9,aJ⟩=aK (aA pw.a L.length pw.c):=q.out.k 9;have HB2:=gO (Below.trans O.out (t.mono (by omega:N0<=j.heap.size)));have zA:=gO (World.news_of_block (heap_alloc_new N (aO #[.int .i64 x.n,.int .i64 (oC cs),.int .i64 5,.string ⟨cs.toArray⟩,.int .i64 0,.bool false] 52)));have HO2:=gO (q.out.o.each (pU L pw) (by simp[rws]));have VH:=gI p t.size;have K2p:=Keeps.below Q p;have K3p:=Keeps.below D p;have I:=gW D (aT z (aO #[.int .i64 x.n,.int .i64 (oC cs),.int .i64 5,.string ⟨cs.toArray⟩,.int .i64 0,.bool false] 52));have U:=Keeps.below I p;have B:=gO (m.out.below I);have aPx:W2p.cell? ⟨G,9,aJ⟩=aK (aA pw.a L.length pw.c):=(m.out.below Q).k 9;have aPy:z.cell? ⟨G,9,aJ⟩=aK (aA pw.a L.length pw.c):=(m.out.below D).k 9;have aPz:(z.alloc (aO #[.int .i64 x.n,.int .i64 (oC cs),.int .i64 5,.string ⟨cs.toArray⟩,.int .i64 0,.bool false] 52)).cell? ⟨G,9,aJ⟩=aK (aA pw.a L.length pw.c):=B.out.k 9;have aLl:=gO (Below.trans O.out (I.mono (by omega:N0<=j.heap.size)));have Z:=gO (World.news_of_block (heap_alloc_new z (aO #[.int .i64 x.n,.int .i64 (oC cs),.int .i64 5,.string ⟨cs.toArray⟩,.int .i64 0,.bool false] 52)));have aLn:=gO (B.out.o.each (pU L pw) (by simp[rws]));have aHY:=gI p I.size;refine wp_region_held_drew (S:=λA=>A.cell? ⟨w.heap.size+1,1,aJ⟩=aK (.int .i64 x.n)/\A.cell? ⟨w.heap.size,6,aJ⟩=aK (.string ⟨cs.toArray⟩)/\A.cell? ⟨w.heap.size,0,aJ⟩=aK (.int .i64 5)) (by kernel_rfl) (y _ K0) (λhH0=> ?_)
 repeat' first
  |exact AllReadyH.nil
  |(refine wpAnyH_take (i:=0) (oi:=_) (v:= ?_) rfl (by kernel_rfl) (by kernel_rfl) (by decide+kernel) (λ_ _ _ h=>h) (Or.inl ⟨by rfl,?_⟩) (by assumption) ?_;rotate_left;(focus (intro r b;(try dsimp only at b);(try simp only[List.getElem_toArray,List.getElem_cons_succ,List.getElem_cons_zero]);go_simp <;> with_reducible rfl));(try simp only[List.getElem_toArray,List.getElem_cons_succ,List.getElem_cons_zero]);(try simp only[Act.put,gE,gG,gH]))
  |(refine wpAnyH_take (i:=1) (oi:=_) (v:= ?_) rfl (by kernel_rfl) (by kernel_rfl) (by decide+kernel) (λ_ _ _ h=>h) (Or.inl ⟨by rfl,?_⟩) (by assumption) ?_;rotate_left;(focus (intro r b;(try dsimp only at b);(try simp only[List.getElem_toArray,List.getElem_cons_succ,List.getElem_cons_zero]);go_simp <;> with_reducible rfl));(try simp only[List.getElem_toArray,List.getElem_cons_succ,List.getElem_cons_zero]);(try simp only[Act.put,gE,gG,gH]))
  |(refine wpAnyH_take (i:=2) (oi:=_) (v:= ?_) rfl (by kernel_rfl) (by kernel_rfl) (by decide+kernel) (λ_ _ _ h=>h) (Or.inl ⟨by rfl,?_⟩) (by assumption) ?_;rotate_left;(focus (intro r b;(try dsimp only at b);(try simp only[List.getElem_toArray,List.getElem_cons_succ,List.getElem_cons_zero]);go_simp <;> with_reducible rfl));(try simp only[List.getElem_toArray,List.getElem_cons_succ,List.getElem_cons_zero]);(try simp only[Act.put,gE,gG,gH]))
  |(refine wpAnyH_take (i:=3) (oi:=_) (v:= ?_) rfl (by kernel_rfl) (by kernel_rfl) (by decide+kernel) (λ_ _ _ h=>h) (Or.inl ⟨by rfl,?_⟩) (by assumption) ?_;rotate_left;(focus (intro r b;(try dsimp only at b);(try simp only[List.getElem_toArray,List.getElem_cons_succ,List.getElem_cons_zero]);go_simp <;> with_reducible rfl));(try simp only[List.getElem_toArray,List.getElem_cons_succ,List.getElem_cons_zero]);(try simp only[Act.put,gE,gG,gH]))
  |(refine wpAnyH_take (i:=5) (oi:=_) (v:= ?_) rfl (by kernel_rfl) (by kernel_rfl) (by decide+kernel) (λ_ _ _ h=>h) (Or.inl ⟨by rfl,?_⟩) (by assumption) ?_;rotate_left;(focus (intro r b;(try dsimp only at b);(try simp only[List.getElem_toArray,List.getElem_cons_succ,List.getElem_cons_zero]);go_simp <;> with_reducible rfl));(try simp only[List.getElem_toArray,List.getElem_cons_succ,List.getElem_cons_zero]);(try simp only[Act.put,gE,gG,gH]))
  |(refine wpAnyH_take (i:=6) (oi:=_) (v:= ?_) rfl (by kernel_rfl) (by kernel_rfl) (by decide+kernel) (λ_ _ _ h=>h) (Or.inl ⟨by rfl,?_⟩) (by assumption) ?_;rotate_left;(focus (intro r b;(try dsimp only at b);(try simp only[List.getElem_toArray,List.getElem_cons_succ,List.getElem_cons_zero]);go_simp <;> with_reducible rfl));(try simp only[List.getElem_toArray,List.getElem_cons_succ,List.getElem_cons_zero]);(try simp only[Act.put,gE,gG,gH]))
  |(refine wpAnyH_take (i:=10) (oi:=_) (v:= ?_) rfl (by kernel_rfl) (by kernel_rfl) (by decide+kernel) (λ_ _ _ h=>h) (Or.inl ⟨by rfl,?_⟩) (by assumption) ?_;rotate_left;(focus (intro r b;(try dsimp only at b);(try simp only[List.getElem_toArray,List.getElem_cons_succ,List.getElem_cons_zero]);go_simp <;> with_reducible rfl));(try simp only[List.getElem_toArray,List.getElem_cons_succ,List.getElem_cons_zero]);(try simp only[Act.put,gE,gG,gH]))
  |(refine wpAnyH_take (i:=11) (oi:=_) (v:= ?_) rfl (by kernel_rfl) (by kernel_rfl) (by decide+kernel) (λ_ _ _ h=>h) (Or.inl ⟨by rfl,?_⟩) (by assumption) ?_;rotate_left;(focus (intro r b;(try dsimp only at b);(try simp only[List.getElem_toArray,List.getElem_cons_succ,List.getElem_cons_zero]);go_simp <;> with_reducible rfl));(try simp only[List.getElem_toArray,List.getElem_cons_succ,List.getElem_cons_zero]);(try simp only[Act.put,gE,gG,gH]))
  |(refine wpAnyH_take (i:=12) (oi:=_) (v:= ?_) rfl (by kernel_rfl) (by kernel_rfl) (by decide+kernel) (λ_ _ _ h=>h) (Or.inl ⟨by rfl,?_⟩) (by assumption) ?_;rotate_left;(focus (intro r b;(try dsimp only at b);(try simp only[List.getElem_toArray,List.getElem_cons_succ,List.getElem_cons_zero]);go_simp <;> with_reducible rfl));(try simp only[List.getElem_toArray,List.getElem_cons_succ,List.getElem_cons_zero]);(try simp only[Act.put,gE,gG,gH]))
  |(refine wpAnyH_take (i:=14) (oi:=_) (v:= ?_) rfl (by kernel_rfl) (by kernel_rfl) (by decide+kernel) (λ_ _ _ h=>h) (Or.inl ⟨by rfl,?_⟩) (by assumption) ?_;rotate_left;(focus (intro r b;(try dsimp only at b);(try simp only[List.getElem_toArray,List.getElem_cons_succ,List.getElem_cons_zero]);go_simp <;> with_reducible rfl));(try simp only[List.getElem_toArray,List.getElem_cons_succ,List.getElem_cons_zero]);(try simp only[Act.put,gE,gG,gH]))
  |(refine wpAnyH_take (i:=15) (oi:=_) (v:= ?_) rfl (by kernel_rfl) (by kernel_rfl) (by decide+kernel) (λ_ _ _ h=>h) (Or.inl ⟨by rfl,?_⟩) (by assumption) ?_;rotate_left;(focus (intro r b;(try dsimp only at b);(try simp only[List.getElem_toArray,List.getElem_cons_succ,List.getElem_cons_zero]);go_simp <;> with_reducible rfl));(try simp only[List.getElem_toArray,List.getElem_cons_succ,List.getElem_cons_zero]);(try simp only[Act.put,gE,gG,gH]))
  |(refine wpAnyH_take (i:=16) (oi:=_) (v:= ?_) rfl (by kernel_rfl) (by kernel_rfl) (by decide+kernel) (λ_ _ _ h=>h) (Or.inl ⟨by rfl,?_⟩) (by assumption) ?_;rotate_left;(focus (intro r b;(try dsimp only at b);(try simp only[List.getElem_toArray,List.getElem_cons_succ,List.getElem_cons_zero]);go_simp <;> with_reducible rfl));(try simp only[List.getElem_toArray,List.getElem_cons_succ,List.getElem_cons_zero]);(try simp only[Act.put,gE,gG,gH]))
  |(refine wpAnyH_take (i:=17) (oi:=_) (v:= ?_) rfl (by kernel_rfl) (by kernel_rfl) (by decide+kernel) (λ_ _ _ h=>h) (Or.inl ⟨by rfl,?_⟩) (by assumption) ?_;rotate_left;(focus (intro r b;(try dsimp only at b);(try simp only[List.getElem_toArray,List.getElem_cons_succ,List.getElem_cons_zero]);go_simp <;> with_reducible rfl));(try simp only[List.getElem_toArray,List.getElem_cons_succ,List.getElem_cons_zero]);(try simp only[Act.put,gE,gG,gH]))
  |(refine wpAnyH_take (i:=18) (oi:=_) (v:= ?_) rfl (by kernel_rfl) (by kernel_rfl) (by decide+kernel) (λ_ _ _ h=>h) (Or.inl ⟨by rfl,?_⟩) (by assumption) ?_;rotate_left;(focus (intro r b;(try dsimp only at b);(try simp only[List.getElem_toArray,List.getElem_cons_succ,List.getElem_cons_zero]);go_simp <;> with_reducible rfl));(try simp only[List.getElem_toArray,List.getElem_cons_succ,List.getElem_cons_zero]);(try simp only[Act.put,gE,gG,gH]))
  |(refine wpAnyH_take (i:=21) (oi:=_) (v:= ?_) rfl (by kernel_rfl) (by kernel_rfl) (by decide+kernel) (λ_ _ _ h=>h) (Or.inl ⟨by rfl,?_⟩) (by assumption) ?_;rotate_left;(focus (intro r b;(try dsimp only at b);(try simp only[List.getElem_toArray,List.getElem_cons_succ,List.getElem_cons_zero]);go_simp <;> with_reducible rfl));(try simp only[List.getElem_toArray,List.getElem_cons_succ,List.getElem_cons_zero]);(try simp only[Act.put,gE,gG,gH]))
  |(refine wpAnyH_take (i:=22) (oi:=_) (v:= ?_) rfl (by kernel_rfl) (by kernel_rfl) (by decide+kernel) (λ_ _ _ h=>h) (Or.inl ⟨by rfl,?_⟩) (by assumption) ?_;rotate_left;(focus (intro r b;(try dsimp only at b);(try simp only[List.getElem_toArray,List.getElem_cons_succ,List.getElem_cons_zero]);go_simp <;> with_reducible rfl));(try simp only[List.getElem_toArray,List.getElem_cons_succ,List.getElem_cons_zero]);(try simp only[Act.put,gE,gG,gH]))
  |refine wpAnyH_ready (rs:=[4,7]) (by decide+kernel) (by simp) ?_
  |refine wpAnyH_ready (rs:=[7]) (by decide+kernel) (by simp) ?_
  |refine wpAnyH_ready (rs:=[4,8,9]) (by decide+kernel) (by simp) ?_
  |refine wpAnyH_ready (rs:=[8,9]) (by decide+kernel) (by simp) ?_
  |refine wpAnyH_ready (rs:=[4,9]) (by decide+kernel) (by simp) ?_
  |refine wpAnyH_ready (rs:=[9]) (by decide+kernel) (by simp) ?_
  |refine wpAnyH_ready (rs:=[4,8]) (by decide+kernel) (by simp) ?_
  |refine wpAnyH_ready (rs:=[8]) (by decide+kernel) (by simp) ?_
  |refine wpAnyH_ready (rs:=[4,13]) (by decide+kernel) (by simp) ?_
  |refine wpAnyH_ready (rs:=[13]) (by decide+kernel) (by simp) ?_
  |refine wpAnyH_ready (rs:=[4,19]) (by decide+kernel) (by simp) ?_
  |refine wpAnyH_ready (rs:=[19]) (by decide+kernel) (by simp) ?_
  |refine wpAnyH_ready (rs:=[4]) (by decide+kernel) (by simp) ?_
  |refine wpAnyH_ready (rs:=[20]) (by decide+kernel) (by simp) ?_
  |refine wpAnyH_ready (rs:=[23]) (by decide+kernel) (by simp) ?_
  |(refine AllReadyH.cons (o:=_) rfl (λK hK=> ?_) ?_;(focus ((try simp only[List.getElem_toArray,List.getElem_cons_succ,List.getElem_cons_zero]);(first | (rw[if_pos (by simp[Region.wanted])];refine wp_append_lies _ _ _ 45 rfl 0 52 ti (aC #[.int .i64 0,.int .i64 0,.int .i64 0,.string ⟨#[]⟩,.int .i64 0,.bool false]) 6 56 underlying45 V J P T rfl (by decide) (aA pw.a L.length pw.c) L.length (flat lY L) rfl HO2.out ⟨N.heap.size,0,aJ⟩ 1 1 [.int .i64 x.n,.int .i64 (oC cs),.int .i64 5,.string ⟨cs.toArray⟩,.int .i64 0,.bool false] rfl rfl zA.out (by simp[Value.oneCell']) (by decide) (by unfold maxLen;omega) (by omega) (gU _) _ rfl ?_;intro g7 u M F f E mQ;have KC:=KB.grown f VH TK.out;have k97:M.cell? ⟨G,9,aJ⟩=aK (aA pw.a L.length pw.c):=bV q.out.k q.out.lt f (λe=>Y e.symm) 9;have f97:M.frozen? ⟨G,9,aJ⟩=false:=bY q.out.fz q.out.lt f (λe=>Y e.symm) 9) | (rw[if_pos (by simp[Region.wanted])];refine wp_append_lies _ _ _ 45 rfl 0 52 ti (aC #[.int .i64 0,.int .i64 0,.int .i64 0,.string ⟨#[]⟩,.int .i64 0,.bool false]) 6 56 underlying45 V J P T rfl (by decide) (aA pw.a L.length pw.c) L.length (flat lY L) rfl aLn.out ⟨z.heap.size,0,aJ⟩ 1 1 [.int .i64 x.n,.int .i64 (oC cs),.int .i64 5,.string ⟨cs.toArray⟩,.int .i64 0,.bool false] rfl rfl Z.out (by simp[Value.oneCell']) (by decide) (by unfold maxLen;omega) (by omega) (gU _) _ rfl ?_;intro g7 u M F f E mQ;have KC:=U.grown f aHY TK.out;have k97:M.cell? ⟨G,9,aJ⟩=aK (aA pw.a L.length pw.c):=bV B.out.k B.out.lt f (λe=>Y e.symm) 9;have f97:M.frozen? ⟨G,9,aJ⟩=false:=bY B.out.fz B.out.lt f (λe=>Y e.symm) 9) | go_simp);refine hK.out _ _ (by first | exact y _ K0 | exact y _ X | exact y _ H | exact y _ K3 | exact y _ KB | exact y _ K2p | exact y _ K3p | exact y _ U | exact y _ KC | exact y _ (KC.set WW _ _)) (λhH1=> ?_);clear hK)))
 all_goals refine wpAnyH_done (by kernel_rfl) ?_ _
 all_goals first
  |(have hP:=xO q.out (gQ (by omega:N0<=j.heap.size) t.size) (⟨x.n,oC cs,5,cs,0,false⟩:Th) F f E mQ;have hB:=qI HB2.out (gQ (by omega:N0<=j.heap.size) t.size) q.out f Es (aA (aK ⟨g7,0,aJ⟩) (L.length+1) u);exact bodyPost_ret (v:=aG #[]) (by simp[results,results62,go_sem]) rfl ⟨_,rfl,hP,hB⟩)
  |(have hP:=xO B.out (gQ (by omega:N0<=j.heap.size) I.size) (⟨x.n,oC cs,5,cs,0,false⟩:Th) F f E mQ;have hB:=qI aLl.out (gQ (by omega:N0<=j.heap.size) I.size) B.out f Es (aA (aK ⟨g7,0,aJ⟩) (L.length+1) u);exact bodyPost_ret (v:=aG #[]) (by simp[results,results62,go_sem]) rfl ⟨_,rfl,hP,hB⟩)
theorem aBV (G N0:Nat)(s:Sy)(v:Sc)(acts:List Ac)(qs ys:List Aq)(L:List Th)(pa pt pw:Pl)(cu cn cm cp cf:Int)(cs:List UInt8)(x:An)(d:Option Addr)(cap i:Nat)(iv:Int)(w:World)(hg:fF w G N0 s v (rws acts qs L pa pt pw) ys)(hN:N0<=w.heap.size)(hL:L.length<=5000)(Es:N0<=G)(hl:x.l.length<=256)(hq:(⟨x,d,cap⟩:Aq)∈ys):
 Calls prog 62 #[aH (aK ⟨G,0,aJ⟩),aC #[aB aI 15,aB aI cu,aB aI cn,aB aI cm,aB aI cp,aB aI cf,aF ⟨cs.toArray⟩],aC #[aB aI (x.c:Int),aB aI x.n,aA d x.l.length cap],aB aI iv] w (AQ G N0 s v acts qs ys (lC L ⟨15,cu,cn,cm,cp,cf,cs⟩ x i) pa pt w):=by
 skip
 obtain⟨K1,S,F1,F2,hsz,z⟩:=boxes2 w #[aB aI 15,aB aI cu,aB aI cn,aB aI cm,aB aI cp,aB aI cf,aF ⟨cs.toArray⟩] 70 #[aB aI (x.c:Int),aB aI x.n,aA d x.l.length cap] 72;have u:=gO (hg.below z);have I:=gO (z.mono hN);have hN1:N0<=w.heap.size:=hN;obtain⟨q0,q1,q2,q3,q4,q5,U⟩:=gA7 K1;have z0:=S 0;have z1:=S 1;have z2:=S 2;simp only[gB,gC,gD]at z0 z1 z2;have TK:=gO (fun(g:Nat) (e:(aA pw.a L.length pw.c).ownBlock=aK g)=>(hg.o.lt (pU L pw) (by simp[rws]) g e).2);have WW:G<w.heap.size:=hg.lt;clear K1 S F1 F2 z hg;go_enter func62,ntmps62
 go_upto_region 1 with fail
 generalize (w.alloc _).alloc _=T at*;have ZU:G<T.heap.size:=u.out.lt;have hsz0:w.heap.size<T.heap.size:=by omega
 have k9:T.cell? ⟨G,9,aJ⟩=aK (aA pw.a L.length pw.c):=u.out.k 9;have Y:(aA pw.a L.length pw.c).ownBlock≠aK G:=λe=>(u.out.og (pU L pw) (by simp[rws]) G e).1 rfl
 obtain⟨b,r⟩:∃b:Nat->List Th,∀j,b j=L++(x.l.take j).map λp=>⟨p,5,5,cs,0,false⟩:=⟨_,λ_=>rfl⟩
 have Q:∀j,j<=x.l.length->(b j).length=L.length+j:=λj B=>by rw[r,gTb,gTe,gTc,Nat.min_eq_left B]
 have P:∀j (B:j<x.l.length),b (j+1)=b j++[⟨x.l[j],5,5,cs,0,false⟩]:=λj B=>by
  rw[r,r,List.append_assoc,<- List.take_append_getElem B,List.map_append];rfl
 have K:b 0=L:=by rw[r];simp
 have O:b x.l.length=lC L ⟨15,cu,cn,cm,cp,cf,cs⟩ x i:=by rw[r,List.take_length];rfl
 have X:=gO (And.intro Q (And.intro P O));have HQ:=gO hq;have H:=gO K;clear Q P O hq r K;go_wp2_with fail
 go_loopw [9,78] (λs9 A wr=>∃(j:Nat) (h:Pl),j<=x.l.length/\A=aB aI (j:Int)/\Hid (fF wr G N0 s v (rws acts qs (b j) pa pt h) ys)/\Hid (Below N0 w wr)/\Hid (wr.cell? ⟨w.heap.size,6,aJ⟩=aK (aF ⟨cs.toArray⟩))/\Hid (∀g,(aA h.a (b j).length h.c).ownBlock=aK g->g≠w.heap.size)/\T.heap.size<=wr.heap.size) (λ_ A _=>x.l.length-(intOf A).toNat)
 case atStart=>
  refine⟨0,pw,gU _,rfl,?_,I,U,λg e=> ?_,gT _⟩
  ·rw[H.out];exact u
  ·rw[H.out]at e;have:=TK.out g e;omega
 case round=>
  obtain⟨j,h,B,rfl,C,WZ,HQJ,E,hwj⟩:=hrel;clear u I q0 q1 q2 q3 q4 q5 U k9 ZU;by_cases M:j<x.l.length
  ·have hji:(j:Int)<x.l.length:=by omega
   obtain⟨bb,off,N,hbb,D⟩:=Ez (bJ (C.out.li _ HQ.out).1) (k:=j) M;have aEy:d=aK ⟨bb,off,aJ⟩:=N;have hbc':wr.cell? ⟨bb,off+j,aJ⟩=aK (aB aI x.l[j]):=D;have U:=HQJ.out;have hln:(b j).length<=5256:=by rw[X.out.1 j B];omega
   have ZU:G<wr.heap.size:=C.out.lt;have k9:wr.cell? ⟨G,9,aJ⟩=aK (aA h.a (b j).length h.c):=C.out.k 9;have Y:(aA h.a (b j).length h.c).ownBlock≠aK G:=λe=>(C.out.og (pU (b j) h) (by simp[rws]) G e).1 rfl
   have hls:=X.out.2.1 j M;have hwt:w.heap.size<wr.heap.size:=by omega
   generalize x.l[j]=y at*;subst aEy;clear N D;go_upto_region 12 with fail
   have t:Below wr.heap.size wr (wr.alloc (aO #[aB aI y,aB aI 5,aB aI 5,aF ⟨cs.toArray⟩,aB aI 0,.bool false] 52)).drew:=(aT wr _).drew;have f:=gO (C.out.below t);have HB2:=gO (Below.trans WZ.out (t.mono (by omega:N0<=wr.heap.size)));have zA:=gO (World.news_of_block (w:=(wr.alloc (aO #[aB aI y,aB aI 5,aB aI 5,aF ⟨cs.toArray⟩,aB aI 0,.bool false] 52)).drew) (heap_alloc_new wr _));have HO2:=gO (f.out.o.each (pU (b j) h) (by simp[rws]));obtain⟨ti,hti,V,Z,htb⟩:=info_parts yF;go_region_law (refine step_append_lies _ rfl _ _ 45 rfl 0 52 ti (aC #[aB aI 0,aB aI 0,aB aI 0,aF ⟨#[]⟩,aB aI 0,.bool false]) 6 56 underlying45 hti V Z htb rfl (by decide) (aA h.a (b j).length h.c) (b j).length (flat lY (b j)) rfl HO2.out ⟨wr.heap.size,0,aJ⟩ 1 1 [aB aI y,aB aI 5,aB aI 5,aF ⟨cs.toArray⟩,aB aI 0,.bool false] rfl rfl zA.out (by simp[Value.oneCell']) (by decide) (by unfold maxLen;omega) (by omega) (gU _) _ rfl ?_;intro F m R ho7 q J mQ;have k97:R.cell? ⟨G,9,aJ⟩=aK (aA h.a (b j).length h.c):=bV f.out.k f.out.lt q (λe=>Y e.symm) 9;have f97:R.frozen? ⟨G,9,aJ⟩=false:=bY f.out.fz f.out.lt q (λe=>Y e.symm) 9)
   all_goals
    have hP:=xO f.out (gQ (by omega:N0<=wr.heap.size) t.size) (⟨y,5,5,cs,0,false⟩:Th) ho7 q J mQ;have hB:=qI HB2.out (gQ (by omega:N0<=wr.heap.size) t.size) f.out q Es (aA (aK ⟨F,0,aJ⟩) ((b j).length+1) m);have hds:=t.size;have h67:=q.size;have hn7:∀g,(aA (aK ⟨F,0,aJ⟩) (b (j+1)).length m).ownBlock=aK g->g≠w.heap.size:=λg e=>by
     obtain rfl:F=g:=by simpa[gTh]using e
     rcases J with h2 | h2
     ·exact E.out _ h2
     ·omega
    have hq7:R.cell? ⟨w.heap.size,6,aJ⟩=aK (aF ⟨cs.toArray⟩):=(q.cell_far ⟨w.heap.size,6,aJ⟩ (show w.heap.size<_ by omega) (λe=>E.out _ e.symm rfl)).trans ((t.cell (p:=⟨w.heap.size,6,aJ⟩) hwt).trans U);have W:(R.setCell ⟨G,9,aJ⟩ (aA (aK ⟨F,0,aJ⟩) ((b j).length+1) m)).cell? ⟨w.heap.size,6,aJ⟩=aK (aF ⟨cs.toArray⟩):=by
     have hx:(⟨G,9,aJ⟩:Addr)≠⟨w.heap.size,6,aJ⟩:=λe=>by have:G=w.heap.size:=congrArg Addr.block e;omega
     exact(World.cell?_setCell_other _ _ _ _ hx).trans hq7
    go_wp2_with fail
    go_roundw
    case rel=>exact⟨j+1,⟨aK ⟨F,0,aJ⟩,m⟩,by omega,by go_num,by rw[hls];exact hP,hB,W,hn7,by simp;omega⟩
    case measure=>simp[intOf];omega
  ·obtain rfl:j=x.l.length:=by omega
   go_wp2_with fail
   exact bodyPost_ret (v:=aG #[]) (by simp[results,results62,go_sem]) rfl ⟨h,rfl,by rw[<- X.out.2.2];exact C.out,WZ.out⟩
end Go.Proofs.YtjaogfhcnmjkiaaGreatDoor
