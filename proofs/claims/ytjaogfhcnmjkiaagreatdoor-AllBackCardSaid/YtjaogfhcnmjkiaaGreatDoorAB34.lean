/- joined. -/
import Derived.Test.YtjaogfhcnmjkiaaGreatDoorAB28
set_option linter.all false
set_option maxRecDepth 100000
set_option maxHeartbeats 0
namespace Go.Proofs.YtjaogfhcnmjkiaaGreatDoor
open Go.RowKit
open Go.Value renaming slice->aA,int->aB,agg->aC,string->aF,tuple->aG,pointer->aH,ownBlock->gTh
open Go.IntKind renaming i64->aI
open Option renaming none->aJ,some->aK
open Go.Ending renaming returned->aN
open Go.Obj renaming cells->aO
open Go.Proofs.Tryz
theorem Qd {w:World}{b o:Nat}{c:Ac}(hc:∀i v,(mW c)[i]? =aK v->w.cell? ⟨b,o+i,aJ⟩=aK v):w.cell? ⟨b,o,aJ⟩=aK (aB aI c.k)/\w.cell? ⟨b,o+1,aJ⟩=aK (aB aI c.u)/\w.cell? ⟨b,o+2,aJ⟩=aK (aB aI c.n)/\w.cell? ⟨b,o+3,aJ⟩=aK (aB aI c.m)/\w.cell? ⟨b,o+4,aJ⟩=aK (aB aI c.p)/\w.cell? ⟨b,o+5,aJ⟩=aK (aB aI c.f)/\w.cell? ⟨b,o+6,aJ⟩=aK (aF ⟨c.s.toArray⟩):=⟨hc 0 _ rfl,hc 1 _ rfl,hc 2 _ rfl,hc 3 _ rfl,hc 4 _ rfl,hc 5 _ rfl,hc 6 _ rfl⟩
def aLx (tells:List An)(sE:Sy)(w:World)(ev:Ending)(w':World):Prop:=
 ∃(a:Sc) (qs:List Aq) (d:Option Addr) (b:Nat),ev=aN (aG #[aA d tells.length b,aC #[aA a.a1 a.n1 a.c1,aA a.hc.az 2 a.hc.cz,aA a.hc.am 2 a.hc.cm,aB aI (sE.h.aP:Int),aA a.hc.al a.hc.lc.length a.hc.cl,aA a.hc.av sE.h.live.length a.hc.cv,aA a.a2 a.ys.length a.c2],aB aI 0])/\qs.map (·.x)=tells/\w'.ownsRow w.heap.size 72 3 (aA d tells.length b) tells.length (flat xM qs)/\lX w' (λk=>(aA d tells.length b).ownBlock=aK k) qs/\iI w' w.heap.size sE a/\Below w.heap.size w w'
def aC0 (P:Sy->Ac->Sy×An->Prop):Prop:=∀(v:Sc) (s:Sy) (c:Ac) (r:Sy×An) (W:World),nO W v s->Ii s->vP W->Bg W->P s c r->Calls prog 60 #[aC #[aA v.a1 v.n1 v.c1,aA v.hc.az 2 v.hc.cz,aA v.hc.am 2 v.hc.cm,aB aI (s.h.aP:Int),aA v.hc.al v.hc.lc.length v.hc.cl,aA v.hc.av s.h.live.length v.hc.cv,aA v.a2 v.ys.length v.c2],aC #[aB aI c.k,aB aI c.u,aB aI c.n,aB aI c.m,aB aI c.p,aB aI c.f,aF ⟨c.s.toArray⟩]] W (aBP v s r W)
theorem aEF (P:Sy->Ac->Sy×An->Prop)(h:Hp)(hk:fG h)(u0 u1 u2 u3 u4:Value)(a:Option Addr)(n cap:Nat)(acts:List Ac)(tells:List An)(sE:Sy)(w:World)(ho:vP w)(hsz:Bg w)
 (hnew:∀W,Below w.heap.size w W->Calls prog 20 #[aC #[u0,u1,u2,u3,u4]] W (AA h W)) (hl:acts.length=n) (hn:n<=300) (hr:Row w a (flat mW acts)) (hact:aC0 P) (hrun:Run P sE (dW h 6) acts tells) (hge:Ii sE):
 Calls prog 27 #[aC #[u0,u1,u2,u3,u4],aA a n cap] w (aLx tells sE w):=by
 obtain⟨K1,K2,F1,F2,Y,J⟩:=boxes2 w #[u0,u1,u2,u3,u4] 29 #[aA aJ 0 0,aA aJ 0 0,aA aJ 0 0,aB aI 0,aA aJ 0 0,aA aJ 0 0,aA aJ 0 0] 42;have nP:=gO (hnew _ J);have HN:=gO hnew;have HO:=gO (ho.below J);have kH:=gO (hsz.below J);have HR:=gO (hr.below J);have aLy:=gO hact;have aAg:=gO hrun;have HGE:=gO hge;have hlt:tells.length=n:=by rw[<- hrun.len,hl]
 have I:=gO hlt;have HL:=gO hl;have hn3:¬(300:Int)<n:=by omega
 have HB1:=gO J;have HK2:=gO K2;have HF2:=gO F2;unfold AA at nP;obtain⟨k0,k1,k2,k3,k4⟩:=gA5 K1;clear K1 K2 F1 F2 J ho hsz hnew hr hact hrun hge hlt hl;have hwN:=LZ hk;have HWN:=gO hwN;clear hwN;obtain⟨R,hS0⟩:∃R,dW h 6=R:=⟨_,rfl⟩
 change Hid (Calls prog 20 _ _ λev w'=>∃z,ev=aN (aG #[.agg (z.vals (dW h 6)),aB aI 0])/\iI w' _ (dW h 6) z/\Below _ _ w')at nP;rw[hS0]at nP aAg HWN;clear hS0;go_enter func27,ntmps27
 go_upto_region 1 with fail
 generalize (w.alloc _).alloc _=E at*;go_upto_region 2 with (go_at_call 20;refine nP.out.mono ?_;rintro ev w2 ⟨y,he,hn2,hb2⟩;(replace he:ev=aN (aG #[aC #[aA y.a1 y.n1 y.c1,aA y.hc.az 2 y.hc.cz,aA y.hc.am 2 y.hc.cm,aB aI (R.h.aP:Int),aA y.hc.al y.hc.lc.length y.hc.cl,aA y.hc.av R.h.live.length y.hc.cv,aA y.a2 y.ys.length y.c2],aB aI 0]):=he);subst he)
 clear k0 k1 k2 k3 k4 nP;have HS3:=gO (iI.box hn2);have hb3:=gW hb2 (aT w2 (aO #[aA y.a1 y.n1 y.c1,aA y.hc.az 2 y.hc.cz,aA y.hc.am 2 y.hc.cm,aB aI (R.h.aP:Int),aA y.hc.al y.hc.lc.length y.hc.cl,aA y.hc.av R.h.live.length y.hc.cv,aA y.a2 y.ys.length y.c2] 42));have hbx:w2.heap.size<(w2.alloc (aO #[aA y.a1 y.n1 y.c1,aA y.hc.az 2 y.hc.cz,aA y.hc.am 2 y.hc.cm,aB aI (R.h.aP:Int),aA y.hc.al y.hc.lc.length y.hc.cl,aA y.hc.av R.h.live.length y.hc.cv,aA y.a2 y.ys.length y.c2] 42)).heap.size:=by simp
 have HB3:=gO hb3;have hsz2:=hb2.size;clear hn2 hb2 hb3;generalize w2.alloc _=w3 at*;generalize w2.heap.size=B at*;go_upto_region 7 with fail
 go_wp2_with fail
 go_loopw [9,28] (λs9 s28 wr=>∃(j:Nat) (s:Sy) (v:Sc) (qs:List Aq) (d:Option Addr) (F:Nat),j<=n/\s28=aB aI (j:Int)/\s9=aA d j F/\Hid (Run P sE s (acts.drop j) (tells.drop j))/\Hid (qs.map (·.x)=tells.take j)/\Hid (SS wr B (λk=>k<E.heap.size∨(aA d j F).ownBlock=aK k) s v)/\Hid (wr.ownsRow w3.heap.size 72 3 (aA d j F) j (flat xM qs))/\Hid (lX wr (λk=>(k<E.heap.size∨k=B)∨(aA d j F).ownBlock=aK k) qs)/\w3.heap.size<=wr.heap.size/\Hid (Below E.heap.size E wr)) (λ_ s28 _=>n-(intOf s28).toNat)
 case atStart=>
  exact⟨0,R,y,[],aJ,0,gU _,rfl,rfl,aAg.out,rfl,HS3.out.sub (λk hk=>hk.resolve_right (by simp[gTh])),World.ownsRow_nil _ _ _ _,lX.nil _ _,gT _,HB3.out⟩
 case round=>
  obtain⟨j,s,v,qs,d,F,hj,rfl,rfl,V,U,Xh,Hz,HLJ,hwj,WZ⟩:=hrel;clear HS3 HB3;by_cases hlt:j<n
  ·have hji:(j:Int)<n:=by omega
   have hja:j<acts.length:=by have:=HL.out;omega
   have hjt:j<tells.length:=by have:=I.out;omega
   obtain⟨bb,off,ha1,hbb,hbc⟩:=aZ Mc (by decide) (HR.out.below WZ.out) hja;obtain rfl:=ha1;obtain⟨t,hd,hg,hrn⟩:=Run.step hja hjt V.out;have HTK:=gO (show(qs.map (·.x))++[tells[j]]=tells.take (j+1)by rw[U.out];exact List.take_append_getElem hjt);generalize acts[j]=c at*;generalize tells[j]=x at*;obtain⟨c0,c1,c2,c3,c4,c5,c6⟩:=Qd hbc;have HD:=gO hd;have HG:=gO hg;have HRN:=gO hrn;clear hd hg hrn hbc V U;go_upto_region 11 with fail
   obtain⟨KA,K,FA,FX,N,WR⟩:=boxes2 wr #[aB aI c.k,aB aI c.u,aB aI c.n,aB aI c.m,aB aI c.p,aB aI c.f,aF ⟨c.s.toArray⟩] 70 #[aB aI 0,aB aI 0,aA aJ 0 0] 72;have D:=gO (Xh.out.new WR);have HO4:=gO (own_below Hz.out WR (gT _));have HL4:=gO ((HLJ.out.more (M:=λk=>((k<E.heap.size∨k=B)∨(aA d j F).ownBlock=aK k)∨wr.heap.size<=k) λk hk=>hk).below WR);have hOl:∀g,(aA d j F).ownBlock=aK g->w3.heap.size<=g/\g<wr.heap.size:=λg e=>Hz.out.lt g e
   have O:=gO hOl;clear hOl;have Z:=gO (gW WZ.out WR);have hw4:=WR.size;have hBw:=Xh.out.r.hr.gs;clear Xh Hz HLJ WZ c0 c1 c2 c3 c4 c5 c6 hbb WR;generalize (wr.alloc _).alloc _=w4 at*;have TS:=gO K;have HFX:=gO FX;obtain⟨q0,q1,q2,q3,q4,q5,q6⟩:=gA7 KA;obtain⟨g0,g1,g2,g3,g4,g5,g6⟩:=gA7 D.out.k;have HA:=gO (aLy.out v s c (t,x) w4 D.out.r.at HG.out (HO.out.below Z.out) (kH.out.below Z.out) HD.out);unfold aBP at HA;clear K KA FA FX HD;go_upto_region 12 with (go_at_call 60;refine HA.out.mono ?_;rintro ev w5 ⟨z,H,o,rfl,htr,A,ho5⟩;unfold Sc.vals;have KB:=gO (aQ D.out.k D.out.r.hr.gs A);have FB:=gO (aU D.out.fz D.out.r.hr.gs A);have Q:=gO (aQ TS.out N A);have FT:=gO (aU HFX.out N A);have y0:=KB.out 0;have y1:=KB.out 1;have y2:=KB.out 2;have y3:=KB.out 3;have y4:=KB.out 4;have y5:=KB.out 5;have y6:=KB.out 6;have f0:=FB.out 0;have f1:=FB.out 1;have f2:=FB.out 2;have f3:=FB.out 3;have f4:=FB.out 4;have f5:=FB.out 5;have f6:=FB.out 6;have z0:=Q.out 0;have z1:=Q.out 1;have z2:=Q.out 2;have e0:=FT.out 0;have e1:=FT.out 1;have e2:=FT.out 2;unfold Sc.vals at y0 y1 y2 y3 y4 y5 y6;simp only[gB,gC,gD]at y0 y1 y2 y3 y4 y5 y6 z0 z1 z2)
   have hBne:(aA d j F).ownBlock≠aK B:=λe=>by have:=(O.out _ e).1;omega
   have aAc:(aA d j F).ownBlock≠aK (wr.heap.size+1):=λe=>by have:=(O.out _ e).2;omega
   have JV:=ho5.lt;have K:=aW (aW (aW (mX (T:=B) Q.out (show wr.heap.size+1≠B by omega) z t) 0 (aB aI (x.c:Int))) 1 (aB aI x.n)) 2 (aA H x.l.length o);simp only[gE,gG,gH]at K;have HS6:=gO ((((SS.put7 (htr B _ D.out.r) KB.out FB.out).dQ (g:=wr.heap.size+1) (.inr ⟨Nat.le_succ _,N⟩) 0 (aB aI (x.c:Int))).dQ (g:=wr.heap.size+1) (.inr ⟨Nat.le_succ _,N⟩) 1 (aB aI x.n)).dQ (g:=wr.heap.size+1) (.inr ⟨Nat.le_succ _,N⟩) 2 (aA H x.l.length o));have HO6:=gO (bU (bU (bU (uH (own_below HO4.out A (gT _)) hBne z t) aAc (i:=0) (aB aI (x.c:Int))) aAc (i:=1) (aB aI x.n)) aAc (i:=2) (aA H x.l.length o));have hdB:(aA H x.l.length o).ownBlock≠aK B:=λe=>by have:=(JV _ e).1;omega
   have S:(aA H x.l.length o).ownBlock≠aK (wr.heap.size+1):=λe=>by have:=(JV _ e).1;omega
   have ho6:=own_base (bU (bU (bU (uH ho5 hdB z t) S (i:=0) (aB aI (x.c:Int))) S (i:=1) (aB aI x.n)) S (i:=2) (aA H x.l.length o)) (gU _);have HL6:=gO ((((((HL4.out.below A).put7 (T:=B) (.inl (.inl (.inr rfl))) z t).set (b:=wr.heap.size+1) (.inr (Nat.le_succ _)) 0 (aB aI (x.c:Int))).set (b:=wr.heap.size+1) (.inr (Nat.le_succ _)) 1 (aB aI x.n)).set (b:=wr.heap.size+1) (.inr (Nat.le_succ _)) 2 (aA H x.l.length o)).sub (M:=λk=>(k<E.heap.size∨k=B)∨(aA d j F).ownBlock=aK k) λk hk=> .inl hk);have aIc:=gO (HL6.out.snoc (q:=⟨x,H,o⟩) ho6 λg hg hN=>by
    have h1:w4.heap.size<=g:=(JV _ hg).1;rcases hN with (h2 | h2) | h2
    ·omega
    ·omega
    ·have:=(O.out _ h2).2;omega)
   have HB6:=gO (Below.setCell (Below.setCell (Below.setCell (dX (T:=B) (gW Z.out A) hsz2 z t) (show E.heap.size<=(⟨wr.heap.size+1,0,aJ⟩:Addr).block by show E.heap.size<=wr.heap.size+1;omega) (aB aI (x.c:Int))) (show E.heap.size<=(⟨wr.heap.size+1,1,aJ⟩:Addr).block by show E.heap.size<=wr.heap.size+1;omega) (aB aI x.n)) (show E.heap.size<=(⟨wr.heap.size+1,2,aJ⟩:Addr).block by show E.heap.size<=wr.heap.size+1;omega) (aA H x.l.length o));have hw6:w4.heap.size<=((((((((((w5.setCell ⟨B,0,aJ⟩ (aA z.a1 z.n1 z.c1)).setCell ⟨B,1,aJ⟩ (aA z.hc.az 2 z.hc.cz)).setCell ⟨B,2,aJ⟩ (aA z.hc.am 2 z.hc.cm)).setCell ⟨B,3,aJ⟩ (aB aI (t.h.aP:Int))).setCell ⟨B,4,aJ⟩ (aA z.hc.al z.hc.lc.length z.hc.cl)).setCell ⟨B,5,aJ⟩ (aA z.hc.av t.h.live.length z.hc.cv)).setCell ⟨B,6,aJ⟩ (aA z.a2 z.ys.length z.c2)).setCell ⟨wr.heap.size+1,0,aJ⟩ (aB aI (x.c:Int))).setCell ⟨wr.heap.size+1,1,aJ⟩ (aB aI x.n)).setCell ⟨wr.heap.size+1,2,aJ⟩ (aA H x.l.length o)).heap.size:=by
    have:=A.size;simp;omega
   clear A ho5 htr KB FB Q FT y0 y1 y2 y3 y4 y5 y6 f0 f1 f2 f3 f4 f5 f6 e0 e1 e2 z0 z1 z2 D HO4 HL4 Z HL6 hdB S ho6 JV HA TS HFX;generalize (((((((((w5.setCell _ _).setCell _ _).setCell _ _).setCell _ _).setCell _ _).setCell _ _).setCell _ _).setCell _ _).setCell _ _).setCell _ _=w6 at*;clear w5;have z0:=K 0;have z1:=K 1;have z2:=K 2;simp only[gB,gC,gD]at z0 z1 z2;have TS:=gO K;clear K;have ba:=aT w6 (aO #[aB aI (x.c:Int),aB aI x.n,aA H x.l.length o] 72);have HS7:=gO (HS6.out.below ba);have HO7:=gO (own_below HO6.out ba (gT _));have HL7:=gO ((aIc.out.more (M:=λk=>((k<E.heap.size∨k=B)∨(aA d j F).ownBlock=aK k)∨w6.heap.size<=k) λk hk=>hk).below ba);have HB7:=gO (gW HB6.out ba);have zA:=gO (World.news_of_block (heap_alloc_new w6 (aO #[aB aI (x.c:Int),aB aI x.n,aA H x.l.length o] 72)));have hw7:w3.heap.size<=(w6.alloc (aO #[aB aI (x.c:Int),aB aI x.n,aA H x.l.length o] 72)).heap.size:=by have:=ba.size;omega
   have aDI:=ba.size;obtain⟨ti,hti,htz,hts,htb⟩:=info_parts Uj;clear ba HS6 HO6 aIc HB6;go_wp2_with (at_builtin;refine wpList_append_lies _ rfl _ _ 44 rfl w3.heap.size 72 ti (aC #[aB aI 0,aB aI 0,aA aJ 0 0]) 3 40 underlying44 hti htz hts htb rfl (by decide) (aA d j F) j (flat xM qs) rfl HO7.out ⟨w6.heap.size,0,aJ⟩ 1 1 [aB aI (x.c:Int),aB aI x.n,aA H x.l.length o] rfl rfl zA.out (by simp[Value.oneCell']) (by decide) (by unfold maxLen;omega) (by omega) hw7 _ rfl ?_;intro g7 L w7 ho7 X hl7 mQ)
   have HS8:Hid (SS w7 B (λk=>k<E.heap.size∨(aA (aK ⟨g7,0,aJ⟩) (j+1) L).ownBlock=aK k) t z):=HS7.out.out X (λk e=> .inl (.inr e)) λk hk=>by
    rcases hk with h | h
    ·exact .inl (.inl (.inl h))
    ·obtain rfl:g7=k:=by simpa[gTh]using h
     rcases hl7 with h1 | h1
     ·exact .inl (.inl (.inr h1))
     ·exact .inr ⟨Nat.le_of_eq h1.symm,mQ⟩
   have HL8:=gO ((HL7.out.grown X λg e=> .inl (.inr e)).sub (M:=λk=>(k<E.heap.size∨k=B)∨(aA (aK ⟨g7,0,aJ⟩) (j+1) L).ownBlock=aK k) λk hk=>by
    rcases hk with h | h
    ·exact .inl (.inl h)
    ·obtain rfl:g7=k:=by simpa[gTh]using h
     rcases hl7 with h1 | h1
     ·exact .inl (.inr h1)
     ·exact .inr (by omega))
   have HB8:Hid (Below E.heap.size E w7):=Below.grown HB7.out X HB7.out.size λk e=>by
    have:=(O.out k e).1;omega
   have aPH:=X.size;refine⟨⟨j+1,t,z,qs++[⟨x,H,o⟩],aK ⟨g7,0,aJ⟩,L,by omega,by go_num,rfl,HRN.out,?_,HS8,?_,HL8,by omega,HB8⟩,by simp[intOf];omega⟩
   ·rw[List.map_append];exact HTK.out
   ·rw[bG];exact ho7
  ·obtain rfl:j=n:=by omega
   have hse:s=sE:=by
    have h9:=V.out;rw[List.drop_eq_nil_of_le (by have:=HL.out;omega),List.drop_eq_nil_of_le (by have:=I.out;omega)]at h9;exact h9.done
   subst hse;have HQE:Hid (qs.map (·.x)=tells):=by
    have h9:=U.out;rw[gTf (by have:=I.out;omega)]at h9;exact h9
   clear V U;obtain⟨g0,g1,g2,g3,g4,g5,g6⟩:=gA7 Xh.out.k;have Ot:Hid (Calls prog 12 #[aC #[aA v.a1 v.n1 v.c1,aA v.hc.az 2 v.hc.cz,aA v.hc.am 2 v.hc.cm,aB aI (s.h.aP:Int),aA v.hc.al v.hc.lc.length v.hc.cl,aA v.hc.av s.h.live.length v.hc.cv,aA v.a2 v.ys.length v.c2]] wr λev w'=>∃z,ev=aN (aC #[aA z.a1 z.n1 z.c1,aA z.hc.az 2 z.hc.cz,aA z.hc.am 2 z.hc.cm,aB aI (s.h.aP:Int),aA z.hc.al z.hc.lc.length z.hc.cl,aA z.hc.av s.h.live.length z.hc.cv,aA z.a2 z.ys.length z.c2])/\iI w' wr.heap.size s z/\Below wr.heap.size wr w'):=qV v s wr Xh.out.r.at HGE.out.ok (λc hc=>gQ (HGE.out.nm c hc) (by decide));have HKR:=gO (aQ HK2.out Y WZ.out);have yX:=gO (aU HF2.out Y WZ.out);have hsr:=gI Y WZ.out.size;go_wp2_with (go_at_call 12;refine Ot.out.mono ?_;rintro ev w5 ⟨C,rfl,hn5,A⟩;have Q:=aQ HKR.out hsr A;have FT:=aU yX.out hsr A;obtain⟨y0,y1,y2,y3,y4,y5,y6⟩:=gA7 Q;obtain⟨f0,f1,f2,f3,f4,f5,f6⟩:=gF7 FT;skip)
   all_goals
    have K:=qU Q C s;have pO:=gO (iI.put7 (T:=w.heap.size+1) (G:=w.heap.size) hn5 hsr (by omega));have kP:=gO (dX (T:=w.heap.size+1) (gW (Below.trans HB1.out (WZ.out.mono HB1.out.size)) A) (Nat.le_succ _) C s);have hOd:(aA d j F).ownBlock≠aK (w.heap.size+1):=λe=>by have:=(Hz.out.lt _ e).1;omega
    have HOX:=gO (own_base (uH (T:=w.heap.size+1) (own_below Hz.out A (gT _)) hOd C s) (show w.heap.size<=w3.heap.size by omega));have HLX:=gO ((lX.put7 (T:=w.heap.size+1) (HLJ.out.below A) (.inl (.inl Y)) C s).sub (M:=λk=>(aA d j F).ownBlock=aK k) λk hk=> .inr hk);clear Q FT y0 y1 y2 y3 y4 y5 y6 f0 f1 f2 f3 f4 f5 f6 hn5 A;go_wp2_with fail
    generalize ((((((w5.setCell _ _).setCell _ _).setCell _ _).setCell _ _).setCell _ _).setCell _ _).setCell _ _=wx at*;exact bodyPost_ret (v:=aG #[aA d j F,aC #[aA C.a1 C.n1 C.c1,aA C.hc.az 2 C.hc.cz,aA C.hc.am 2 C.hc.cm,aB aI (s.h.aP:Int),aA C.hc.al C.hc.lc.length C.hc.cl,aA C.hc.av s.h.live.length C.hc.cv,aA C.a2 C.ys.length C.c2],aB aI 0]) (by simp[results,results27,go_sem,K]) rfl ⟨C,qs,d,F,by rw[I.out],HQE.out,by rw[I.out];exact HOX.out,by rw[I.out];exact HLX.out,pO.out,kP.out⟩
inductive DnD (s:Sy):Ac->Sy×An->Prop where
 |drain (u:Nat) (n:List UInt8):DnD s ⟨12,u,0,0,0,0,n⟩ ({s with h:=s.h.drain},⟨0,0,[]⟩)
theorem aB7 (v:Sc)(s:Sy)(ak au an am ap af:Int)(az:List UInt8)(r:Sy×An)(w:World)(hs:nO w v s)(hg:Ii s)(ho:vP w)(hsz:Bg w)(hd:DnD s ⟨ak,au,an,am,ap,af,az⟩ r):
 Calls prog 60 #[aC #[aA v.a1 v.n1 v.c1,aA v.hc.az 2 v.hc.cz,aA v.hc.am 2 v.hc.cm,aB aI (s.h.aP:Int),aA v.hc.al v.hc.lc.length v.hc.cl,aA v.hc.av s.h.live.length v.hc.cv,aA v.a2 v.ys.length v.c2],aC #[aB aI ak,aB aI au,aB aI an,aB aI am,aB aI ap,aB aI af,aF ⟨az.toArray⟩]] w (aBP v s r w):=by
 obtain⟨L,I⟩:∃L:List (Array Value×TypeId),L=[(#[aA v.a1 v.n1 v.c1,aA v.hc.az 2 v.hc.cz,aA v.hc.am 2 v.hc.cm,aB aI (s.h.aP:Int),aA v.hc.al v.hc.lc.length v.hc.cl,aA v.hc.av s.h.live.length v.hc.cv,aA v.a2 v.ys.length v.c2],42),(#[aB aI ak,aB aI au,aB aI an,aB aI am,aB aI ap,aB aI af,aF ⟨az.toArray⟩],70),(#[aA aJ 0 0,aA aJ 0 0,aA aJ 0 0,aB aI 0,aA aJ 0 0,aA aJ 0 0,aA aJ 0 0],42),(#[aB aI 0,aB aI 0,aA aJ 0 0],72),(#[aA v.a1 v.n1 v.c1,aA v.hc.az 2 v.hc.cz,aA v.hc.am 2 v.hc.cm,aB aI (s.h.aP:Int),aA v.hc.al v.hc.lc.length v.hc.cl,aA v.hc.av s.h.live.length v.hc.cv,aA v.a2 v.ys.length v.c2],42),(#[aB aI 0,aB aI 0,aA aJ 0 0],72)]:=⟨_,rfl⟩
 have K:((((((w.alloc (aO #[aA v.a1 v.n1 v.c1,aA v.hc.az 2 v.hc.cz,aA v.hc.am 2 v.hc.cm,aB aI (s.h.aP:Int),aA v.hc.al v.hc.lc.length v.hc.cl,aA v.hc.av s.h.live.length v.hc.cv,aA v.a2 v.ys.length v.c2] 42)).alloc (aO #[aB aI ak,aB aI au,aB aI an,aB aI am,aB aI ap,aB aI af,aF ⟨az.toArray⟩] 70)).alloc (aO #[aA aJ 0 0,aA aJ 0 0,aA aJ 0 0,aB aI 0,aA aJ 0 0,aA aJ 0 0,aA aJ 0 0] 42)).alloc (aO #[aB aI 0,aB aI 0,aA aJ 0 0] 72)).alloc (aO #[aA v.a1 v.n1 v.c1,aA v.hc.az 2 v.hc.cz,aA v.hc.am 2 v.hc.cm,aB aI (s.h.aP:Int),aA v.hc.al v.hc.lc.length v.hc.cl,aA v.hc.av s.h.live.length v.hc.cv,aA v.a2 v.ys.length v.c2] 42)).alloc (aO #[aB aI 0,aB aI 0,aA aJ 0 0] 72))=lay w L:=by rw[I];rfl
 have hl6:L.length=6:=by rw[I];rfl
 obtain⟨U,hz1⟩:=CS w L;have Z:=pR w L 0 (by omega);have B1:=pR w L 1 (by omega);have B2:=pR w L 2 (by omega);have B3:=pR w L 3 (by omega);have B4:=pR w L 4 (by omega);have B5:=pR w L 5 (by omega);simp only[I,List.getElem_cons_zero,List.getElem_cons_succ,Nat.add_zero]at Z B1 B2 B3 B4 B5;rw[<- I]at Z B1 B2 B3 B4 B5;rw[hl6]at hz1;clear I;have M:=gO K;clear K;generalize lay w L=E at*;have m:=gO U;have p:=gO (And.intro Z (And.intro B2 (And.intro B3 (And.intro B4 B5))));obtain⟨K1,F1⟩:=B1;obtain⟨K0,F0⟩:=Z;obtain⟨k0,k1,k2,k3,k4,k5,k6⟩:=gA7 K0;obtain⟨q0,q1,q2,X,q4,Y,q6⟩:=gA7 K1;have HQ1:=gO K1;clear K0 K1 F0 F1 B2 B3 B4 B5 U;go_enter func60,ntmps60
 go_upto_region 3 with fail
 rw[M.out];clear M;rw[show w.heap.size+1+1+1+1+1=w.heap.size+5 from rfl,show w.heap.size+1+1+1+1=w.heap.size+4 from rfl,show w.heap.size+1+1+1=w.heap.size+3 from rfl,show w.heap.size+1+1=w.heap.size+2 from rfl];go_upto_block 0 with fail
 go_cut [] (λwx=>vF v s r w wx)
 case rest=>
  obtain⟨W,rfl⟩:∃W,W=wc:=⟨_,rfl⟩
  have a:=gO hcut;obtain⟨d,f,A,H⟩:=hcut.x;have x0:=A 0;simp only[gB,gC]at x0;have t:=hcut.no;have q:=hcut.ok;have B:=gO H;have i:=gO A;have HW:=gO (show w.heap.size+6<=W.heap.size from hcut.gs);obtain⟨s',x⟩:=r;obtain⟨c,D,l⟩:=x;simp only at x0 t q B i;clear hcut A H;by_cases hc:c=0
  ·obtain⟨g,S,V⟩:=q hc;have C:(c:Int)=0:=by omega
   have j:=gO S;have WY:=gO V;clear q t S V;go_upto_region 31 with fail
   have Q:=j.out 0;have R:=j.out 1;have P:=j.out 2;have F:=j.out 3;have J:=j.out 4;have T:=j.out 5;have O:=j.out 6;unfold Sc.vals at Q R P F J T O;have y0:=i.out 0;have y1:=i.out 1;have y2:=i.out 2;have q0:=a.out.k2 0;have q1:=a.out.k2 1;have q2:=a.out.k2 2;have X:=a.out.k2 3;have q4:=a.out.k2 4;have Y:=a.out.k2 5;have q6:=a.out.k2 6;have z0:=a.out.k3 0;have z1:=a.out.k3 1;have z2:=a.out.k3 2;have f0:=a.out.f2 0;have f1:=a.out.f2 1;have f2:=a.out.f2 2;have f3:=a.out.f2 3;have f4:=a.out.f2 4;have f5:=a.out.f2 5;have f6:=a.out.f2 6;have e0:=a.out.f3 0;have e1:=a.out.f3 1;have e2:=a.out.f3 2;simp only[gB,gC,gD]at Q R P F J T O y0 y1 y2 q0 q1 q2 X q4 Y q6 z0 z1 z2;have Md:=gO (AP (X0:=aB aI (c:Int)) (X1:=aB aI D) (X2:=aA d l.length f) a.out.b a.out.gs WY.out a.out.k2 a.out.k3 B.out);have HC:=gO hc;clear C x0 hc;go_cut [] (λwx=>PN v s s' g w wx (aB aI (c:Int)) (aB aI D) (aA d l.length f) 3 l.length (aA d l.length f) (l.map vI))
   case first=>
    go_region_law fail
    all_goals (go_wp2_with fail)
    all_goals go_meet
    all_goals exact Md.out
   case rest=>
    have KX:=hcut.k;have KY:=hcut.y;have z:=gO hcut;clear hcut;go_wp2_with fail
    exact bodyPost_ret (v:=aG #[aC #[aA g.a1 g.n1 g.c1,aA g.hc.az 2 g.hc.cz,aA g.hc.am 2 g.hc.cm,aB aI (s'.h.aP:Int),aA g.hc.al g.hc.lc.length g.hc.cl,aA g.hc.av s'.h.live.length g.hc.cv,aA g.a2 g.ys.length g.c2],aC #[aB aI (c:Int),aB aI D,aA d l.length f]]) (by simp[results,results60,go_sem,KX,KY]) rfl ⟨g,d,f,rfl,z.out.c,z.out.b,z.out.o⟩
  ·obtain rfl:s=s':=(t hc).symm;clear q t;have C:¬(c:Int)=0:=by omega
   go_upto_region 30 with fail
   have Q:=a.out.k0 0;have R:=a.out.k0 1;have P:=a.out.k0 2;have F:=a.out.k0 3;have J:=a.out.k0 4;have T:=a.out.k0 5;have O:=a.out.k0 6;unfold Sc.vals at Q R P F J T O;have y0:=i.out 0;have y1:=i.out 1;have y2:=i.out 2;have q0:=a.out.k2 0;have q1:=a.out.k2 1;have q2:=a.out.k2 2;have X:=a.out.k2 3;have q4:=a.out.k2 4;have Y:=a.out.k2 5;have q6:=a.out.k2 6;have z0:=a.out.k3 0;have z1:=a.out.k3 1;have z2:=a.out.k3 2;have f0:=a.out.f2 0;have f1:=a.out.f2 1;have f2:=a.out.f2 2;have f3:=a.out.f2 3;have f4:=a.out.f2 4;have f5:=a.out.f2 5;have f6:=a.out.f2 6;have e0:=a.out.f3 0;have e1:=a.out.f3 1;have e2:=a.out.f3 2;simp only[gB,gC,gD]at Q R P F J T O y0 y1 y2 q0 q1 q2 X q4 Y q6 z0 z1 z2;have Md:=gO (AP (X0:=aB aI (c:Int)) (X1:=aB aI D) (X2:=aA d l.length f) a.out.b a.out.gs (Cl.same (s:=s) (v:=v) a.out.b a.out.gs) a.out.k2 a.out.k3 B.out);clear C x0;go_cut [] (λwx=>PN v s s v w wx (aB aI (c:Int)) (aB aI D) (aA d l.length f) 3 l.length (aA d l.length f) (l.map vI))
   case first=>
    go_region_law fail
    all_goals (go_wp2_with fail)
    all_goals go_meet
    all_goals exact Md.out
   case rest=>
    have KX:=hcut.k;have KY:=hcut.y;have z:=gO hcut;clear hcut;go_wp2_with fail
    exact bodyPost_ret (v:=aG #[aC #[aA v.a1 v.n1 v.c1,aA v.hc.az 2 v.hc.cz,aA v.hc.am 2 v.hc.cm,aB aI (s.h.aP:Int),aA v.hc.al v.hc.lc.length v.hc.cl,aA v.hc.av s.h.live.length v.hc.cv,aA v.a2 v.ys.length v.c2],aC #[aB aI (c:Int),aB aI D,aA d l.length f]]) (by simp[results,results60,go_sem,KX,KY]) rfl ⟨v,d,f,rfl,z.out.c,z.out.b,z.out.o⟩
 case first=>
  have G:=gO (hs.below m.out);have HG:=gO hg;have HO1:=gO (ho.below m.out);have HZ1:=gO (hsz.below m.out);have hll:v.hc.lc.length<=1000:=by
   have h:=G.out.hh.ll;have h9:=congrArg List.length h;rw[gTe]at h9;rw[h9];have:=hg.ok.hk.pK;omega
  have hvl:s.h.live.length<=1000:=by have:=hg.ok.hk.jM;omega
  have hP:eP v s w E #[aA v.a1 v.n1 v.c1,aA v.hc.az 2 v.hc.cz,aA v.hc.am 2 v.hc.cm,aB aI (s.h.aP:Int),aA v.hc.al v.hc.lc.length v.hc.cl,aA v.hc.av s.h.live.length v.hc.cv,aA v.a2 v.ys.length v.c2] #[aB aI 0,aB aI 0,aA aJ 0 0]:=⟨m.out,by omega,p.out.1.1,p.out.2.1.1,p.out.2.1.2,p.out.2.2.1.1,p.out.2.2.1.2,p.out.2.2.2.1.1,p.out.2.2.2.1.2,p.out.2.2.2.2.1,p.out.2.2.2.2.2⟩
  have HP:=gO hP;clear hs hg ho hsz hP p;cases hd with
  | drain u n=>
   have z:Hid (Calls prog 23 #[aC #[aA v.hc.az 2 v.hc.cz,aA v.hc.am 2 v.hc.cm,aB aI (s.h.aP:Int),aA v.hc.al v.hc.lc.length v.hc.cl,aA v.hc.av s.h.live.length v.hc.cv]] E λev w'=>∃e:Hc,ev=aN (aG #[aC #[aA e.az 2 e.cz,aA e.am 2 e.cm,aB aI (s.h.drain.aP:Int),aA e.al e.lc.length e.cl,aA e.av s.h.drain.live.length e.cv],aB aI 0])/\lN w' E.heap.size s.h.drain e/\Below E.heap.size E w'):=
    Cm v.hc.az v.hc.am v.hc.al v.hc.av v.hc.cz v.hc.cm v.hc.cl v.hc.cv v.hc.lc.length s.h.live.length v.hc.y0 v.hc.y1 v.hc.lc s.h E G.out.hh HG.out.ok.hk hll hvl
   go_wp2_with (go_at_call 23;refine z.out.mono ?_;rintro ev w2 ⟨e,rfl,hn,hb⟩;have N:=gO (HP.out.below hb);obtain⟨y0,y1,y2,y3,y4,y5,y6,f0,f1,f2,f3,f4,f5,f6,z0,z1,z2,e0,e1,e2⟩:=N.out.cells)
   all_goals go_meet
   all_goals
    have hP:=(N.out.puth4 (aA e.az 2 e.cz) (aA e.am 2 e.cm) (aB aI (s.h.drain.aP:Int)) (aA e.al e.lc.length e.cl) (aA e.av s.h.drain.live.length e.cv)).code5 (aB aI 0);have hC:=((Cl.heap (s:=s) (v:=v) m.out (by omega) hb hn).puth4 (aA e.az 2 e.cz) (aA e.am 2 e.cm) (aB aI (s.h.drain.aP:Int)) (aA e.al e.lc.length e.cl) (aA e.av s.h.drain.live.length e.cv)).set 5 0 (aB aI 0) (by decide);exact hP.Ug hC rfl
theorem aB8:aC0 DnD:=λv s c r W d a g b e=>aB7 v s c.k c.u c.n c.m c.p c.f c.s r W d a g b e
theorem GI (w:World)(ho:vP w)(hsz:Bg w):Calls prog 9 #[] w λev w'=>ev=aN (.bool true)/\Below w.heap.size w w':=by
 obtain⟨f,e,aP,en1,T,N,H,z,E,A,I⟩:=Um 0 0 0;have G:Hid (∀W,Calls prog 26 #[aB aI 0,aB aI 0,aB aI 0] W λev w'=>∃g l i k,ev=aN (aC #[aA g 2 l,aA i 2 k,aB aI (f:Int),aB aI (e:Int),aB aI (aP:Int)])/\vW w' g i 2 2 (zM 0 0 0)/\Below W.heap.size W w'):=λW=>by
  have h:=aAb 0 0 0 W (by decide) (by decide) (by decide);rw[en1,T,N]at h;refine h.mono ?_;rintro ev w' ⟨g,l,i,k,D,x,t⟩;exact⟨g,l,i,k,D,x,t⟩
 obtain⟨o,F⟩:∃o,newH (jF (zM 0 0 0)) f e aP=o:=⟨_,rfl⟩
 have C:fG o:=by
  rw[<- F];exact(LH (AZ 0 0 0) H z E ⟨A,I⟩).1
 have nP:Hid (∀(W:World) (g i:Option Addr) (l k:Nat),vW W g i 2 2 (zM 0 0 0)->Bg W->Calls prog 20 #[aC #[aA g 2 l,aA i 2 k,aB aI (f:Int),aB aI (e:Int),aB aI (aP:Int)]] W (AA o W)):=λW g i l k D x=>by
  rw[<- F];exact Ub g i 2 2 l k (zM 0 0 0) f e aP W D (GH 0 0 0).1 (GH 0 0 0).2 (AZ 0 0 0) H z E ⟨A,I⟩ x
 have m:=LZ C;obtain⟨K,U⟩:∃K:Sy,{dW o 6 with h:=(dW o 6).h.drain}=K:=⟨_,rfl⟩
 have X:Hid (∀(W:World) (g i:Option Addr) (l k:Nat) (b:Nat),vW W g i 2 2 (zM 0 0 0)->vP W->Bg W->Row W (aK ⟨b,0,aJ⟩) (flat mW [⟨12,0,0,0,0,0,[]⟩])->Calls prog 27 #[aC #[aA g 2 l,aA i 2 k,aB aI (f:Int),aB aI (e:Int),aB aI (aP:Int)],aA (aK ⟨b,0,aJ⟩) 1 1] W λev w'=>∃(a:Sc) (d:Option Addr) (q:Nat),ev=aN (aG #[aA d 1 q,aC #[aA a.a1 a.n1 a.c1,aA a.hc.az 2 a.hc.cz,aA a.hc.am 2 a.hc.cm,aB aI (K.h.aP:Int),aA a.hc.al a.hc.lc.length a.hc.cl,aA a.hc.av K.h.live.length a.hc.cv,aA a.a2 a.ys.length a.c2],aB aI 0])/\Below W.heap.size W w'):=λW g i l k b D x t h4=>by
  refine(aEF DnD o C _ _ _ _ _ _ 1 1 [⟨12,0,0,0,0,0,[]⟩] [⟨0,0,[]⟩] _ W x t (λW' hW=>nP.out W' g i l k (D.below hW) (t.below hW)) rfl (by decide) h4 aB8 (.cons (.drain 0 []) m .nil) (m.of m.ok.yE.ok m.ok.yE.sg)).mono ?_;rintro ev w' ⟨a,qs,d,q,h5,_,_,_,_,h6⟩;rw[U]at h5;exact⟨a,d,q,h5,h6⟩
 have O:Hid (∀(W:World) (g i:Option Addr) (l k:Nat),vW W g i 2 2 (zM 0 0 0)->Bg W->Calls prog 20 #[aC #[aA g 2 l,aA i 2 k,aB aI (f:Int),aB aI (e:Int),aB aI (aP:Int)]] W λev w'=>∃a:Sc,ev=aN (aG #[aC #[aA a.a1 4096 a.c1,aA a.hc.az 2 a.hc.cz,aA a.hc.am 2 a.hc.cm,aB aI ((dW o 6).h.aP:Int),aA a.hc.al a.hc.lc.length a.hc.cl,aA a.hc.av (dW o 6).h.live.length a.hc.cv,aA a.a2 a.ys.length a.c2],aB aI 0])/\Below W.heap.size W w'):=λW g i l k D x=>by
  refine(nP.out W g i l k D x).mono ?_;rintro ev w' ⟨a,t,h4,h5⟩;have h6:a.n1=4096:=by
   rw[<- h4.at.lw];exact m.ok.wl
  unfold Sc.vals at t;rw[h6]at t;exact⟨a,t,h5⟩
 clear U;generalize dW o 6=L at*;have HO:=gO ho;have kH:=gO hsz;clear en1 T N H z E A I F C nP m ho hsz;go_enter func9,ntmps9
 go_upto_region 2 with (first | (go_at_call 26;refine(G.out _).mono ?_;rintro ev w1 ⟨g,l,i,k,rfl,Q,J⟩) | (go_at_call 20;refine(O.out _ _ _ _ _ Q (kH.out.below J)).mono ?_;rintro ev M ⟨c,rfl,V⟩))
 have Z:=gW (gW J V) (aT M (aO #[aA c.a1 4096 c.c1,aA c.hc.az 2 c.hc.cz,aA c.hc.am 2 c.hc.cm,aB aI (L.h.aP:Int),aA c.hc.al c.hc.lc.length c.hc.cl,aA c.hc.av L.h.live.length c.hc.cv,aA c.a2 c.ys.length c.c2] 42));have k0:=bI M #[aA c.a1 4096 c.c1,aA c.hc.az 2 c.hc.cz,aA c.hc.am 2 c.hc.cm,aB aI (L.h.aP:Int),aA c.hc.al c.hc.lc.length c.hc.cl,aA c.hc.av L.h.live.length c.hc.cv,aA c.a2 c.ys.length c.c2] 42 0;simp only[gB,gC]at k0;have n:M.heap.size<(M.alloc (aO #[aA c.a1 4096 c.c1,aA c.hc.az 2 c.hc.cz,aA c.hc.am 2 c.hc.cm,aB aI (L.h.aP:Int),aA c.hc.al c.hc.lc.length c.hc.cl,aA c.hc.av L.h.live.length c.hc.cv,aA c.a2 c.ys.length c.c2] 42)).heap.size:=by simp
 clear Q J V O;generalize M.alloc _=w3 at*;generalize M.heap.size=B at*;go_upto_region 3 with (first | (go_at_call 26;refine(G.out _).mono ?_;rintro ev w4 ⟨m3,d3,m4,d4,rfl,S,Y⟩))
 have NM:=aT w4 (aO #[aB aI 12,aB aI 0,aB aI 0,aB aI 0,aB aI 0,aB aI 0,aF ⟨#[]⟩] 70);have s:=gW Y NM;have Un:=gW Z s;have u:Row (w4.alloc (aO #[aB aI 12,aB aI 0,aB aI 0,aB aI 0,aB aI 0,aB aI 0,aF ⟨#[]⟩] 70)) (aK ⟨w4.heap.size,0,aJ⟩) (flat mW [⟨12,0,0,0,0,0,[]⟩]):=λj v hj=>⟨w4.heap.size,0,rfl,by simp,by
  rw[Nat.zero_add,bI];rw[<- hj];simp[flat,mW]⟩
 have P:=gO (X.out _ m3 m4 d3 d4 _ (S.below NM) (HO.out.below Un) (kH.out.below Un) u);clear X G S u;refine P.out.mono ?_;rintro ev w5 ⟨a,d,q,rfl,r⟩;have k5:=(Below.cell (gW s r) (p:=⟨B,0,aJ⟩) n).trans k0;have y:=aT w5 (aO #[aA a.a1 a.n1 a.c1,aA a.hc.az 2 a.hc.cz,aA a.hc.am 2 a.hc.cm,aB aI (K.h.aP:Int),aA a.hc.al a.hc.lc.length a.hc.cl,aA a.hc.av K.h.live.length a.hc.cv,aA a.a2 a.ys.length a.c2] 42);have R:B<w5.heap.size:=gI n (gW s r).size;have k6:=(Below.cell y (p:=⟨B,0,aJ⟩) R).trans k5;have kP:=gO (gW (gW Un r) y);clear k0 k5 Z Y NM s Un r y P n R;go_wp2_with fail
 all_goals go_ret
 all_goals exact⟨rfl,kP.out⟩
end Go.Proofs.YtjaogfhcnmjkiaaGreatDoor
