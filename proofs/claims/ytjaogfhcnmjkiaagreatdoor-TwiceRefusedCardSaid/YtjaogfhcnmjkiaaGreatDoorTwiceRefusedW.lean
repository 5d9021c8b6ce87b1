/- the walk of this law. -/
import Derived.Test.YtjaogfhcnmjkiaaGreatDoorSG34
set_option linter.all false
set_option maxRecDepth 100000
set_option maxHeartbeats 0
namespace Go.Proofs.YtjaogfhcnmjkiaaGreatDoor
open Go.Value renaming slice->aA,int->aB,agg->aC,string->aF,tuple->aG,pointer->aH,ownBlock->gTh
open Go.IntKind renaming i64->aI
open Option renaming none->aJ,some->aK
open Go.Ending renaming returned->aN
open Go.Obj renaming cells->aO
open Go.Proofs.Tryz
open Go.RowKit Go.WideShapes Go.ChangeShapes
theorem Qq (a:Option Addr)(n cap:Nat)(l:List Th)(g:Nat)(lb:Array Value)(p:Th->Bool)(w:World)(hn:l.length=n)(hl:n<=9223372036854775807)(hr:Row w a (flat jZ l))(eg:∀args w,(callFunc g args).run prog w= .ok (.enter g args) w)
 (hp:∀W,Below w.heap.size w W->∀x∈l,Calls prog g (#[.agg (jZ x).toArray]++lb) W λe w'=>e=aN (.bool (p x))/\Below W.heap.size W w'):
 Calls prog 14 #[aA a n cap,.func (.func g) #[] lb] w λe w'=>e=aN (aB aI (dA p l))/\Below w.heap.size w w':=by
 subst hn;go_enter func14,ntmps14
 go_wp2
 go_loopw [5,8] (λ_ j wr=>∃k:Nat,k<=l.length/\j=aB aI k/\Hid (∀x∈l.take k,p x=false)/\Below w.heap.size w wr) (λ_ j _=>l.length-(intOf j).toNat)
 case atStart=>exact⟨0,gU _,rfl,by simp[Hid],gX _ _⟩
 case round=>
  obtain⟨k,z,rfl,d,c⟩:=hrel;by_cases f:k<l.length
  ·obtain⟨b,off,rfl,hb,o⟩:=aAw fU (by decide) (hr.below c) f;obtain⟨q,v,t,u,s,r⟩:=Ed o
   skip
   have hcall:=hp wr c l[k] (gL f);clear hr hp o;cases hv:p l[k]with
   | true=>
    have m:=gO (mJ f hv d.out);rw[hv]at hcall;generalize l[k]=y at*;go_wp2_with (go_at_fn g;refine hcall.mono ?_;rintro e w' ⟨rfl,h⟩)
    go_ret
    exact⟨dO m.out.symm,gW c h⟩
   | false=>
    rw[hv]at hcall;have m:Hid (∀x∈l.take (k+1),p x=false):=λx i=>by
     rw[List.take_succ_eq_append_getElem f,gZ,gTa]at i;rcases i with i | rfl
     ·exact d.out x i
     ·exact hv
    generalize l[k]=y at*;go_wp2_with (go_at_fn g;refine hcall.mono ?_;rintro e w' ⟨rfl,h⟩)
    go_roundw
    case rel=>exact⟨k+1,by omega,by go_num,m.out,gW c h⟩
    case measure=>simp[intOf];omega
  ·obtain rfl:k=l.length:=by omega
   go_wp2
   go_ret
   exact⟨dO (kL (by simpa[Hid]using d)).symm,c⟩
theorem Xc (t:Th)(p:Int)(B:Nat)(W:World)(hB:B<W.heap.size)(hc:W.cell? ⟨B,0,aJ⟩=aK (aB aI p)):
 Calls prog 15 (#[.agg (jZ t).toArray]++#[aH (aK ⟨B,0,aJ⟩)]) W λev w'=>ev=aN (.bool (decide (t.a=p)))/\Below W.heap.size W w':=by
 show Calls prog 15 #[aC #[aB aI t.a,aB aI t.z,aB aI t.k,aF ⟨t.n.toArray⟩,aB aI t.w,.bool t.b],aH (aK ⟨B,0,aJ⟩)] W _;have hb:=aAq W (aO #[aB aI t.a,aB aI t.z,aB aI t.k,aF ⟨t.n.toArray⟩,aB aI t.w,.bool t.b] 52);have K:=aQ W #[aB aI t.a,aB aI t.z,aB aI t.k,aF ⟨t.n.toArray⟩,aB aI t.w,.bool t.b] 52;have k1:=K 0;simp only[gB,gC,gD]at k1;have d:=(hb.cell (p:=⟨B,0,aJ⟩) hB).trans hc;have c:=gO hb;clear hb K hc;go_enter func15,ntmps15
 go_wp2
 go_ret
 exact⟨aX (by rw[Bool.eq_iff_iff];simp only[beq_iff_eq,decide_eq_true_eq]),c.out⟩
theorem UE {w0 W:World}{s:Sy}{v:Sc}{bs:List (Nat×Array Value)}(h:lU w0 s v s v Iu bs W)(hs:lZ W v s)(hg:EC s)(hcp:0<s.h.aAh)(hsz:yD W){p:Int}(hp: -1000000<=p/\p<=10000){e:Nat}(he:(s.fM 0 p=aJ/\e=4)∨(e=0/\∃u,s.fM 0 p=aK u)):
 Calls prog 16 #[aC #[aA v.a1 v.n1 v.c1,aA v.hc.az 2 v.hc.cz,aA v.hc.am 2 v.hc.cm,aB aI (s.h.aAh:Int),aA v.hc.al v.hc.lc.length v.hc.cl,aA v.hc.av s.h.live.length v.hc.cv,aA v.a2 v.ys.length v.c2],aB aI 0,aB aI p] W λev w5=>∃b0 m0 d0 b1 m1 d1 b2 m2 d2 i3 b4 m4 d4 b5 m5 d5 b6 m6 d6,ev=aN (aG #[aC #[aA b0 m0 d0,aA b1 m1 d1,aA b2 m2 d2,aB aI i3,aA b4 m4 d4,aA b5 m5 d5,aA b6 m6 d6],aB aI (e:Int)])/\lU w0 s v s v Iu bs w5/\Below W.heap.size W w5:=
 (uF v s 0 p W hs hg.ok (λc hc=>gQ (hg.nm c hc) (by decide)) hcp hsz hp).mono λev w5 j=>by
  rcases j with ⟨b,a,d⟩ | ⟨k,l,b,a,d,f⟩
  ·rcases he with ⟨_,rfl⟩ | ⟨_,u,g⟩
   ·exact⟨_,_,_,_,_,_,_,_,_,_,_,_,_,_,_,_,_,_,_,a,h.below d,d⟩
   ·rw[b]at g;cases g
  ·rcases he with ⟨i,_⟩ | ⟨rfl,_⟩
   ·rw[b]at i;cases i
   ·exact⟨_,_,_,_,_,_,_,_,_,_,_,_,_,_,_,_,_,_,_,a,h.below f,f⟩
theorem aCV {w0 W:World}{s u:Sy}{v:Sc}{bs:List (Nat×Array Value)}(h:lU w0 s v s v Iu bs W)(hs:lZ W v s)(hg:EC s)(hcp:0<s.h.aAh)(hsz:yD W){p:Int}(hp: -1000000<=p/\p<=10000)(hu:s.fM 0 p=aK u):
 Calls prog 16 #[aC #[aA v.a1 v.n1 v.c1,aA v.hc.az 2 v.hc.cz,aA v.hc.am 2 v.hc.cm,aB aI (s.h.aAh:Int),aA v.hc.al v.hc.lc.length v.hc.cl,aA v.hc.av s.h.live.length v.hc.cv,aA v.a2 v.ys.length v.c2],aB aI 0,aB aI p] W λev w5=>∃v',ev=aN (aG #[aC #[aA v'.a1 v'.n1 v'.c1,aA v'.hc.az 2 v'.hc.cz,aA v'.hc.am 2 v'.hc.cm,aB aI (u.h.aAh:Int),aA v'.hc.al v'.hc.lc.length v'.hc.cl,aA v'.hc.av u.h.live.length v'.hc.cv,aA v'.a2 v'.ys.length v'.c2],aB aI 0])/\lU w0 s v u v' Iu bs w5/\Below W.heap.size W w5:=
 (uF v s 0 p W hs hg.ok (λc hc=>gQ (hg.nm c hc) (by decide)) hcp hsz hp).mono λev w5 b=>by
  rcases b with ⟨a,d,f⟩ | ⟨g,v',a,d,f,e⟩
  ·rw[a]at hu;cases hu
  ·rw[hu]at a;obtain rfl:=gP a;exact⟨v',d,h.call (λG X hr=>SR.lift f hr.hr.gs (λk b=>hr.hr.xs k b) hr.hr.xg) e (World.ownsRow_nil _ _ _ _),e⟩
theorem Bl (a:Option Addr)(n c:Nat)(l:List Rw)(hl:l.length=n){w:World}(hr:Row w a (flat rF l))(hnc:n<=c)(hcm:c<=maxLen)(hwf:∀r∈l,r.wf)(x:Int)(hx:(Lit.int .i64 x).wf=true)(y:Int)(hy:(Lit.int .i64 y).wf=true)(z:Int)(hz:(Lit.int .i64 z).wf=true)(at_:Int)(hat:(Lit.int .i64 at_).wf=true)(ho:sS w)(hsz:yD w):
 Calls prog 6 #[aA a n c,aB aI x,aB aI y,aB aI z,aB aI at_] w λev w'=>ev=aN (.bool true)/\Below w.heap.size w w':=by
 have Z:=bounds_i64 hat
 obtain⟨p,hp0,hp1⟩:∃p:Nat,pk at_ 4097=(p:Int)/\p<=4096:=by
  have q:=xU at_ 4097 (by omega);have B:=Tj at_ 4097 (by omega);exact⟨(pk at_ 4097).toNat,by omega,by omega⟩
 have Hg:Hid (∀W,Calls prog 13 #[aB aI at_,aB aI 4097] W λe w'=>e=aN (aB aI (p:Int))/\W=w'):=λW=>by
  have h:=yU at_ 4097 W Z.1 Z.2 (by omega) (by omega);rw[hp0]at h;exact h
 clear hat Z hp0;have HO:=gO ho;have iL:=gO hsz;have HST:Hid (∀W,Below w.heap.size w W->Calls prog 10 #[aA a n c,aB aI x,aB aI y,aB aI z] W (Dc x y z W)):=λW hW=>xO a n c l x y z W hl (hr.below hW) hwf (gQ hnc hcm) (bounds_i64 hx) (bounds_i64 hy) (bounds_i64 hz) (ho.below hW) (hsz.below hW)
 clear hr hwf hl ho hsz hx hy hz hnc hcm;go_enter func6,ntmps6
 go_upto_region 3 with (go_at_call 9;refine(kV _ HO.out iL.out).mono ?_;rintro ev w1 ⟨rfl,hb1⟩)
 have Bo:=gO (HST.out w1 hb1);clear HST;go_upto_region 4 with (go_at_call 10;refine Bo.out.mono ?_;rintro ev w2 ⟨h,M,N,aAh,m1,m2,d1,d2,G,s,v,L,acts,qs,pa,pt,⟨wa,wc9⟩,rfl,hs2⟩)
 have hb3:=aAq w2 (aO #[aA m1 2 d1,aA m2 2 d2,aB aI (M:Int),aB aI (N:Int),aB aI (aAh:Int)] 29);have KU:=gO (aQ w2 #[aA m1 2 d1,aA m2 2 d2,aB aI (M:Int),aB aI (N:Int),aB aI (aAh:Int)] 29);have hsU:w2.heap.size<(w2.alloc (aO #[aA m1 2 d1,aA m2 2 d2,aB aI (M:Int),aB aI (N:Int),aB aI (aAh:Int)] 29)).heap.size:=by simp
 have K:=gO (hs2.below hb3);have HB3:=gO (gW hb1 (K.out.b));have BD:Hid (∀c∈s.cs,c.ns.length<=1000):=λc hc=>gQ (K.out.i.g.nm c hc) (by decide)
 clear hs2 hb3 hb1 Bo;generalize w2.alloc _=w3 at*;have hn1:v.n1=4096:=by rw[<- K.out.st.r.at.lw];exact K.out.i.g.ok.wl
 have k0:w3.cell? ⟨G,0,aJ⟩=aK (aA v.a1 4096 v.c1):=by have h:=K.out.st.k 0;rw[<- hn1];exact h
 have hG3:=K.out.st.lt;clear hn1;go_upto_region 5 with (go_at_call 13;refine(Hg.out _).mono ?_;rintro ev w' ⟨rfl,rfl⟩)
 have hb4:=aAq w3 (aO #[aB aI (p:Int)] 3);have KP:=aQ w3 #[aB aI (p:Int)] 3;have hsp:w3.heap.size<(w3.alloc (aO #[aB aI (p:Int)] 3)).heap.size:=by simp
 have V:=gO (K.out.below hb4);have HB4:=gO (gW HB3.out hb4);clear k0 hb4 Hg;generalize w3.alloc _=w4 at*;generalize w3.heap.size=P at*;have p0:w4.cell? ⟨P,0,aJ⟩=aK (aB aI (p:Int)):=KP 0;have HP0:=gO p0;have k9:w4.cell? ⟨G,9,aJ⟩=aK (aA wa L.length wc9):=V.out.st.k 9;have hL:=V.out.l;have eg:∀args w,(callFunc 15 args).run prog w= .ok (.enter 15 args) w:=enters_of func15 (by kernel_rfl) rfl;have hcall:=Qq wa L.length wc9 L 15 #[aH (aK ⟨P,0,aJ⟩)] (λt=>decide (t.a=(p:Int))) w4 rfl (by omega) (aV (V.out.st.o.each (oP L ⟨wa,wc9⟩) (by simp[rws]))) eg λW hW t ht=>Xc t p P W (gI hsp hW.size) ((hW.cell (p:=⟨P,0,aJ⟩) hsp).trans HP0.out)
 have HIX:=gO hcall;clear hcall eg KP;obtain⟨ix,hix⟩:∃ix,dA (λt:Th=>decide (t.a=(p:Int))) L=ix:=⟨_,rfl⟩
 rw[hix]at HIX;go_upto_region 6 with (go_at_call 14;refine HIX.out.mono ?_;rintro ev w6 ⟨rfl,Y⟩)
 have A:=gO (V.out.below Y);have HB6:=gO (gW HB4.out Y);have q0:=(Y.cell (p:=⟨P,0,aJ⟩) hsp).trans p0;have aLk:=gI hsp Y.size;clear p0 k9 HIX Y V HB4 HP0;have J:0<s.h.aAh:=by rw[A.out.sc];exact A.out.cp.1
 have HG:=gO A.out.i.g
 -- what the play says
 have hcase:(ix= -1/\s.dG p=aJ/\s.fM 0 p=aJ)∨∃(i:Nat) (hi:i<L.length),ix=(i:Int)/\((∃m u,s.dG p=aK m/\s.fM 0 p=aK u/\EC u/\u.h.aAh=s.h.aAh/\u.fM 0 p=aJ)∨(L[i].k=5/\s.dG p=aJ/\s.fM 0 p=aJ)):=by
  rw[<- hix];unfold dA;cases hf:L.findIdx? (λt:Th=>decide (t.a=(p:Int)))with
  | none=>
   have hno:∀t∈L,t.a≠(p:Int):=λt ht e=>by
    have h9:=List.findIdx?_eq_none_iff.1 hf t ht;rw[gTg e]at h9;cases h9
   have hz:=A.out.i.beside hno;exact .inl ⟨rfl,hz,vK hz⟩
  | some i=>
   obtain⟨hi,he,_⟩:=List.findIdx?_eq_some_iff_getElem.1 hf;have he:=of_decide_eq_true he;refine .inr ⟨i,hi,rfl,?_⟩;rcases A.out.i.twice (gL hi) J with ⟨m,u,q,B,h3,h4,h5⟩ | ⟨q,B⟩
   ·rw[he]at q B h5;exact .inl ⟨m,u,q,B,h3,h4,vK h5⟩
   ·rw[he]at B;exact .inr ⟨q,B,vK B⟩
 have HCS:=gO hcase;clear hcase hix;obtain⟨e,he⟩:∃e:Nat,(s.fM 0 p=aJ/\e=4)∨(e=0/\∃u,s.fM 0 p=aK u):=by
  cases hk:s.fM 0 p with
  | none=>exact⟨4,.inl ⟨rfl,rfl⟩⟩
  | some u=>exact⟨0,.inr ⟨rfl,u,rfl⟩⟩
 obtain⟨f,hf⟩:∃f:Nat,(s.dG p=aJ/\f=4)∨(f=0/\∃m,s.dG p=aK m):=by
  cases hk:s.dG p with
  | none=>exact⟨4,.inl ⟨rfl,rfl⟩⟩
  | some u=>exact⟨0,.inr ⟨rfl,u,rfl⟩⟩
 have HE:=gO he;have HF:=gO hf;clear he hf;have LG6:=A.out.st.svB;have LP6:∀X,Below w6.heap.size w6 X->X.cell? ⟨P,0,aJ⟩=aK (aB aI (p:Int)):=λX hX=>(hX.cell (p:=⟨P,0,aJ⟩) aLk).trans q0
 have HLG:=gO LG6;have HLP:=gO LP6;have h0:=lU.start w6 s v;have q:=h0.box #[aA aJ 0 0,aA aJ 0 0,aA aJ 0 0,aB aI 0,aA aJ 0 0,aA aJ 0 0,aA aJ 0 0] 42;have HAT:=gO (λbs X (hL:lU w6 s v s v Iu bs X)=>(hL.c G _ A.out.st.r).at);have S:=gO (iL.out.below HB6.out);have D:=gO (UE h0.drew (HAT.out _ _ h0.drew) HG.out J (S.out.below h0.drew.b) (p:=p) (by omega) HE.out);have F:=gO (UE q.drew (HAT.out _ _ q.drew) HG.out J (S.out.below q.drew.b) (p:=p) (by omega) HE.out);have HQ0:=gO h0;have HQ1:=gO q;clear q0 h0 q;go_cut [17] (λs17 wx=>s17=aB aI (e:Int)/\Hid (Below w6.heap.size w6 wx))
 case first=>
  go_region_held3 (λX=>Below w6.heap.size w6 X) ((repeat (first | with_reducible assumption | with_reducible exact gX _ _ | with_reducible refine Below.setCell ?_ ?_ _ | with_reducible apply Below.drew | with_reducible refine gW ?_ (aAq _ _) | with_reducible refine gW ?_ (by with_reducible assumption) | (simp only;omega)))) (first | (go_at_call 16;(with_reducible refine D.out.mono ?_);rintro ev w5 ⟨b0,m0,d0,b1,m1,d1,b2,m2,d2,i3,b4,m4,d4,b5,m5,d5,b6,m6,d6,rfl,j,hb5⟩;have T:=j.b.size) | (go_at_call 16;(with_reducible refine F.out.mono ?_);rintro ev w5 ⟨b0,m0,d0,b1,m1,d1,b2,m2,d2,i3,b4,m4,d4,b5,m5,d5,b6,m6,d6,rfl,j,hb5⟩;have T:=j.b.size;obtain⟨K51,F51,WY⟩:=j.k1))
  all_goals (go_wp2_with fail;go_meet)
  all_goals exact⟨rfl,by unfold Hid;assumption⟩
 case rest=>
  obtain⟨rfl,R⟩:=hcut;obtain⟨C,rfl⟩:∃C,C=wc:=⟨_,rfl⟩
  have LG:=λX (hX:Below C.heap.size C X)=>HLG.out X (gW R.out hX)
  have LP:=λX (hX:Below C.heap.size C X)=>HLP.out X (gW R.out hX)
  clear D F;have h9:Below C.heap.size C C.drew:=(gX _ _).drew;have aCW:Hid (Calls prog 17 #[aC #[aA v.a1 v.n1 v.c1,aA v.hc.az 2 v.hc.cz,aA v.hc.am 2 v.hc.cm,aB aI (s.h.aAh:Int),aA v.hc.al v.hc.lc.length v.hc.cl,aA v.hc.av s.h.live.length v.hc.cv,aA v.a2 v.ys.length v.c2],aB aI (p:Int)] C.drew λev w'=>(∃m:Nat,ev=aN (aG #[aB aI (m:Int),aB aI (f:Int)]))/\Below C.heap.size C w'):=
   (JC v s p C.drew (A.out.below (gW R.out h9)).st.r.at HG.out.ok BD.out (S.out.below (gW R.out h9)) (by omega)).mono λev w' ⟨q,B⟩=>by
    refine⟨?_,gW h9 B⟩;rcases HF.out with ⟨hn,rfl⟩ | ⟨rfl,m,hm⟩
    ·rw[hn]at q;exact⟨0,q⟩
    ·rw[hm]at q;exact⟨m,q⟩
  go_upto_region 7 with fail
  go_cut [19] (λs19 wx=>s19=aB aI (f:Int)/\Hid (Below C.heap.size C wx))
  case first=>
   go_region_held3 (λX=>Below C.heap.size C X) ((first | assumption | exact gW h9 (by assumption))) (first | (go_at_call 17;refine aCW.out.mono ?_;rintro ev I ⟨⟨m,rfl⟩,hb8⟩))
   all_goals (go_wp2_with fail;go_meet)
   all_goals exact⟨rfl,hb8⟩
  case rest=>
   obtain⟨rfl,Q⟩:=hcut;obtain⟨I,rfl⟩:∃I,I=wc:=⟨_,rfl⟩
   have H:=gO (gW R.out Q.out);clear LG LP aCW h9 R Q;clear C;rcases HCS.out with ⟨rfl,hz,hk⟩ | ⟨i,hi,rfl,hc2⟩
   ·have he4:(e:Int)=4:=by
     rcases HE.out with ⟨_,h⟩ | ⟨_,u,h⟩
     ·omega
     ·rw[hk]at h;cases h
    have hf4:(f:Int)=4:=by
     rcases HF.out with ⟨_,h⟩ | ⟨_,u,h⟩
     ·omega
     ·rw[hz]at h;cases h
    obtain rfl:e=4:=by omega
    obtain rfl:f=4:=by omega
    clear he4 hf4 hz hk;go_wp2_with fail
    all_goals go_ret
    all_goals exact⟨rfl,gW HB6.out H.out⟩
   ·have hi0:¬(i:Int)<0:=by omega
    have HC2:=gO hc2;have LG:=λX (hX:Below I.heap.size I X)=>HLG.out X (gW H.out hX)
    have LP:=λX (hX:Below I.heap.size I X)=>HLP.out X (gW H.out hX)
    have HS8:=gO (A.out.below H.out);have Q:=gO (gW HB6.out H.out);have E:=gO (iL.out.below Q.out);have hT:=(HS8.out.thing hi)
    have HT:=gO hT;have g0:=lU.start I s v;have g1:=g0.box #[aA aJ 0 0,aA aJ 0 0,aA aJ 0 0,aB aI 0,aA aJ 0 0,aA aJ 0 0,aA aJ 0 0] 42;have O:=gO (λbs X (hL:lU I s v s v Iu bs X)=>(hL.c G _ HS8.out.st.r).at);clear hT hc2;go_upto_region 10 with fail
    rcases HC2.out with ⟨m,u,q,B,h3,h4,h5⟩ | ⟨q,B,h3⟩
    ·obtain rfl:e=0:=by
      rcases HE.out with ⟨h,_⟩ | ⟨h,_⟩
      ·rw[B]at h;cases h
      ·exact h
     obtain rfl:f=0:=by
      rcases HF.out with ⟨h,_⟩ | ⟨h,_⟩
      ·rw[q]at h;cases h
      ·exact h
     have D:=gO (aCV g0.drew (O.out _ _ g0.drew) HG.out J (E.out.below g0.drew.b) (p:=p) (by omega) B);have F:=gO (aCV g1.drew (O.out _ _ g1.drew) HG.out J (E.out.below g1.drew.b) (p:=p) (by omega) B);have HU:=gO h3;have HK5:=gO h5;have hcu:0<u.h.aAh:=by omega
     clear q B h3 h4 h5 g0 g1 HC2;go_cut [20,21] (λs20 s21 wx=>∃(X:Nat) (d:Sc),s20=aH (aK ⟨X,0,aJ⟩)/\s21=aB aI 0/\lU I s v u d Iu [(X,#[aA d.a1 d.n1 d.c1,aA d.hc.az 2 d.hc.cz,aA d.hc.am 2 d.hc.cm,aB aI (u.h.aAh:Int),aA d.hc.al d.hc.lc.length d.hc.cl,aA d.hc.av u.h.live.length d.hc.cv,aA d.a2 d.ys.length d.c2])] wx)
     case first=>
      go_region_held3 (λX=>Below I.heap.size I X) ((repeat (first | with_reducible assumption | with_reducible exact gX _ _ | with_reducible refine Below.setCell ?_ ?_ _ | with_reducible apply Below.drew | with_reducible refine gW ?_ (aAq _ _) | with_reducible refine gW ?_ (by with_reducible assumption) | (simp only;omega)))) (first | (go_at_call 16;(with_reducible refine D.out.mono ?_);rintro ev w5 ⟨d,rfl,j,hb5⟩;have T:=j.b.size) | (go_at_call 16;(with_reducible refine F.out.mono ?_);rintro ev w5 ⟨d,rfl,j,hb5⟩;have T:=j.b.size;obtain⟨K51,F51,WY⟩:=j.k1))
      all_goals (go_wp2_with fail;go_meet)
      all_goals refine⟨_,d,rfl,rfl,?_⟩
      all_goals (repeat (first | with_reducible exact j | with_reducible apply lU.put7 | with_reducible refine lU.aAf ?_ (by simp) _))
     case rest=>
      obtain⟨X,d,rfl,rfl,Lr⟩:=hcut;obtain⟨U,rfl⟩:∃U,U=wc:=⟨_,rfl⟩
      have HP:=gO Lr;have KX:=Lr.k1.1;obtain⟨x0,x1,x2,x3,x4,x5,x6⟩:=gA7 KX;have hpp:=LP U Lr.b;have hfr:=uF d u 0 p U (Lr.c G _ HS8.out.st.r).at HU.out.ok (λc hc=>gQ (HU.out.nm c hc) (by decide)) hcu (E.out.below Lr.b) (by omega);rw[HK5.out]at hfr;have wB:Hid (Calls prog 16 #[aC #[aA d.a1 d.n1 d.c1,aA d.hc.az 2 d.hc.cz,aA d.hc.am 2 d.hc.cm,aB aI (u.h.aAh:Int),aA d.hc.al d.hc.lc.length d.hc.cl,aA d.hc.av u.h.live.length d.hc.cv,aA d.a2 d.ys.length d.c2],aB aI 0,aB aI (p:Int)] U λev w'=>ev=aN (aG #[aC #[aA aJ 0 0,aA aJ 0 0,aA aJ 0 0,aB aI 0,aA aJ 0 0,aA aJ 0 0,aA aJ 0 0],aB aI 4])/\Below U.heap.size U w'):=hfr.mono λev w' h=>by
       rcases h with ⟨_,q,B⟩ | ⟨_,_,q,_⟩
       ·exact⟨q,B⟩
       ·cases q
      clear Lr KX hfr D F LG LP;go_upto_region 14 with (go_at_call 16;refine wB.out.mono ?_;rintro ev wz ⟨rfl,hbz⟩)
      have qL:=gO (gW (gW (gW Q.out HP.out.b) hbz) (aAq wz (aO #[aA aJ 0 0,aA aJ 0 0,aA aJ 0 0,aB aI 0,aA aJ 0 0,aA aJ 0 0,aA aJ 0 0] 42)));clear hbz wB;go_wp2_with fail
      all_goals go_ret
      all_goals exact⟨rfl,qL.out⟩
    ·obtain rfl:e=4:=by
      rcases HE.out with ⟨_,h⟩ | ⟨_,u,h⟩
      ·exact h
      ·rw[h3]at h;cases h
     obtain rfl:f=4:=by
      rcases HF.out with ⟨_,h⟩ | ⟨_,u,h⟩
      ·exact h
      ·rw[B]at h;cases h
     have D:=gO (UE g0.drew (O.out _ _ g0.drew) HG.out J (E.out.below g0.drew.b) (p:=p) (by omega) (e:=4) (.inl ⟨h3,rfl⟩));have F:=gO (UE g1.drew (O.out _ _ g1.drew) HG.out J (E.out.below g1.drew.b) (p:=p) (by omega) (e:=4) (.inl ⟨h3,rfl⟩));have HK5:=gO q;clear q B h3 g0 g1 HC2;go_cut [20,21] (λ_ s21 wx=>s21=aB aI 4/\Hid (Below I.heap.size I wx))
     case first=>
      go_region_held3 (λX=>Below I.heap.size I X) ((repeat (first | with_reducible assumption | with_reducible exact gX _ _ | with_reducible refine Below.setCell ?_ ?_ _ | with_reducible apply Below.drew | with_reducible refine gW ?_ (aAq _ _) | with_reducible refine gW ?_ (by with_reducible assumption) | (simp only;omega)))) (first | (go_at_call 16;(with_reducible refine D.out.mono ?_);rintro ev w5 ⟨b0,m0,d0,b1,m1,d1,b2,m2,d2,i3,b4,m4,d4,b5,m5,d5,b6,m6,d6,rfl,j,hb5⟩;have T:=j.b.size) | (go_at_call 16;(with_reducible refine F.out.mono ?_);rintro ev w5 ⟨b0,m0,d0,b1,m1,d1,b2,m2,d2,i3,b4,m4,d4,b5,m5,d5,b6,m6,d6,rfl,j,hb5⟩;have T:=j.b.size;obtain⟨K51,F51,WY⟩:=j.k1))
      all_goals (go_wp2_with fail;go_meet)
      all_goals exact⟨rfl,by unfold Hid;assumption⟩
     case rest=>
      obtain⟨rfl,HB9⟩:=hcut;obtain⟨U,rfl⟩:∃U,U=wc:=⟨_,rfl⟩
      have HS9:=gO (HS8.out.below HB9.out);obtain⟨g,hg,hgl,t0,t1,t2,t3,t4,t5⟩:=HS9.out.thing hi;rw[HK5.out]at t2;obtain rfl:wa=aK ⟨g,0,aJ⟩:=hg;have k9:U.cell? ⟨G,9,aJ⟩=aK (aA (aK ⟨g,0,aJ⟩) L.length wc9):=HS9.out.st.k 9;have hii:(i:Int)<L.length:=by omega
      have qL:=gO (gW Q.out HB9.out);clear t0 t1 t3 t4 t5 LG LP D F HT;go_wp2_with fail
      all_goals go_ret
      all_goals exact⟨rfl,qL.out⟩
end Go.Proofs.YtjaogfhcnmjkiaaGreatDoor
