/- joined. -/
import Derived.Test.YtjaogfhcnmjkiaaGreatDoorSG1
set_option linter.all false
set_option maxRecDepth 100000
set_option maxHeartbeats 0
namespace Go.Proofs.YtjaogfhcnmjkiaaGreatDoor
open Go.RowKit
open Go.Value renaming slice->aA,int->aB,agg->aC,string->aF,tuple->aG,pointer->aH,ownBlock->gTh
open Go.IntKind renaming i64->aI
open Option renaming none->aJ,some->aK
open Go.Ending renaming returned->aN
open Go.Obj renaming cells->aO
open Go.Proofs.Tryz
variable {a o:Nat}{l:List Bk}
theorem Ja (h:uN l){p:Nat}(hb:hasB l p=true):∃hk:lb l p<l.length,l[lb l p].a=p:=by
 rcases Nat.lt_or_ge (lb l p) l.length with hk | hk
 ·refine⟨hk,?_⟩;rw[xY h hk]at hb;exact of_decide_eq_true hb
 ·rw[wK h hk]at hb;cases hb
theorem NM (hr:uN l)(ho:o<4)(h:hasB l (l9 a o)=false):jG l a (4-o) o=(l,a,o):=by
 obtain⟨n,e⟩:∃n,4-o=n+1:=⟨3-o,by omega⟩
 rw[e];unfold jG;cases hx:l[lb l (l9 a o)]? with
 | none=>rfl
 | some x=>
  obtain⟨d,b⟩:=gK.1 hx;rw[xY hr d,b]at h;have:=of_decide_eq_false h;simp only;rw[if_neg (λc=>this c.1)]
theorem NP (ho:o<4)(hk:lb l (l9 a o)<l.length)(h:l[lb l (l9 a o)].o≠o):jG l a (4-o) o=(l,a,o):=by
 obtain⟨n,b⟩:∃n,4-o=n+1:=⟨3-o,by omega⟩
 rw[b];unfold jG;rw[gJ hk];simp only;rw[if_neg (λc=>h c.2)]
theorem NQ (ho:o<4)(hk:lb l (l9 a o)<l.length)(ha:l[lb l (l9 a o)].a=l9 a o)(h:l[lb l (l9 a o)].o=o):jG l a (4-o) o=jG (l.eraseIdx (lb l (l9 a o))) (min a (l9 a o)) (4-(o+1)) (o+1):=by
 obtain⟨n,b⟩:∃n,4-o=n+1:=⟨3-o,by omega⟩
 rw[b,show 4-(o+1)=n by omega]
 conv=>lhs;unfold jG
 rw[gJ hk];simp only;rw[if_pos ⟨ha,h⟩,ha]
theorem QU {f e:Nat}(hf:f%16=0)(he:e%16=0)(hl:uM f e l)(hb:cZ f e a o)(hd:∀x∈l,apartB a o x)(ho:o<4)(hk:lb l (l9 a o)<l.length)(ha:l[lb l (l9 a o)].a=l9 a o)(h:l[lb l (l9 a o)].o=o):
 uM f e (l.eraseIdx (lb l (l9 a o)))/\cZ f e (min a (l9 a o)) (o+1)/\∀y∈l.eraseIdx (lb l (l9 a o)),apartB (min a (l9 a o)) (o+1) y:=by
 refine⟨hl.sublist (List.eraseIdx_sublist _ _),Tm hf he ho hb,λy k=> ?_⟩;obtain⟨j,i,d,rfl⟩:=List.mem_eraseIdx_iff_getElem.1 k;have g:=zW hl.sep i hk d;have n:=hd _ (gL i);have p:=dZ l[j].o;have q:=dZ o;have b:2^(o+1)=2^o+2^o:=by rw[Nat.pow_succ];omega
 have c:=BH hb.1 hb.2.2.2;unfold apartB Bk.fin at*;rw[ha,h]at g;rw[b];rcases c with ⟨m,_⟩ | ⟨m,_⟩ <;> omega
theorem aC5 {f e:Nat}(hf:f%16=0)(he:e%16=0)(h:cZ f e a o)(ho:o<4):l9 a o<e:=by
 obtain⟨b,c,g,d⟩:=h;unfold l9;obtain rfl | rfl | rfl | rfl:o=0∨o=1∨o=2∨o=3:=by omega
 all_goals simp only[Nat.reducePow]at*
 all_goals (split <;> omega)
theorem uO (a1 a2:Option Addr)(n1 n2 c1 c2:Nat)(z:Zn)(a o:Nat)(w:World)(hat:JY w a1 a2 n1 n2 z)(hz:z.ok)(hfit:cZ z.f z.e a o)(hd:∀x∈z.l,apartB a o x):
 Calls prog 124 #[aC #[aB aI z.f,aB aI z.e,aA a1 n1 c1,aA a2 n2 c2],aB aI a,aB aI o] w λev w'=>∃a1' a2' n1' c1' c2',ev=aN (aG #[aC #[aB aI z.f,aB aI z.e,aA a1' n1' c1',aA a2' n2 c2'],aB aI 0])/\iH w' w.heap.size a1' a2' n1' n2 c1' c2' (z.back a o)/\Below w.heap.size w w':=by
 have hlen:z.l.length<=256:=gQ (uM.length_le hz.2 (λb hb=>(hz.2.fit b hb).1.2.2.1)) hz.1.e2;have hee:=hz.1.e2;have hae:a<=256:=by have:=hfit.2.2.1;omega
 have l1:=hat.l1;have l2:=hat.l2;have hy32:z.y.length<=32:=by rw[hz.1.len];omega
 obtain⟨K3,K6,F3,F6,hsz,hbw⟩:=boxes2 w #[aB aI (z.f:Int),aB aI (z.e:Int),aA a1 n1 c1,aA a2 n2 c2] 79 #[aB aI 0,aB aI 0,aA aJ 0 0,aA aJ 0 0] 79;have o7:=hat.below hbw;have aCa:(z.l.any λx=>decide (x.a<(⟨a,o,0⟩:Bk).fin/\(⟨a,o,0⟩:Bk).a<x.fin))=false:=by
  rw[List.any_eq_false];intro x hx h;have h1:=of_decide_eq_true h;have h2:=hd x hx;unfold apartB at h2;unfold Bk.fin at h1 h2;simp only at h1;omega
 have eg:∀args w,(callFunc 145 args).run prog w= .ok (.enter 145 args) w:=enters_of func145 (by kernel_rfl) rfl;clear hat
 go_enter func124,ntmps124
 go_wp2_with fail
 generalize (w.alloc _).alloc _=w0 at*;refine(qC _ _ _ _ _ _ z _ o7 hz).mono ?_;rintro ev w1 ⟨rfl,hb1⟩;have hb2:=aAq w1 (aO #[aB aI (a:Int),aB aI (o:Int),aB aI 0] 82);have fK:=gW hb1 hb2;have K3b:=aAp K3 (by omega) fK;have K6b:=aAp K6 (by omega) fK;have F3b:=aAt F3 (by omega) fK;have F6b:=aAt F6 (by omega) fK;have K9b:=aQ w1 #[aB aI (a:Int),aB aI (o:Int),aB aI 0] 82;have F9b:=eG w1 #[aB aI (a:Int),aB aI (o:Int),aB aI 0] 82;have Vo:=o7.below fK;have hbw2:=gW hbw fK;have hB:w.heap.size+2<=w1.heap.size:=by have:=hb1.size;omega
 have hs2:w1.heap.size<(w1.alloc (aO #[aB aI (a:Int),aB aI (o:Int),aB aI 0] 82)).heap.size:=by simp
 clear K3 K6 F3 F6 hb1 hb2 fK o7 hbw hsz;go_wp2_with fail
 generalize w1.alloc _=w2 at*;generalize w1.heap.size=B at*;refine(wJ z.f z.e _ _ _ _ _ _ ⟨a,o,0⟩ _ hfit hee).mono ?_;rintro ev w3 ⟨rfl,q⟩;have K3c:=aAp K3b (by omega) q;have K6c:=aAp K6b (by omega) q;have F3c:=aAt F3b (by omega) q;have F6c:=aAt F6b (by omega) q;have K9c:=aAp K9b hs2 q;have F9c:=aAt F9b hs2 q;have Vp:=Vo.below q;have hbw3:=gW hbw2 q;have C:B<w3.heap.size:=gI hs2 q.size;clear K3b K6b F3b F6b K9b F9b Vo hbw2 q hs2;go_wp2_with fail
 refine(ER _ _ _ z.l _ _ (λx=>decide (x.a<(⟨a,o,0⟩:Bk).fin/\(⟨a,o,0⟩:Bk).a<x.fin)) _ l1 (by omega) Vp.r1 eg (λW hW x hx=>XQ x ⟨a,o,0⟩ B W (hz.2.fit x hx).1.1 (by have:=(hz.2.fit x hx).1.2.2.1;omega) hfit.1 (by show a<=1000;omega) (gI C hW.size) ((hW.cell (p:=⟨B,0,aJ⟩) C).trans (K9c 0)) ((hW.cell (p:=⟨B,1,aJ⟩) C).trans (K9c 1)) ((hW.cell (p:=⟨B,2,aJ⟩) C).trans (K9c 2)))).mono ?_;rw[aCa];rintro ev w4 ⟨rfl,r⟩;have K3d:=aAp K3c (by omega) r;have K6d:=aAp K6c (by omega) r;have F3d:=aAt F3c (by omega) r;have F6d:=aAt F6c (by omega) r;have K9d:=aAp K9c C r;have F9d:=aAt F9c C r;have aFo:=Vp.below r;have aFp:=gW hbw3 r;have hs4:B<w4.heap.size:=gI C r.size;clear K3c K6c F3c F6c K9c F9c Vp hbw3 r C eg aCa;go_wp2_with fail
 refine(Eo _ _ _ _ _ _ z.f z.e z _ aFo (by omega) (by omega)).mono ?_;rintro ev w5 ⟨a3,a4,c3,c4,rfl,hown,A⟩;have K3e:=aAp K3d (by omega) A;have K6e:=aAp K6d (by omega) A;have F3e:=aAt F3d (by omega) A;have F6e:=aAt F6d (by omega) A;have K9e:=aAp K9d hs4 A;have F9e:=aAt F9d hs4 A;have yL:=gW aFp A;have hs5:B<w5.heap.size:=gI hs4 A.size;have nn:=hown.ne (g:=w.heap.size) (.inl (by omega));have I0:EW w ((((w5.setCell ⟨w.heap.size,0,aJ⟩ (aB aI z.f)).setCell ⟨w.heap.size,1,aJ⟩ (aB aI z.e)).setCell ⟨w.heap.size,2,aJ⟩ (aA a3 n1 c3)).setCell ⟨w.heap.size,3,aJ⟩ (aA a4 n2 c4)) B a3 a4 n1 n2 c3 c4 z a o 0:=
  ⟨aAr (aAr (aAr (aAr K3e 0 _) 1 _) 2 _) 3 _,aAs (aAs (aAs (aAs F3e _ _) _ _) _ _) _ _,aAc (aAc (aAc (aAc K6e (by omega) _ _) (by omega) _ _) (by omega) _ _) (by omega) _ _,aAs (aAs (aAs (aAs F6e _ _) _ _) _ _) _ _,aAc (aAc (aAc (aAc K9e (by omega) _ _) (by omega) _ _) (by omega) _ _) (by omega) _ _,aAs (aAs (aAs (aAs F9e _ _) _ _) _ _) _ _,(((((hown.base (show B+1<=w4.heap.size by omega)).set nn _ _).set nn _ _).set nn _ _).set nn _ _),hB,by simpa using hs5,Below.setCell (Below.setCell (Below.setCell (Below.setCell yL (by simp only;omega) _) (by simp only;omega) _) (by simp only;omega) _) (by simp only;omega) _⟩
 have HI:=gO I0;clear I0 K6e F6e K9e F9e hown yL K3d K6d F3d F6d K9d F9d aFo aFp A nn;go_wp2
 clear K3e F3e;generalize (((w5.setCell _ _).setCell _ _).setCell _ _).setCell _ _=w6 at*;go_loopw [10,11] (λ_ _ wr=>∃(l:List Bk) (a' o':Nat) (b1:Option Addr) (R d1:Nat),Hid (EW w wr B b1 a4 R n2 d1 c4 {z with l:=l} a' o' 0)/\Hid (uM z.f z.e l)/\Hid (cZ z.f z.e a' o')/\Hid (∀x∈l,apartB a' o' x)/\Hid (jG z.l a (4-o) o=jG l a' (4-o') o')) (λ_ _ wr=>4-((wr.cell? ⟨B,1,aJ⟩).map λv=>(intOf v).toNat).getD 0)
 case atStart=>exact⟨z.l,a,o,a3,n1,c3,HI,hz.2,hfit,hd,rfl⟩
 case round=>
  obtain⟨l,a',o',b1,R,d1,HK,zA,MR,Yc,HJ⟩:=hrel;clear HI;have I:=HK.out;have n:=MR.out;have i:=zA.out.rise;have hlm:l.length=R:=I.own.l1;have aCj:l.length<=256:=gQ (uM.length_le zA.out (λb hb=>(zA.out.fit b hb).1.2.2.1)) hee;have aFq:=I.k9 1;have aC6:=I.k9 0;have aC7:=I.k3 0;have V:=I.k3 1;have aC8:=I.k3 2;have aC9:=I.k3 3;simp only[gB,gC,gD]at aC6 aFq aC7 V aC8 aC9;have hBr:=I.hi;have hwB:=I.lo;have hwr:w.heap.size<wr.heap.size:=by omega
  by_cases ho4:o'<4
  case' pos=>
   have hp4:=aC5 hz.1.f16 hz.1.e16 n ho4;have aNm:=Ya (a:=a') (o:=o') (by have:=n.2.2.1;omega) n.1 n.2.2.2;have hsh:=wI n.1;have aDa:=I.own.at
   have d4:(o':Int)<4:=by omega
   have HI2:=gO I;clear I;go_wp2_with fail
   refine aU (by kernel_rfl) (by kernel_rfl) ?_
   repeat (first | go_big_quiet_step ((go_at_call 146;exact Calls.bV (find_ok _ _ _ _ _ _ z.f z.e {z with l:=l} (l9 a' o') _ (aDa.below (aT wr _)) (by omega) i (λb hb=>by have:=(zA.out.fit b hb).1.2.2.1;omega) (by omega)))) | quiet_step ((go_at_call 146;exact Calls.bV (find_ok _ _ _ _ _ _ z.f z.e {z with l:=l} (l9 a' o') _ (aDa.below (aT wr _)) (by omega) i (λb hb=>by have:=(zA.out.fit b hb).1.2.2.1;omega) (by omega)))))
   refine wpQuiet_nil ?_;rintro _ ⟨wx,rfl⟩;have I3:=HI2.out.below (aT wr wx);clear aC6 aFq aC7 V aC8 aC9 aDa HI2;go_wp2_with fail
   generalize ext wr wx=c at*;have aFr:=I3.hi;have Yd:w.heap.size<c.heap.size:=by omega
   have k91:=I3.k9 1;have E:=I3.k9 0;have H:=I3.k3 2;simp only[gB,gC,gD]at E k91 H;cases hbe:hasB l (l9 a' o')
   case' false=>
    have F:=gO (NM i ho4 hbe)
    go_quiet (fail)
    have HT:=gO (I3.below (below_drewN (gX c.heap.size c) nq));clear I3 E k91 H;generalize c.drewN nq=wt at*
   case' true=>
    obtain⟨Q,hka⟩:=Ja i hbe;obtain⟨bb,off,hb1,hbb,hc⟩:=aAw aAu (by decide) I3.own.at.r1 Q;obtain rfl:=hb1;obtain⟨O,hc1,hc2⟩:=bH hc;have hkm:(lb l (l9 a' o'):Int)<R:=by omega
    have hstep:=gO (λh=>NQ ho4 Q hka h);have s:=gO (λh=>NP ho4 Q h);have k:=gO (λh=>QU hz.1.f16 hz.1.e16 zA.out n Yc.out ho4 Q hka h);generalize hK:lb l (l9 a' o')=K at*;have HKK:=gO hK;clear hK hc;simp only[]at O hc1 hc2;generalize l[K]=x at*;have P:=gO I3;clear I3;by_cases N:x.o=o'
    case pos=>
     have d5:((x.o:Int) != (o':Int))=false:=by simp[N]
     by_cases hlt:x.a<a'
     ·have Z:l9 a' o'=min a' (l9 a' o'):=by omega
      have hlt2:(x.a:Int)<(a':Int):=by omega
      have t:=gO (k.out N);have X:=gO (hstep.out N);rw[<- Z]at t X;clear Z
      go_quiet (fail)
      have d:=gO ((P.out.below (below_drewN (gX c.heap.size c) nq)).below ((gX (c.drewN nq).heap.size (c.drewN nq)).drew));have q1:=((below_drewN (gX c.heap.size c) nq).cell (p:=⟨bb,off+K*3,aJ⟩) hbb).trans O;have q90:(c.drewN nq).cell? ⟨B,0,aJ⟩=aK (aB aI (a':Int)):=((below_drewN (gX c.heap.size c) nq).cell (p:=⟨B,0,aJ⟩) aFr).trans E;have q32:=((below_drewN (gX c.heap.size c) nq).cell (p:=⟨w.heap.size,2,aJ⟩) Yd).trans H;clear P E k91 H O hc1 hc2 hstep s k;go_wp2_with fail
      generalize c.drewN nq=w8 at*
      go_still_tail 10,(by kernel_rfl)
      change wpList _ _ _ _ _ w8.drew;generalize w8.drew=w9 at*;have g90:=d.out.f9 0;have g91:=d.out.f9 1;have T:=d.out.k9 0;have Ye:=d.out.k9 1;have u:=gO (d.out.put9 0 ((l9 a' o'):Int) (a':=(l9 a' o')) (o':=o') (t':=0) rfl);have r91:=u.out.k9 1;have j:=gO (u.out.put9 1 ((o':Int)+1) (a':=(l9 a' o')) (o':=o'+1) (t':=0) (by simp));have Y:=j.out.k3 2;have t91:=u.out.f9 1;simp only[gB,gC,gD]at T r91 Ye Y;have hKm:K<R:=by omega
      go_wp2_with fail
      generalize (w9.setCell _ _).setCell _ _=wp at*;refine(sK (B+1) _ _ _ l K _ j.out.own.o1 hKm (by omega) (by have:=j.out.hi;omega)).mono ?_;rintro ev wd ⟨rfl,m,S⟩;have U:=gO (j.out.grown S (l':=l.eraseIdx K) (by rw[List.length_eraseIdx_of_lt Q,hlm]) m);have M:=gO U.out.put3;have m32:=U.out.k3 2;have f32:=U.out.f3 2;simp only[gB,gC,gD]at m32;clear m S d u j g90 g91 T r91 Ye Y t91 q1 q90 q32;go_wp2
      go_roundw
      case rel=>exact⟨l.eraseIdx K,(l9 a' o'),o'+1,_,R-1,_,M.out,t.out.1,t.out.2.1,t.out.2.2,HJ.out.trans X.out⟩
      case measure=>
       rw[show wr.cell? ⟨B,1,aJ⟩=aK (aB aI (o':Int))from HK.out.k9 1,show(wd.setCell _ _).cell? ⟨B,1,aJ⟩=aK (aB aI ((o'+1:Nat):Int))from M.out.k9 1];simp[intOf];omega
     ·have Z:a'=min a' (l9 a' o'):=by omega
      have hlt2:¬(x.a:Int)<(a':Int):=by omega
      have t:=gO (k.out N);have X:=gO (hstep.out N);rw[<- Z]at t X;clear Z
      go_quiet (fail)
      have d:=gO ((P.out.below (below_drewN (gX c.heap.size c) nq)).below ((gX (c.drewN nq).heap.size (c.drewN nq)).drew));have q1:=((below_drewN (gX c.heap.size c) nq).cell (p:=⟨bb,off+K*3,aJ⟩) hbb).trans O;have q90:(c.drewN nq).cell? ⟨B,0,aJ⟩=aK (aB aI (a':Int)):=((below_drewN (gX c.heap.size c) nq).cell (p:=⟨B,0,aJ⟩) aFr).trans E;have q32:=((below_drewN (gX c.heap.size c) nq).cell (p:=⟨w.heap.size,2,aJ⟩) Yd).trans H;clear P E k91 H O hc1 hc2 hstep s k;go_wp2_with fail
      generalize c.drewN nq=w8 at*
      go_still_tail 10,(by kernel_rfl)
      change wpList _ _ _ _ _ w8.drew;generalize w8.drew=w9 at*;have g90:=d.out.f9 0;have g91:=d.out.f9 1;have T:=d.out.k9 0;have Ye:=d.out.k9 1;have u:=gO (d.out.put9 0 (a':Int) (a':=a') (o':=o') (t':=0) rfl);have r91:=u.out.k9 1;have j:=gO (u.out.put9 1 ((o':Int)+1) (a':=a') (o':=o'+1) (t':=0) (by simp));have Y:=j.out.k3 2;have t91:=u.out.f9 1;simp only[gB,gC,gD]at T r91 Ye Y;have hKm:K<R:=by omega
      go_wp2_with fail
      generalize (w9.setCell _ _).setCell _ _=wp at*;refine(sK (B+1) _ _ _ l K _ j.out.own.o1 hKm (by omega) (by have:=j.out.hi;omega)).mono ?_;rintro ev wd ⟨rfl,m,S⟩;have U:=gO (j.out.grown S (l':=l.eraseIdx K) (by rw[List.length_eraseIdx_of_lt Q,hlm]) m);have M:=gO U.out.put3;have m32:=U.out.k3 2;have f32:=U.out.f3 2;simp only[gB,gC,gD]at m32;clear m S d u j g90 g91 T r91 Ye Y t91 q1 q90 q32;go_wp2
      go_roundw
      case rel=>exact⟨l.eraseIdx K,a',o'+1,_,R-1,_,M.out,t.out.1,t.out.2.1,t.out.2.2,HJ.out.trans X.out⟩
      case measure=>
       rw[show wr.cell? ⟨B,1,aJ⟩=aK (aB aI (o':Int))from HK.out.k9 1,show(wd.setCell _ _).cell? ⟨B,1,aJ⟩=aK (aB aI ((o'+1:Nat):Int))from M.out.k9 1];simp[intOf];omega
    case' neg=>
     have d5:((x.o:Int) != (o':Int))=true:=by rw[bne_iff_ne];omega
     have F:=gO (s.out N)
     go_quiet (fail)
     have HT:=gO (P.out.below (below_drewN (gX c.heap.size c) nq));clear P E k91 H O hc1 hc2 hstep s k;generalize c.drewN nq=wt at*
  case' neg=>
   have d4:¬(o':Int)<4:=by omega
   have F:Hid (jG l a' (4-o') o'=(l,a',o')):=by unfold Hid;rw[show 4-o'=0 by omega];rfl
   have HT:=gO I;clear I aC6 aC7 V aC8 aC9;obtain⟨wt,rfl⟩:∃wt,wt=wr:=⟨_,rfl⟩
  all_goals
   -- the end of Back, in the world wt: the block (a', o') is put in
   have hj:(a'-z.f)/8<z.y.length:=by rw[hz.1.len];have:=n.2.1;have:=n.2.2.1;have:=hz.1.f16;have:=hz.1.e16;omega
   obtain⟨tb,Kw,ht1,htb,htc⟩:=aAw bU (by decide) HT.out.own.at.r2 hj;obtain rfl:=ht1;have Ah:=iZ htc;rw[Nat.mul_one]at Ah;have hjx:((a':Int)-z.f)/8=(((a'-z.f)/8:Nat):Int):=by have:=n.2.1;omega
   have hjn:((((a'-z.f)/8:Nat):Int))<n2:=by omega
   have hfa:(z.f:Int)<=a':=by have:=n.2.1;omega
   have ht0:=HT.out.k3 0;have ht3:=HT.out.k3 3;have ht9:=HT.out.k9 0;have hty:=HT.out.k9 2;have htf:=HT.out.f9 2;simp only[gB,gC,gD]at ht0 ht3 ht9 hty;have wS:z.y.getD ((a'-z.f)/8) 0=z.y[(a'-z.f)/8]:=by rw[List.getD_eq_getElem?_getD,gJ hj];rfl
   have Vq:Hid (z.back a o={z with l:=bI l ⟨a',o',z.y[(a'-z.f)/8]⟩}):=by
    unfold Hid Zn.back;rw[HJ.out,F.out];simp only[wS]
   clear wS htc;simp only[]at Ah;generalize z.y[(a'-z.f)/8]=ty at*;generalize (a'-z.f)/8=J at*;have D:=gO (HT.out.put9 2 (ty:Int) (a':=a') (o':=o') (t':=ty) rfl);have u0:=D.out.k3 0;have u1:=D.out.k3 1;have u2:=D.out.k3 2;have u3:=D.out.k3 3;have u9:=D.out.k9 0;simp only[gB,gC,gD]at u0 u1 u2 u3 u9;go_wp2_with fail
   generalize wt.setCell _ _=wu at*;refine(find_ok _ _ _ _ _ _ z.f z.e {z with l:=l} a' _ D.out.own.at (by omega) i (λb hb=>by have:=(zA.out.fit b hb).1.2.2.1;omega) (by have:=n.2.2.1;omega)).mono ?_;rintro ev wv ⟨rfl,hbv⟩;have L:=gO (D.out.below hbv);have v2:=L.out.k3 2;have v90:=L.out.k9 0;have v91:=L.out.k9 1;have v92:=L.out.k9 2;simp only[gB,gC,gD]at v2 v90 v91 v92;clear HT D u0 u1 u2 u3 u9 ht0 ht3 ht9 hty htf Ah htb;go_wp2_with fail
   have hbn:=aAq wv (aO #[aB aI (a':Int),aB aI (o':Int),aB aI (ty:Int)] 82);have HT4:=gO (L.out.below hbn);have hnew:(wv.alloc (aO #[aB aI (a':Int),aB aI (o':Int),aB aI (ty:Int)] 82)).heap[wv.heap.size]? =aK (.cells (aAx ⟨a',o',ty⟩).toArray 82 (0,0)):=heap_alloc_new wv _;have hnn:=(L.out.own.ne (g:=wv.heap.size) (.inr (gT _))).1;clear L v2 v90 v91 v92;have hlbm:lb l a'<=R:=by have:=mD l a';omega
   generalize wv.heap.size=G at*;generalize wv.alloc _=wn at*;refine(nP (B+1) _ _ _ G (lb l a') l ⟨a',o',ty⟩ _ HT4.out.own.o1 hlbm (by omega) (by have:=HT4.out.hi;omega) hnew (λe=>hnn e.symm)).mono ?_;rintro ev wi ⟨e1,f1,rfl,mM,hgi⟩;have sQ:(bI l ⟨a',o',ty⟩).length=R+1:=by unfold bI;rw[gTb,List.length_cons,gTc,gTd];have:=mD l a';omega
   have U:=gO (HT4.out.grown hgi (l':=bI l ⟨a',o',ty⟩) sQ mM);have M:=gO U.out.put3;have m32:=U.out.k3 2;have f32:=U.out.f3 2;simp only[gB,gC,gD]at m32;have x0:=M.out.k3;have x6:=M.out.k6;have xf6:=M.out.f6;have aFs:=M.out.lo;clear HT4 hnew hnn mM hgi;go_wp2
   refine bodyPost_ret (v:=aG #[aC #[aB aI z.f,aB aI z.e,aA e1 (R+1) f1,aA (aK ⟨tb,Kw,aJ⟩) n2 c4],aB aI 0]) (by simp[results,results124,go_sem,x6]) rfl ⟨e1,aK ⟨tb,Kw,aJ⟩,R+1,f1,c4,rfl,?_,?_⟩
   ·rw[Vq.out];have no:=M.out.own.ne (g:=w.heap.size+1) (.inl (by omega));exact((((M.out.own.set no _ _).set no _ _).set no _ _).set no _ _).base (by omega)
   ·exact Below.setCell (Below.setCell (Below.setCell (Below.setCell M.out.bw (by simp only;omega) _) (by simp only;omega) _) (by simp only;omega) _) (by simp only;omega) _
end Go.Proofs.YtjaogfhcnmjkiaaGreatDoor
