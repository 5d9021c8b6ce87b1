/- joined. -/
import Derived.Test.YtjaogfhcnmjkiaaGreatDoorAB3
set_option linter.all false
set_option maxRecDepth 100000
set_option maxHeartbeats 0
namespace Go.Proofs.YtjaogfhcnmjkiaaGreatDoor
open Go.RowKit
open Go.Value renaming slice->aA,int->aB,agg->aC,string->aF,tuple->aG,pointer->aH,ownBlock->gTh
open Go.IntKind renaming i64->aI
open Option renaming none->aJ,some->aK
open Go.Ending renaming returned->aN
open Go.Obj renaming cells->aO
open Go.Proofs.Tryz
variable {W:World}{a bs g o:Nat}{a1 a2:Option Addr}{l:List Bk}{z:Zn}
theorem IL (h:rW l){p:Nat}(hb:hasB l p=true):∃hk:lb l p<l.length,l[lb l p].a=p:=by
 rcases Nat.lt_or_ge (lb l p) l.length with hk | hk
 ·refine⟨hk,?_⟩;rw[xW h hk]at hb;exact of_decide_eq_true hb
 ·rw[wG h hk]at hb;cases hb
theorem Nz (hr:rW l)(ho:o<4)(h:hasB l (nG a o)=false):jW l a (4-o) o=(l,a,o):=by
 obtain⟨n,e⟩:∃n,4-o=n+1:=⟨3-o,by omega⟩
 rw[e];unfold jW;cases hx:l[lb l (nG a o)]? with
 | none=>rfl
 | some x=>
  obtain⟨d,b⟩:=gK.1 hx;rw[xW hr d,b]at h;have:=of_decide_eq_false h;simp only;rw[if_neg (λc=>this c.1)]
theorem NC (ho:o<4)(hk:lb l (nG a o)<l.length)(h:l[lb l (nG a o)].o≠o):jW l a (4-o) o=(l,a,o):=by
 obtain⟨n,b⟩:∃n,4-o=n+1:=⟨3-o,by omega⟩
 rw[b];unfold jW;rw[gJ hk];simp only;rw[if_neg (λc=>h c.2)]
theorem ND (ho:o<4)(hk:lb l (nG a o)<l.length)(ha:l[lb l (nG a o)].a=nG a o)(h:l[lb l (nG a o)].o=o):jW l a (4-o) o=jW (l.eraseIdx (lb l (nG a o))) (min a (nG a o)) (4-(o+1)) (o+1):=by
 obtain⟨n,b⟩:∃n,4-o=n+1:=⟨3-o,by omega⟩
 rw[b,show 4-(o+1)=n by omega]
 conv=>lhs;unfold jW
 rw[gJ hk];simp only;rw[if_pos ⟨ha,h⟩,ha]
theorem QG {f e:Nat}(hf:f%16=0)(he:e%16=0)(hl:sQ f e l)(hb:dM f e a o)(hd:∀x∈l,apartB a o x)(ho:o<4)(hk:lb l (nG a o)<l.length)(ha:l[lb l (nG a o)].a=nG a o)(h:l[lb l (nG a o)].o=o):
 sQ f e (l.eraseIdx (lb l (nG a o)))/\dM f e (min a (nG a o)) (o+1)/\∀y∈l.eraseIdx (lb l (nG a o)),apartB (min a (nG a o)) (o+1) y:=by
 refine⟨hl.sublist (List.eraseIdx_sublist _ _),SI hf he ho hb,λy k=> ?_⟩;obtain⟨j,i,d,rfl⟩:=List.mem_eraseIdx_iff_getElem.1 k;have g:=xP hl.sep i hk d;have n:=hd _ (gL i);have p:=dN l[j].o;have q:=dN o;have b:2^(o+1)=2^o+2^o:=by rw[Nat.pow_succ];omega
 have c:=Bl hb.1 hb.2.2.2;unfold apartB Bk.fin at*;rw[ha,h]at g;rw[b];rcases c with ⟨m,_⟩ | ⟨m,_⟩ <;> omega
theorem aDa {f e:Nat}(hf:f%16=0)(he:e%16=0)(h:dM f e a o)(ho:o<4):nG a o<e:=by
 obtain⟨b,c,g,d⟩:=h;unfold nG;obtain rfl | rfl | rfl | rfl:o=0∨o=1∨o=2∨o=3:=by omega
 all_goals simp only[Nat.reducePow]at*
 all_goals (split <;> omega)
theorem uM (a1 a2:Option Addr)(n1 n2 c1 c2:Nat)(z:Zn)(a o:Nat)(w:World)(hat:IJ w a1 a2 n1 n2 z)(hz:z.ok)(hfit:dM z.f z.e a o)(hd:∀x∈z.l,apartB a o x):
 Calls prog 124 #[aC #[aB aI z.f,aB aI z.e,aA a1 n1 c1,aA a2 n2 c2],aB aI a,aB aI o] w λev w'=>∃a1' a2' n1' c1' c2',ev=aN (aG #[aC #[aB aI z.f,aB aI z.e,aA a1' n1' c1',aA a2' n2 c2'],aB aI 0])/\jC w' w.heap.size a1' a2' n1' n2 c1' c2' (z.back a o)/\Below w.heap.size w w':=by
 have hlen:z.l.length<=256:=gQ (sQ.length_le hz.2 (λb hb=>(hz.2.fit b hb).1.2.2.1)) hz.1.e2;have hee:=hz.1.e2;have hae:a<=256:=by have:=hfit.2.2.1;omega
 have l1:=hat.l1;have l2:=hat.l2;have hy32:z.y.length<=32:=by rw[hz.1.len];omega
 obtain⟨K3,K6,F3,F6,hsz,hbw⟩:=boxes2 w #[aB aI (z.f:Int),aB aI (z.e:Int),aA a1 n1 c1,aA a2 n2 c2] 79 #[aB aI 0,aB aI 0,aA aJ 0 0,aA aJ 0 0] 79;have pX:=hat.below hbw;have aCg:(z.l.any λx=>decide (x.a<(⟨a,o,0⟩:Bk).fin/\(⟨a,o,0⟩:Bk).a<x.fin))=false:=by
  rw[List.any_eq_false];intro x hx h;have h1:=of_decide_eq_true h;have h2:=hd x hx;unfold apartB at h2;unfold Bk.fin at h1 h2;simp only at h1;omega
 have eg:∀args w,(callFunc 145 args).run prog w= .ok (.enter 145 args) w:=enters_of func145 (by kernel_rfl) rfl;clear hat
 go_enter func124,ntmps124
 go_wp2_with fail
 generalize (w.alloc _).alloc _=w0 at*;refine(qP _ _ _ _ _ _ z _ pX hz).mono ?_;rintro ev w1 ⟨rfl,hb1⟩;have hb2:=aT w1 (aO #[aB aI (a:Int),aB aI (o:Int),aB aI 0] 82);have jK:=gW hb1 hb2;have K3b:=aQ K3 (by omega) jK;have K6b:=aQ K6 (by omega) jK;have F3b:=aU F3 (by omega) jK;have F6b:=aU F6 (by omega) jK;have K9b:=bI w1 #[aB aI (a:Int),aB aI (o:Int),aB aI 0] 82;have F9b:=fP w1 #[aB aI (a:Int),aB aI (o:Int),aB aI 0] 82;have UZ:=pX.below jK;have hbw2:=gW hbw jK;have hB:w.heap.size+2<=w1.heap.size:=by have:=hb1.size;omega
 have hs2:w1.heap.size<(w1.alloc (aO #[aB aI (a:Int),aB aI (o:Int),aB aI 0] 82)).heap.size:=by simp
 clear K3 K6 F3 F6 hb1 hb2 jK pX hbw hsz;go_wp2_with fail
 generalize w1.alloc _=w2 at*;generalize w1.heap.size=B at*;refine(wF z.f z.e _ _ _ _ _ _ ⟨a,o,0⟩ _ hfit hee).mono ?_;rintro ev w3 ⟨rfl,q⟩;have K3c:=aQ K3b (by omega) q;have K6c:=aQ K6b (by omega) q;have F3c:=aU F3b (by omega) q;have F6c:=aU F6b (by omega) q;have K9c:=aQ K9b hs2 q;have F9c:=aU F9b hs2 q;have Va:=UZ.below q;have hbw3:=gW hbw2 q;have C:B<w3.heap.size:=gI hs2 q.size;clear K3b K6b F3b F6b K9b F9b UZ hbw2 q hs2;go_wp2_with fail
 refine(EL _ _ _ z.l _ _ (λx=>decide (x.a<(⟨a,o,0⟩:Bk).fin/\(⟨a,o,0⟩:Bk).a<x.fin)) _ l1 (by omega) Va.r1 eg (λW hW x hx=>XK x ⟨a,o,0⟩ B W (hz.2.fit x hx).1.1 (by have:=(hz.2.fit x hx).1.2.2.1;omega) hfit.1 (by show a<=1000;omega) (gI C hW.size) ((hW.cell (p:=⟨B,0,aJ⟩) C).trans (K9c 0)) ((hW.cell (p:=⟨B,1,aJ⟩) C).trans (K9c 1)) ((hW.cell (p:=⟨B,2,aJ⟩) C).trans (K9c 2)))).mono ?_;rw[aCg];rintro ev w4 ⟨rfl,r⟩;have K3d:=aQ K3c (by omega) r;have K6d:=aQ K6c (by omega) r;have F3d:=aU F3c (by omega) r;have F6d:=aU F6c (by omega) r;have K9d:=aQ K9c C r;have F9d:=aU F9c C r;have aFy:=Va.below r;have aFz:=gW hbw3 r;have hs4:B<w4.heap.size:=gI C r.size;clear K3c K6c F3c F6c K9c F9c Va hbw3 r C eg aCg;go_wp2_with fail
 refine(Eh _ _ _ _ _ _ z.f z.e z _ aFy (by omega) (by omega)).mono ?_;rintro ev w5 ⟨a3,a4,c3,c4,rfl,hown,A⟩;have K3e:=aQ K3d (by omega) A;have K6e:=aQ K6d (by omega) A;have F3e:=aU F3d (by omega) A;have F6e:=aU F6d (by omega) A;have K9e:=aQ K9d hs4 A;have F9e:=aU F9d hs4 A;have yH:=gW aFz A;have hs5:B<w5.heap.size:=gI hs4 A.size;have nn:=hown.ne (g:=w.heap.size) (.inl (by omega));have I0:EP w ((((w5.setCell ⟨w.heap.size,0,aJ⟩ (aB aI z.f)).setCell ⟨w.heap.size,1,aJ⟩ (aB aI z.e)).setCell ⟨w.heap.size,2,aJ⟩ (aA a3 n1 c3)).setCell ⟨w.heap.size,3,aJ⟩ (aA a4 n2 c4)) B a3 a4 n1 n2 c3 c4 z a o 0:=
  ⟨aW (aW (aW (aW K3e 0 _) 1 _) 2 _) 3 _,aV (aV (aV (aV F3e _ _) _ _) _ _) _ _,aS (aS (aS (aS K6e (by omega) _ _) (by omega) _ _) (by omega) _ _) (by omega) _ _,aV (aV (aV (aV F6e _ _) _ _) _ _) _ _,aS (aS (aS (aS K9e (by omega) _ _) (by omega) _ _) (by omega) _ _) (by omega) _ _,aV (aV (aV (aV F9e _ _) _ _) _ _) _ _,(((((hown.base (show B+1<=w4.heap.size by omega)).set nn _ _).set nn _ _).set nn _ _).set nn _ _),hB,by simpa using hs5,Below.setCell (Below.setCell (Below.setCell (Below.setCell yH (by simp only;omega) _) (by simp only;omega) _) (by simp only;omega) _) (by simp only;omega) _⟩
 have HI:=gO I0;clear I0 K6e F6e K9e F9e hown yH K3d K6d F3d F6d K9d F9d aFy aFz A nn;go_wp2
 clear K3e F3e;generalize (((w5.setCell _ _).setCell _ _).setCell _ _).setCell _ _=w6 at*;go_loopw [10,11] (λ_ _ wr=>∃(l:List Bk) (a' o':Nat) (b1:Option Addr) (R d1:Nat),Hid (EP w wr B b1 a4 R n2 d1 c4 {z with l:=l} a' o' 0)/\Hid (sQ z.f z.e l)/\Hid (dM z.f z.e a' o')/\Hid (∀x∈l,apartB a' o' x)/\Hid (jW z.l a (4-o) o=jW l a' (4-o') o')) (λ_ _ wr=>4-((wr.cell? ⟨B,1,aJ⟩).map λv=>(intOf v).toNat).getD 0)
 case atStart=>exact⟨z.l,a,o,a3,n1,c3,HI,hz.2,hfit,hd,rfl⟩
 case round=>
  obtain⟨l,a',o',b1,R,d1,HK,MG,XW,HAP,HJ⟩:=hrel;clear HI;have I:=HK.out;have n:=XW.out;have i:=MG.out.rise;have hlm:l.length=R:=I.own.l1;have aFA:l.length<=256:=gQ (sQ.length_le MG.out (λb hb=>(MG.out.fit b hb).1.2.2.1)) hee;have aFB:=I.k9 1;have aDb:=I.k9 0;have aDc:=I.k3 0;have V:=I.k3 1;have aDd:=I.k3 2;have aDe:=I.k3 3;simp only[gB,gC,gD]at aDb aFB aDc V aDd aDe;have hBr:=I.hi;have hwB:=I.lo;have hwr:w.heap.size<wr.heap.size:=by omega
  by_cases ho4:o'<4
  case' pos=>
   have hp4:=aDa hz.1.f16 hz.1.e16 n ho4;have aNE:=XU (a:=a') (o:=o') (by have:=n.2.2.1;omega) n.1 n.2.2.2;have hsh:=wE n.1;have aDf:=I.own.at
   have d4:(o':Int)<4:=by omega
   have HI2:=gO I;clear I;go_wp2_with fail
   refine bH (by kernel_rfl) (by kernel_rfl) ?_
   repeat (first | go_big_quiet_step ((go_at_call 146;exact Calls.dF (find_ok _ _ _ _ _ _ z.f z.e {z with l:=l} (nG a' o') _ (aDf.below (bD wr _)) (by omega) i (λb hb=>by have:=(MG.out.fit b hb).1.2.2.1;omega) (by omega)))) | quiet_step ((go_at_call 146;exact Calls.dF (find_ok _ _ _ _ _ _ z.f z.e {z with l:=l} (nG a' o') _ (aDf.below (bD wr _)) (by omega) i (λb hb=>by have:=(MG.out.fit b hb).1.2.2.1;omega) (by omega)))))
   refine wpQuiet_nil ?_;rintro _ ⟨wx,rfl⟩;have I3:=HI2.out.below (bD wr wx);clear aDb aFB aDc V aDd aDe aDf HI2;go_wp2_with fail
   generalize ext wr wx=c at*;have aFC:=I3.hi;have XY:w.heap.size<c.heap.size:=by omega
   have k91:=I3.k9 1;have E:=I3.k9 0;have H:=I3.k3 2;simp only[gB,gC,gD]at E k91 H;cases hbe:hasB l (nG a' o')
   case' false=>
    have F:=gO (Nz i ho4 hbe)
    go_quiet (fail)
    have HT:=gO (I3.below (below_drewN (gX c.heap.size c) nq));clear I3 E k91 H;generalize c.drewN nq=wt at*
   case' true=>
    obtain⟨Q,hka⟩:=IL i hbe;obtain⟨bb,off,hb1,hbb,hc⟩:=aZ aX (by decide) I3.own.at.r1 Q;obtain rfl:=hb1;obtain⟨O,hc1,hc2⟩:=bZ hc;have hkm:(lb l (nG a' o'):Int)<R:=by omega
    have hstep:=gO (λh=>ND ho4 Q hka h);have s:=gO (λh=>NC ho4 Q h);have k:=gO (λh=>QG hz.1.f16 hz.1.e16 MG.out n HAP.out ho4 Q hka h);generalize hK:lb l (nG a' o')=K at*;have HKK:=gO hK;clear hK hc;simp only[]at O hc1 hc2;generalize l[K]=x at*;have P:=gO I3;clear I3;by_cases N:x.o=o'
    case pos=>
     have d5:((x.o:Int) != (o':Int))=false:=by simp[N]
     by_cases hlt:x.a<a'
     ·have Z:nG a' o'=min a' (nG a' o'):=by omega
      have hlt2:(x.a:Int)<(a':Int):=by omega
      have t:=gO (k.out N);have X:=gO (hstep.out N);rw[<- Z]at t X;clear Z
      go_quiet (fail)
      have d:=gO ((P.out.below (below_drewN (gX c.heap.size c) nq)).below ((gX (c.drewN nq).heap.size (c.drewN nq)).drew));have q1:=((below_drewN (gX c.heap.size c) nq).cell (p:=⟨bb,off+K*3,aJ⟩) hbb).trans O;have q90:(c.drewN nq).cell? ⟨B,0,aJ⟩=aK (aB aI (a':Int)):=((below_drewN (gX c.heap.size c) nq).cell (p:=⟨B,0,aJ⟩) aFC).trans E;have q32:=((below_drewN (gX c.heap.size c) nq).cell (p:=⟨w.heap.size,2,aJ⟩) XY).trans H;clear P E k91 H O hc1 hc2 hstep s k;go_wp2_with fail
      generalize c.drewN nq=w8 at*
      go_still_tail 10,(by kernel_rfl)
      change wpList _ _ _ _ _ w8.drew;generalize w8.drew=w9 at*;have g90:=d.out.f9 0;have g91:=d.out.f9 1;have T:=d.out.k9 0;have XZ:=d.out.k9 1;have u:=gO (d.out.put9 0 ((nG a' o'):Int) (a':=(nG a' o')) (o':=o') (t':=0) rfl);have r91:=u.out.k9 1;have j:=gO (u.out.put9 1 ((o':Int)+1) (a':=(nG a' o')) (o':=o'+1) (t':=0) (by simp));have Y:=j.out.k3 2;have t91:=u.out.f9 1;simp only[gB,gC,gD]at T r91 XZ Y;have hKm:K<R:=by omega
      go_wp2_with fail
      generalize (w9.setCell _ _).setCell _ _=wp at*;refine(xX (B+1) _ _ _ l K _ j.out.own.o1 hKm (by omega) (by have:=j.out.hi;omega)).mono ?_;rintro ev wd ⟨rfl,m,S⟩;have U:=gO (j.out.grown S (l':=l.eraseIdx K) (by rw[List.length_eraseIdx_of_lt Q,hlm]) m);have M:=gO U.out.put3;have m32:=U.out.k3 2;have f32:=U.out.f3 2;simp only[gB,gC,gD]at m32;clear m S d u j g90 g91 T r91 XZ Y t91 q1 q90 q32;go_wp2
      go_roundw
      case rel=>exact⟨l.eraseIdx K,(nG a' o'),o'+1,_,R-1,_,M.out,t.out.1,t.out.2.1,t.out.2.2,HJ.out.trans X.out⟩
      case measure=>
       rw[show wr.cell? ⟨B,1,aJ⟩=aK (aB aI (o':Int))from HK.out.k9 1,show(wd.setCell _ _).cell? ⟨B,1,aJ⟩=aK (aB aI ((o'+1:Nat):Int))from M.out.k9 1];simp[intOf];omega
     ·have Z:a'=min a' (nG a' o'):=by omega
      have hlt2:¬(x.a:Int)<(a':Int):=by omega
      have t:=gO (k.out N);have X:=gO (hstep.out N);rw[<- Z]at t X;clear Z
      go_quiet (fail)
      have d:=gO ((P.out.below (below_drewN (gX c.heap.size c) nq)).below ((gX (c.drewN nq).heap.size (c.drewN nq)).drew));have q1:=((below_drewN (gX c.heap.size c) nq).cell (p:=⟨bb,off+K*3,aJ⟩) hbb).trans O;have q90:(c.drewN nq).cell? ⟨B,0,aJ⟩=aK (aB aI (a':Int)):=((below_drewN (gX c.heap.size c) nq).cell (p:=⟨B,0,aJ⟩) aFC).trans E;have q32:=((below_drewN (gX c.heap.size c) nq).cell (p:=⟨w.heap.size,2,aJ⟩) XY).trans H;clear P E k91 H O hc1 hc2 hstep s k;go_wp2_with fail
      generalize c.drewN nq=w8 at*
      go_still_tail 10,(by kernel_rfl)
      change wpList _ _ _ _ _ w8.drew;generalize w8.drew=w9 at*;have g90:=d.out.f9 0;have g91:=d.out.f9 1;have T:=d.out.k9 0;have XZ:=d.out.k9 1;have u:=gO (d.out.put9 0 (a':Int) (a':=a') (o':=o') (t':=0) rfl);have r91:=u.out.k9 1;have j:=gO (u.out.put9 1 ((o':Int)+1) (a':=a') (o':=o'+1) (t':=0) (by simp));have Y:=j.out.k3 2;have t91:=u.out.f9 1;simp only[gB,gC,gD]at T r91 XZ Y;have hKm:K<R:=by omega
      go_wp2_with fail
      generalize (w9.setCell _ _).setCell _ _=wp at*;refine(xX (B+1) _ _ _ l K _ j.out.own.o1 hKm (by omega) (by have:=j.out.hi;omega)).mono ?_;rintro ev wd ⟨rfl,m,S⟩;have U:=gO (j.out.grown S (l':=l.eraseIdx K) (by rw[List.length_eraseIdx_of_lt Q,hlm]) m);have M:=gO U.out.put3;have m32:=U.out.k3 2;have f32:=U.out.f3 2;simp only[gB,gC,gD]at m32;clear m S d u j g90 g91 T r91 XZ Y t91 q1 q90 q32;go_wp2
      go_roundw
      case rel=>exact⟨l.eraseIdx K,a',o'+1,_,R-1,_,M.out,t.out.1,t.out.2.1,t.out.2.2,HJ.out.trans X.out⟩
      case measure=>
       rw[show wr.cell? ⟨B,1,aJ⟩=aK (aB aI (o':Int))from HK.out.k9 1,show(wd.setCell _ _).cell? ⟨B,1,aJ⟩=aK (aB aI ((o'+1:Nat):Int))from M.out.k9 1];simp[intOf];omega
    case' neg=>
     have d5:((x.o:Int) != (o':Int))=true:=by rw[bne_iff_ne];omega
     have F:=gO (s.out N)
     go_quiet (fail)
     have HT:=gO (P.out.below (below_drewN (gX c.heap.size c) nq));clear P E k91 H O hc1 hc2 hstep s k;generalize c.drewN nq=wt at*
  case' neg=>
   have d4:¬(o':Int)<4:=by omega
   have F:Hid (jW l a' (4-o') o'=(l,a',o')):=by unfold Hid;rw[show 4-o'=0 by omega];rfl
   have HT:=gO I;clear I aDb aDc V aDd aDe;obtain⟨wt,rfl⟩:∃wt,wt=wr:=⟨_,rfl⟩
  all_goals
   -- the end of Back, in the world wt: the block (a', o') is put in
   have hj:(a'-z.f)/8<z.y.length:=by rw[hz.1.len];have:=n.2.1;have:=n.2.2.1;have:=hz.1.f16;have:=hz.1.e16;omega
   obtain⟨tb,aDg,ht1,htb,htc⟩:=aZ dH (by decide) HT.out.own.at.r2 hj;obtain rfl:=ht1;have Vb:=lI htc;rw[Nat.mul_one]at Vb;have hjx:((a':Int)-z.f)/8=(((a'-z.f)/8:Nat):Int):=by have:=n.2.1;omega
   have hjn:((((a'-z.f)/8:Nat):Int))<n2:=by omega
   have hfa:(z.f:Int)<=a':=by have:=n.2.1;omega
   have ht0:=HT.out.k3 0;have ht3:=HT.out.k3 3;have ht9:=HT.out.k9 0;have hty:=HT.out.k9 2;have htf:=HT.out.f9 2;simp only[gB,gC,gD]at ht0 ht3 ht9 hty;have NG:z.y.getD ((a'-z.f)/8) 0=z.y[(a'-z.f)/8]:=by rw[List.getD_eq_getElem?_getD,gJ hj];rfl
   have HBK:Hid (z.back a o={z with l:=dG l ⟨a',o',z.y[(a'-z.f)/8]⟩}):=by
    unfold Hid Zn.back;rw[HJ.out,F.out];simp only[NG]
   clear NG htc;simp only[]at Vb;generalize z.y[(a'-z.f)/8]=ty at*;generalize (a'-z.f)/8=J at*;have D:=gO (HT.out.put9 2 (ty:Int) (a':=a') (o':=o') (t':=ty) rfl);have u0:=D.out.k3 0;have u1:=D.out.k3 1;have u2:=D.out.k3 2;have u3:=D.out.k3 3;have u9:=D.out.k9 0;simp only[gB,gC,gD]at u0 u1 u2 u3 u9;go_wp2_with fail
   generalize wt.setCell _ _=wu at*;refine(find_ok _ _ _ _ _ _ z.f z.e {z with l:=l} a' _ D.out.own.at (by omega) i (λb hb=>by have:=(MG.out.fit b hb).1.2.2.1;omega) (by have:=n.2.2.1;omega)).mono ?_;rintro ev wv ⟨rfl,hbv⟩;have L:=gO (D.out.below hbv);have v2:=L.out.k3 2;have v90:=L.out.k9 0;have v91:=L.out.k9 1;have v92:=L.out.k9 2;simp only[gB,gC,gD]at v2 v90 v91 v92;clear HT D u0 u1 u2 u3 u9 ht0 ht3 ht9 hty htf Vb htb;go_wp2_with fail
   have hbn:=aT wv (aO #[aB aI (a':Int),aB aI (o':Int),aB aI (ty:Int)] 82);have HT4:=gO (L.out.below hbn);have hnew:(wv.alloc (aO #[aB aI (a':Int),aB aI (o':Int),aB aI (ty:Int)] 82)).heap[wv.heap.size]? =aK (.cells (bC ⟨a',o',ty⟩).toArray 82 (0,0)):=heap_alloc_new wv _;have hnn:=(L.out.own.ne (g:=wv.heap.size) (.inr (gT _))).1;clear L v2 v90 v91 v92;have hlbm:lb l a'<=R:=by have:=vH l a';omega
   generalize wv.heap.size=G at*;generalize wv.alloc _=wn at*;refine(BH (B+1) _ _ _ G (lb l a') l ⟨a',o',ty⟩ _ HT4.out.own.o1 hlbm (by omega) (by have:=HT4.out.hi;omega) hnew (λe=>hnn e.symm)).mono ?_;rintro ev wi ⟨e1,f1,rfl,Dq,hgi⟩;have NH:(dG l ⟨a',o',ty⟩).length=R+1:=by unfold dG;rw[gTb,List.length_cons,gTc,gTd];have:=vH l a';omega
   have U:=gO (HT4.out.grown hgi (l':=dG l ⟨a',o',ty⟩) NH Dq);have M:=gO U.out.put3;have m32:=U.out.k3 2;have f32:=U.out.f3 2;simp only[gB,gC,gD]at m32;have x0:=M.out.k3;have x6:=M.out.k6;have xf6:=M.out.f6;have aNF:=M.out.lo;clear HT4 hnew hnn Dq hgi;go_wp2
   refine bodyPost_ret (v:=aG #[aC #[aB aI z.f,aB aI z.e,aA e1 (R+1) f1,aA (aK ⟨tb,aDg,aJ⟩) n2 c4],aB aI 0]) (by simp[results,results124,go_sem,x6]) rfl ⟨e1,aK ⟨tb,aDg,aJ⟩,R+1,f1,c4,rfl,?_,?_⟩
   ·rw[HBK.out];have no:=M.out.own.ne (g:=w.heap.size+1) (.inl (by omega));exact((((M.out.own.set no _ _).set no _ _).set no _ _).set no _ _).base (by omega)
   ·exact Below.setCell (Below.setCell (Below.setCell (Below.setCell M.out.bw (by simp only;omega) _) (by simp only;omega) _) (by simp only;omega) _) (by simp only;omega) _
theorem Dt (t:Nat):∀(l:List Bk) (k:Nat) (hk:k<l.length),(flat bC l).set (k*3+2) (vI t)=flat bC (l.set k {l[k]with t:=t})
 | x::l,0,_=>by rw[eX,gG,eX];rfl
 | x::l,k+1,hk=>by
  have hk':k<l.length:=by simpa using hk
  rw[eX,gH,eX,List.set_append_right _ _ (by rw[aX];omega),aX,show(k+1)*3+2-3=k*3+2 by omega,Dt t l k hk'];rfl
theorem jC.aDh {n1 n2 c1 c2:Nat}(h:jC W bs a1 a2 n1 n2 c1 c2 z){j:Nat}(hj:j<n2)(hg:a2=aK ⟨g,0,aJ⟩)(t:Nat):jC (W.setCell ⟨g,j,aJ⟩ (aB aI (t:Int))) bs a1 a2 n1 n2 c1 c2 {z with y:=z.y.set j t}:=by
 subst hg;have a:=(World.ownsRow.stored h.o2 j (vI t)).1;rw[IK]at a;exact⟨h.l1,by simp only[List.length_set];exact h.l2,bU h.o1 (λe=>zZ h.o1 h.o2 (by decide) g e rfl) _,a⟩
theorem jC.aAR {n1 n2 c1 c2:Nat}(h:jC W bs a1 a2 n1 n2 c1 c2 z){k:Nat}(hk:k<z.l.length)(hg:a1=aK ⟨g,0,aJ⟩)(t:Nat):jC (W.setCell ⟨g,k*3+2,aJ⟩ (aB aI (t:Int))) bs a1 a2 n1 n2 c1 c2 {z with l:=z.l.set k {z.l[k]with t:=t}}:=by
 subst hg;have a:=(World.ownsRow.stored h.o1 (k*3+2) (vI t)).1;rw[Dt t z.l k hk]at a;exact⟨by simp only[List.length_set];exact h.l1,h.l2,a,bU h.o2 (λe=>zZ h.o1 h.o2 (by decide) g rfl e) _⟩
structure qQ (w W:World)(bs:Nat)(a1 a2:Option Addr)(n1 n2 c1 c2 f e:Nat)(b:Bk)(z:Zn):Prop where
 k3:∀i,W.cell? ⟨w.heap.size,i,aJ⟩=(#[aB aI f,aB aI e,aA a1 n1 c1,aA a2 n2 c2]:Array Value)[i]?
 k6:∀i,W.cell? ⟨w.heap.size+1,i,aJ⟩=(#[aB aI b.a,aB aI b.o,aB aI b.t]:Array Value)[i]?
 own:jC W bs a1 a2 n1 n2 c1 c2 z
 hi:w.heap.size+2<=W.heap.size
 bw:Below bs w W
 g1:∀g,a1=aK ⟨g,0,aJ⟩->g<w.heap.size/\bs<=g
 g2:∀g,a2=aK ⟨g,0,aJ⟩->g<w.heap.size/\bs<=g
section
variable {w W W':World}{bs:Nat}{a1 a2:Option Addr}{n1 n2 c1 c2 f e:Nat}{b:Bk}{z:Zn}
theorem qQ.below (h:qQ w W bs a1 a2 n1 n2 c1 c2 f e b z)(hb:Below W.heap.size W W')(hbs:bs<=w.heap.size):qQ w W' bs a1 a2 n1 n2 c1 c2 f e b z:=by
 have a:=h.hi;exact⟨aQ h.k3 (by omega) hb,aQ h.k6 (by omega) hb,h.own.below hb,gQ a hb.size,Dl hb h.bw (by omega),h.g1,h.g2⟩
theorem qQ.aDh (h:qQ w W bs a1 a2 n1 n2 c1 c2 f e b z){j:Nat}(hj:j<n2)(hg:a2=aK ⟨g,0,aJ⟩)(t:Nat):qQ w (W.setCell ⟨g,j,aJ⟩ (aB aI (t:Int))) bs a1 a2 n1 n2 c1 c2 f e b {z with y:=z.y.set j t}:=by
 have a:=h.g2 g hg;exact⟨aS h.k3 (by omega) _ _,aS h.k6 (by omega) _ _,h.own.aDh hj hg t,by simpa using h.hi,h.bw.setCell a.2 _,h.g1,h.g2⟩
theorem qQ.aAR (h:qQ w W bs a1 a2 n1 n2 c1 c2 f e b z){k:Nat}(hk:k<z.l.length)(hg:a1=aK ⟨g,0,aJ⟩)(t:Nat):qQ w (W.setCell ⟨g,k*3+2,aJ⟩ (aB aI (t:Int))) bs a1 a2 n1 n2 c1 c2 f e b {z with l:=z.l.set k {z.l[k]with t:=t}}:=by
 have a:=h.g1 g hg;exact⟨aS h.k3 (by omega) _ _,aS h.k6 (by omega) _ _,h.own.aAR hk hg t,by simpa using h.hi,h.bw.setCell a.2 _,h.g1,h.g2⟩
end
def iT (fr tp t:Nat)(l:List Bk)(k:Nat):List Bk:=(l.take k).map (qJ fr tp t)++l.drop k
theorem IQ (fr tp t:Nat)(l:List Bk):iT fr tp t l l.length=l.map (qJ fr tp t):=by simp[iT]
theorem uP (fr tp t:Nat)(l:List Bk)(k:Nat):(iT fr tp t l k).length=l.length:=by
 unfold iT;rw[gTb,gTe,gTc,gTd];omega
theorem Vd (fr tp t:Nat)(l:List Bk)(k:Nat)(hk:k<l.length):(iT fr tp t l k)[k]? =aK l[k]:=by
 unfold iT;rw[List.getElem?_append_right (by rw[gTe,gTc];omega),gTe,gTc,List.getElem?_drop,show k+(k-min k l.length)=k by omega];exact gJ hk
theorem Aa (fr tp t:Nat)(l:List Bk)(k:Nat)(hk:k<l.length)(hk2:k<(iT fr tp t l k).length):(iT fr tp t l k)[k]=l[k]:=by
 have h:=Vd fr tp t l k hk;rw[gJ hk2]at h;exact gP h
theorem ER (fr tp t:Nat)(l:List Bk)(k:Nat)(hk:k<l.length):iT fr tp t l (k+1)=(iT fr tp t l k).set k (qJ fr tp t l[k]):=by
 unfold iT;rw[List.take_succ_eq_append_getElem hk,List.map_append,List.drop_eq_getElem_cons hk,List.set_append_right _ _ (by rw[gTe,gTc];omega)];rw[show k-((l.take k).map (qJ fr tp t)).length=0 by rw[gTe,gTc];omega,gG,List.append_assoc];rfl
theorem ES (fr tp t:Nat)(l:List Bk)(k:Nat)(hk:k<l.length)(h:¬(fr<=l[k].a/\l[k].fin<=tp)):iT fr tp t l (k+1)=iT fr tp t l k:=by
 have e:qJ fr tp t l[k]=l[k]:=by unfold qJ;rw[if_neg h]
 rw[ER _ _ _ _ _ hk,e];have b:k<(iT fr tp t l k).length:=by rw[uP];exact hk
 have c:=List.set_getElem_self b;rw[Aa fr tp t l k hk b]at c;exact c
theorem IU (fr tp t:Nat)(l:List Bk)(k:Nat)(hk:k<l.length)(hk2:k<(iT fr tp t l k).length)(h:fr<=l[k].a/\l[k].fin<=tp):iT fr tp t l (k+1)=(iT fr tp t l k).set k {(iT fr tp t l k)[k]with t:=t}:=by
 rw[ER _ _ _ _ _ hk,Aa fr tp t l k hk hk2];unfold qJ;rw[if_pos h]
theorem qK (bs:Nat)(a1 a2:Option Addr)(n1 n2 c1 c2:Nat)(z:Zn)(i t:Nat)(hi:i<z.l.length)(w:World)(hown:jC w bs a1 a2 n1 n2 c1 c2 z)(hz:z.ok)(ht:t<3)(hbs:bs<=w.heap.size):
 Calls prog 174 #[aC #[aB aI z.f,aB aI z.e,aA a1 n1 c1,aA a2 n2 c2],aB aI i,aB aI t] w λev w'=>ev=aN (aG #[])/\jC w' bs a1 a2 n1 n2 c1 c2 (z.steal z.l[i] t)/\Below bs w w':=by
 have hlen:z.l.length<=256:=gQ (sQ.length_le hz.2 (λb hb=>(hz.2.fit b hb).1.2.2.1)) hz.1.e2;have hee:=hz.1.e2;have l1:=hown.l1;have l2:=hown.l2;have m:=(hz.2.fit _ (gL hi)).1;obtain⟨K3,F3,hsz,hbw⟩:=boxes1 w #[aB aI (z.f:Int),aB aI (z.e:Int),aA a1 n1 c1,aA a2 n2 c2] 79;have Z:=hown.below hbw;obtain⟨d,off,ha1,hbb,hc⟩:=aZ aX (by decide) Z.at.r1 hi;obtain⟨gg,vg,eg1,hg2,hg3,_⟩:=iJ hown.o1 (i*3) (by rw[flat_length aX];omega);have hbg:d=gg/\off=0:=by rw[ha1]at eg1;simpa using eg1
 obtain⟨rfl,rfl⟩:=hbg;obtain rfl:=ha1;rw[Nat.zero_add]at hc;obtain⟨U,hc1,P⟩:=bZ (o:=i*3) hc;have hG2:∀g,a2=aK ⟨g,0,aJ⟩->g<w.heap.size/\bs<=g:=λg hg=>by have:=hown.o2.lt g (by subst hg;rfl);omega
 have hin:i<n1:=by omega
 have hbt:=(hz.2.fit _ (gL hi)).2;generalize hb:z.l[i]=b at*;have HB:=gO hb;clear hb hc;have hae:b.a<=256:=by have:=m.2.2.1;omega
 have hfin:=vY hz.1.e16 m;have hpw:=yS m.1;have Y:=aT (w.alloc (aO #[aB aI (z.f:Int),aB aI (z.e:Int),aA (aK ⟨d,0,aJ⟩) n1 c1,aA a2 n2 c2] 79)) (aO #[aB aI (b.a:Int),aB aI (b.o:Int),aB aI (b.t:Int)] 82);have aAS:=gW hbw Y;have hG1:∀g,aK (⟨d,0,aJ⟩:Addr)=aK ⟨g,0,aJ⟩->g<w.heap.size/\bs<=g:=λg hg=>by
  obtain rfl:d=g:=by simpa using hg
  exact⟨hg3,hg2⟩
 have I0:qQ w ((w.alloc (aO #[aB aI (z.f:Int),aB aI (z.e:Int),aA (aK ⟨d,0,aJ⟩) n1 c1,aA a2 n2 c2] 79)).alloc (aO #[aB aI (b.a:Int),aB aI (b.o:Int),aB aI (b.t:Int)] 82)) bs (aK ⟨d,0,aJ⟩) a2 n1 n2 c1 c2 z.f z.e b z:=
  ⟨aQ K3 (by omega) Y,λi=>by have:=bI (w.alloc (aO #[aB aI (z.f:Int),aB aI (z.e:Int),aA (aK ⟨d,0,aJ⟩) n1 c1,aA a2 n2 c2] 79)) #[aB aI (b.a:Int),aB aI (b.o:Int),aB aI (b.t:Int)] 82 i;rwa [World.size_alloc]at this,hown.below aAS,by simp,aAS.mono hbs,hG1,hG2⟩
 have HI:=gO I0;clear I0 K3 F3 Y;go_enter func174,ntmps174
 by_cases ho2:b.o<2
 ·go_wp2_with fail
  refine bodyPost_ret (v:=aG #[]) (by simp[results,results174,go_sem]) rfl ⟨rfl,?_,?_⟩
  ·unfold Zn.steal;rw[if_pos ho2];exact HI.out.own
  ·exact HI.out.bw
 ·have aNG:¬(b.o:Int)<2:=by omega
  go_wp2_with fail
  clear U hc1 P;generalize (w.alloc _).alloc _=w0 at*;go_loopw [7] (λs7 wr=>∃j:Nat,j<=2^b.o/\s7=aB aI ((b.a+j:Nat):Int)/\Hid (qQ w wr bs (aK ⟨d,0,aJ⟩) a2 n1 n2 c1 c2 z.f z.e b {z with y:=sS z.y z.f b.a t j})) (λs7 _=>b.fin-(intOf s7).toNat)
  case atStart=>exact⟨0,gU _,by simp,HI⟩
  case round=>
   obtain⟨j,hj,rfl,HK⟩:=hrel;clear HI hown Z;have I:=HK.out;have hHi:=I.hi;have N:=I.k6 0;have V:=I.k6 1;have R:=I.k6 2;simp only[gB,gC,gD]at N V R;clear I;have T:w.heap.size+1<wr.heap.size:=by omega
   go_wp2_with fail
   refine(mD b _ m.1 (by omega)).mono ?_;rintro ev w1 ⟨rfl,hb1⟩;have HK1:=gO (HK.out.below hb1 hbs);clear hb1 N V R HK;have I:=HK1.out;have aNH:=I.hi;have N:=I.k6 0;have V:=I.k6 1;have R:=I.k6 2;have k30:=I.k3 0;have A:=I.k3 2;have k33:=I.k3 3;simp only[gB,gC,gD]at N V R k30 A k33;clear T;have T:w.heap.size+1<w1.heap.size:=by omega
   by_cases hlt:j<2^b.o
   ·have hJ:(b.a+j-z.f)/8<z.y.length:=by rw[hz.1.len];have:=m.2.1;have:=hz.1.f16;have:=hz.1.e16;omega
    have hjx:((b.a:Int)+j-z.f)/8=(((b.a+j-z.f)/8:Nat):Int):=by have:=m.2.1;omega
    have hfa:(z.f:Int)<=b.a+j:=by have:=m.2.1;omega
    have dl:(b.a:Int)+j<b.fin:=by unfold Bk.fin;omega
    have hset:Hid (sS z.y z.f b.a t (j+1)=(sS z.y z.f b.a t j).set ((b.a+j-z.f)/8) t):=rfl;have hlen2:=rE z.y z.f b.a t j;generalize (b.a+j-z.f)/8=J at*;have hJn:(J:Int)<n2:=by omega
    have hJ2:J<n2:=by omega
    obtain⟨g,v,eg,hgb,hgs,K,L⟩:=iJ I.own.o2 J (by rw[flat_length dH];show J<(sS z.y z.f b.a t j).length*1;omega);obtain rfl:=eg;have F:=gO (I.aDh hJ2 rfl t);clear I HK1;go_wp2
    go_roundw
    case rel=>exact⟨j+1,by omega,by go_num,by rw[hset.out];exact F⟩
    case measure=>simp[intOf];omega
   ·obtain rfl:j=2^b.o:=by omega
    have dl:¬(b.a:Int)+2^b.o<b.fin:=by unfold Bk.fin;push_cast;omega
    clear I;go_wp2_with fail
    refine(mD b _ m.1 (by omega)).mono ?_;rintro ev w2 ⟨rfl,hb2⟩;have F:=gO (HK1.out.below hb2 hbs);clear hb2 N V R HK1 k30 A k33 T
    dsimp only
    have hdv:(b.a:Int)/8*8=((b.a/8*8:Nat):Int):=by omega
    simp only[hdv];clear hdv;have hFR:b.a/8*8<=256:=by omega
    obtain⟨c,aDi⟩:∃c,b.a/8*8=c:=⟨_,rfl⟩
    rw[aDi]at hFR ⊢;have yX:=gO aDi;clear aDi;have hmz:iT c (max b.fin (c+8)) t z.l 0=z.l:=rfl;have A:=F.out.k3 2;simp only[gB,gC,gD]at A;by_cases hmx:c+8<=b.fin
    ·have aI8:(c:Int)+8<=(b.fin:Int):=by omega
     have aDj:max b.fin (c+8)=b.fin:=by omega
     go_wp2
     go_loopw [10,11,49] (λ_ _ D wr=>∃k:Nat,k<=n1/\D=aB aI (k:Int)/\Hid (qQ w wr bs (aK ⟨d,0,aJ⟩) a2 n1 n2 c1 c2 z.f z.e b {z with l:=iT c (b.fin) t z.l k,y:=sS z.y z.f b.a t (2^b.o)})) (λ_ _ D _=>n1-(intOf D).toNat)
     case atStart=>exact⟨0,gU _,rfl,F⟩
     case round=>
      obtain⟨k,hk,rfl,B⟩:=hrel;clear F A;by_cases hlt:k<n1
      ·have r:k<z.l.length:=by omega
       have q:k<(iT c (b.fin) t z.l k).length:=by rw[uP];exact r
       have I:=B.out;have hHi:=I.hi;obtain⟨bb',M,e',Ec,E⟩:=aZ aX (by decide) I.own.at.r1 q;obtain⟨rfl,rfl⟩:d=bb'/\0=M:=by simpa using e'
       rw[Nat.zero_add,Aa c (b.fin) t z.l k r q]at E;obtain⟨U,hc1,P⟩:=bZ (o:=k*3) E;have Q:=(hz.2.fit _ (gL r)).1;have HP:Hid (c<=z.l[k].a/\z.l[k].fin<=b.fin->∀W,qQ w W bs (aK ⟨d,0,aJ⟩) a2 n1 n2 c1 c2 z.f z.e b {z with l:=iT c (b.fin) t z.l k,y:=sS z.y z.f b.a t (2^b.o)}->qQ w (W.setCell ⟨d,k*3+2,aJ⟩ (aB aI (t:Int))) bs (aK ⟨d,0,aJ⟩) a2 n1 n2 c1 c2 z.f z.e b {z with l:=iT c (b.fin) t z.l (k+1),y:=sS z.y z.f b.a t (2^b.o)}):=by
        intro h W hW;have h1:=hW.aAR q rfl t;rw[IU c (b.fin) t z.l k r q h];exact h1
       have HS:=gO (ES c (b.fin) t z.l k r);obtain⟨g5,v5,e5,_,_,K,L⟩:=iJ I.own.o1 (k*3+2) (by rw[flat_length aX];show k*3+2<(iT c (b.fin) t z.l k).length*3;omega);obtain rfl:d=g5:=by simpa using e5
       clear E I e' q e5;generalize z.l[k]=x at*;have T:w.heap.size+1<wr.heap.size:=by omega
       have u:=aT wr (aO #[aB aI (x.a:Int),aB aI (x.o:Int),aB aI (x.t:Int)] 82);have H:=gO (B.out.below u hbs);have GV:=(u.cell (p:=⟨d,k*3+2,aJ⟩) Ec).trans K;have QH:=(u.frozen (p:=⟨d,k*3+2,aJ⟩) Ec).trans L;have K11:=bI wr #[aB aI (x.a:Int),aB aI (x.o:Int),aB aI (x.t:Int)] 82;have hkn:(k:Int)<n1:=by omega
       have h3a:x.a<=1000:=by have:=Q.2.2.1;omega
       have O:=gI Ec u.size;clear K L Ec;by_cases X:c<=x.a
       ·have aDk:(c:Int)<=x.a:=by omega
        go_wp2_with fail
        clear u U hc1 P K11;generalize wr.alloc _=w4 at*;refine(mD x _ Q.1 h3a).mono ?_;rintro ev w5 ⟨rfl,C⟩;have G:=gO (H.out.below C hbs);have aJa:=(C.cell (p:=⟨d,k*3+2,aJ⟩) O).trans GV;have aJb:=(C.frozen (p:=⟨d,k*3+2,aJ⟩) O).trans QH;have A:=G.out.k3 2;simp only[gB,gC,gD]at A;clear C H B GV QH
        dsimp only
        by_cases S:x.fin<=b.fin
        ·have n:(x.fin:Int)<=((b.fin:Nat):Int):=by omega
         have s:=gO (HP.out ⟨X,S⟩ _ G.out)
         push_cast at n
         go_wp2
         go_roundw
         case rel=>exact⟨k+1,by omega,by go_num,s⟩
         case measure=>simp[intOf];omega
        ·have n:¬(x.fin:Int)<=((b.fin:Nat):Int):=by omega
         push_cast at n
         have s:Hid (qQ w w5 bs (aK ⟨d,0,aJ⟩) a2 n1 n2 c1 c2 z.f z.e b {z with l:=iT c (b.fin) t z.l (k+1),y:=sS z.y z.f b.a t (2^b.o)}):=by
          rw[HS.out (λh=>S h.2)];exact G
         go_wp2
         go_roundw
         case rel=>exact⟨k+1,by omega,by go_num,s⟩
         case measure=>simp[intOf];omega
       ·have aDk:¬(c:Int)<=x.a:=by omega
        have s:Hid (qQ w (wr.alloc (aO #[aB aI (x.a:Int),aB aI (x.o:Int),aB aI (x.t:Int)] 82)) bs (aK ⟨d,0,aJ⟩) a2 n1 n2 c1 c2 z.f z.e b {z with l:=iT c (b.fin) t z.l (k+1),y:=sS z.y z.f b.a t (2^b.o)}):=by
         rw[HS.out (λh=>X h.1)];exact H
        clear GV QH;go_wp2
        go_roundw
        case rel=>exact⟨k+1,by omega,by go_num,s⟩
        case measure=>simp[intOf];omega
      ·obtain rfl:k=n1:=by omega
       have HF:Hid (qQ w wr bs (aK ⟨d,0,aJ⟩) a2 k n2 c1 c2 z.f z.e b (z.steal z.l[i] t)):=by
        have hh:=HB.out;subst hh;have hf:=yX.out;subst hf;unfold Zn.steal;rw[if_neg ho2,aDj];have:=B.out;rw[show k=z.l.length by omega]at this;rw[IQ]at this;rw[show k=z.l.length by omega];exact this
       go_wp2
       refine bodyPost_end (v:=aG #[]) (by simp[results,results174,go_sem]) rfl ⟨rfl,?_,?_⟩
       ·have h7:=HF.out.own;rw[HB.out]at h7;exact h7
       ·exact HF.out.bw
    ·have aI8:¬(c:Int)+8<=(b.fin:Int):=by omega
     have aDj:max b.fin (c+8)=c+8:=by omega
     go_wp2
     go_loopw [10,11,49] (λ_ _ D wr=>∃k:Nat,k<=n1/\D=aB aI (k:Int)/\Hid (qQ w wr bs (aK ⟨d,0,aJ⟩) a2 n1 n2 c1 c2 z.f z.e b {z with l:=iT c (c+8) t z.l k,y:=sS z.y z.f b.a t (2^b.o)})) (λ_ _ D _=>n1-(intOf D).toNat)
     case atStart=>exact⟨0,gU _,rfl,F⟩
     case round=>
      obtain⟨k,hk,rfl,B⟩:=hrel;clear F A;by_cases hlt:k<n1
      ·have r:k<z.l.length:=by omega
       have q:k<(iT c (c+8) t z.l k).length:=by rw[uP];exact r
       have I:=B.out;have hHi:=I.hi;obtain⟨bb',M,e',Ec,E⟩:=aZ aX (by decide) I.own.at.r1 q;obtain⟨rfl,rfl⟩:d=bb'/\0=M:=by simpa using e'
       rw[Nat.zero_add,Aa c (c+8) t z.l k r q]at E;obtain⟨U,hc1,P⟩:=bZ (o:=k*3) E;have Q:=(hz.2.fit _ (gL r)).1;have HP:Hid (c<=z.l[k].a/\z.l[k].fin<=c+8->∀W,qQ w W bs (aK ⟨d,0,aJ⟩) a2 n1 n2 c1 c2 z.f z.e b {z with l:=iT c (c+8) t z.l k,y:=sS z.y z.f b.a t (2^b.o)}->qQ w (W.setCell ⟨d,k*3+2,aJ⟩ (aB aI (t:Int))) bs (aK ⟨d,0,aJ⟩) a2 n1 n2 c1 c2 z.f z.e b {z with l:=iT c (c+8) t z.l (k+1),y:=sS z.y z.f b.a t (2^b.o)}):=by
        intro h W hW;have h1:=hW.aAR q rfl t;rw[IU c (c+8) t z.l k r q h];exact h1
       have HS:=gO (ES c (c+8) t z.l k r);obtain⟨g5,v5,e5,_,_,K,L⟩:=iJ I.own.o1 (k*3+2) (by rw[flat_length aX];show k*3+2<(iT c (c+8) t z.l k).length*3;omega);obtain rfl:d=g5:=by simpa using e5
       clear E I e' q e5;generalize z.l[k]=x at*;have T:w.heap.size+1<wr.heap.size:=by omega
       have u:=aT wr (aO #[aB aI (x.a:Int),aB aI (x.o:Int),aB aI (x.t:Int)] 82);have H:=gO (B.out.below u hbs);have GV:=(u.cell (p:=⟨d,k*3+2,aJ⟩) Ec).trans K;have QH:=(u.frozen (p:=⟨d,k*3+2,aJ⟩) Ec).trans L;have K11:=bI wr #[aB aI (x.a:Int),aB aI (x.o:Int),aB aI (x.t:Int)] 82;have hkn:(k:Int)<n1:=by omega
       have h3a:x.a<=1000:=by have:=Q.2.2.1;omega
       have O:=gI Ec u.size;clear K L Ec;by_cases X:c<=x.a
       ·have aDk:(c:Int)<=x.a:=by omega
        go_wp2_with fail
        clear u U hc1 P K11;generalize wr.alloc _=w4 at*;refine(mD x _ Q.1 h3a).mono ?_;rintro ev w5 ⟨rfl,C⟩;have G:=gO (H.out.below C hbs);have aJa:=(C.cell (p:=⟨d,k*3+2,aJ⟩) O).trans GV;have aJb:=(C.frozen (p:=⟨d,k*3+2,aJ⟩) O).trans QH;have A:=G.out.k3 2;simp only[gB,gC,gD]at A;clear C H B GV QH
        dsimp only
        by_cases S:x.fin<=c+8
        ·have n:(x.fin:Int)<=((c+8:Nat):Int):=by omega
         have s:=gO (HP.out ⟨X,S⟩ _ G.out)
         push_cast at n
         go_wp2
         go_roundw
         case rel=>exact⟨k+1,by omega,by go_num,s⟩
         case measure=>simp[intOf];omega
        ·have n:¬(x.fin:Int)<=((c+8:Nat):Int):=by omega
         push_cast at n
         have s:Hid (qQ w w5 bs (aK ⟨d,0,aJ⟩) a2 n1 n2 c1 c2 z.f z.e b {z with l:=iT c (c+8) t z.l (k+1),y:=sS z.y z.f b.a t (2^b.o)}):=by
          rw[HS.out (λh=>S h.2)];exact G
         go_wp2
         go_roundw
         case rel=>exact⟨k+1,by omega,by go_num,s⟩
         case measure=>simp[intOf];omega
       ·have aDk:¬(c:Int)<=x.a:=by omega
        have s:Hid (qQ w (wr.alloc (aO #[aB aI (x.a:Int),aB aI (x.o:Int),aB aI (x.t:Int)] 82)) bs (aK ⟨d,0,aJ⟩) a2 n1 n2 c1 c2 z.f z.e b {z with l:=iT c (c+8) t z.l (k+1),y:=sS z.y z.f b.a t (2^b.o)}):=by
         rw[HS.out (λh=>X h.1)];exact H
        clear GV QH;go_wp2
        go_roundw
        case rel=>exact⟨k+1,by omega,by go_num,s⟩
        case measure=>simp[intOf];omega
      ·obtain rfl:k=n1:=by omega
       have HF:Hid (qQ w wr bs (aK ⟨d,0,aJ⟩) a2 k n2 c1 c2 z.f z.e b (z.steal z.l[i] t)):=by
        have hh:=HB.out;subst hh;have hf:=yX.out;subst hf;unfold Zn.steal;rw[if_neg ho2,aDj];have:=B.out;rw[show k=z.l.length by omega]at this;rw[IQ]at this;rw[show k=z.l.length by omega];exact this
       go_wp2
       refine bodyPost_end (v:=aG #[]) (by simp[results,results174,go_sem]) rfl ⟨rfl,?_,?_⟩
       ·have h7:=HF.out.own;rw[HB.out]at h7;exact h7
       ·exact HF.out.bw
end Go.Proofs.YtjaogfhcnmjkiaaGreatDoor
