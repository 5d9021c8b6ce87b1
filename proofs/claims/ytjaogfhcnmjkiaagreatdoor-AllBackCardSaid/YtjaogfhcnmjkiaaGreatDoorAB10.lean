/- joined. -/
import Derived.Test.YtjaogfhcnmjkiaaGreatDoorAB7
set_option linter.all false
set_option maxRecDepth 100000
set_option maxHeartbeats 0
namespace Go.Proofs.YtjaogfhcnmjkiaaGreatDoor
open Go.RowKit
open Go.Value renaming slice->aA,int->aB,agg->aC,string->aF,tuple->aG,pointer->aH,ownBlock->gTh
open Go.IntKind renaming i64->aI
open Option renaming none->aJ,some->aK
open Go.Ending renaming returned->aN
open Go.Obj renaming cells->aO
open Go.Proofs.Tryz
variable {X:Nat->Prop}{g i j:Nat}{h:Hp}{l:List Nat}{r:List Bk}{w':World}
theorem Oa {l:List Ls}(h:i<l.length):lsB (l.take (i+1))=lsB (l.take i)++mG l[i].p:=by
 have c:∀a b:List Ls,lsB (a++b)=lsB a++lsB b:=λa b=>by
  induction a with
  | nil=>rfl
  | cons x a ih=>simp only[List.cons_append,lsB,ih,List.append_assoc]
 rw[List.take_succ_eq_append_getElem h,c];simp[lsB]
theorem Vo (l:List Ls)(i:Nat):lsB l=lsB (l.take i)++lsB (l.drop i):=by
 have c:∀a b:List Ls,lsB (a++b)=lsB a++lsB b:=λa b=>by
  induction a with
  | nil=>rfl
  | cons x a ih=>simp only[List.cons_append,lsB,ih,List.append_assoc]
 rw[<- c,List.take_append_drop]
theorem Tv (done:List Bk)(l:List Nat)(j:Nat)(hj:j<l.length):done++mG (l.take (j+1))=(done++mG (l.take j))++[⟨l[j],0,0⟩]:=by
 rw[List.take_succ_eq_append_getElem hj,List.append_assoc];unfold mG;rw[List.map_append];rfl
theorem aA4 {done:List Bk}(h:∀p,cnt (done++(mG l++r)) p<=1)(hj:j<l.length)(p:Nat):cnt ((done++mG (l.take j))++[⟨l[j],0,0⟩]) p<=1:=by
 rw[<- Tv done l j hj];have a:mG l=mG (l.take (j+1))++mG (l.drop (j+1)):=by unfold mG;rw[<- List.map_append,List.take_append_drop]
 have b:=h p;rw[a,dD,dD,dD]at b;rw[dD];omega
theorem Yn (az am al av:Option Addr)(cz cm cl cv nl nv G:Nat)(y0 y1:Zc)(lc:List Lc)(h:Hp)(done:List Bk)(w0 w:World)(hh:HAt w0 az am al av nl nv y0 y1 lc h)(hw0:w0.heap.size<=G)(hb0:Below w0.heap.size w0 w)(hk:fG h)(hnl:nl<=1000)(hm:BO w G (Hl done) false)(hone:∀p,cnt (done++lsB h.ls) p<=1):
 Calls prog 67 #[aC #[aA az 2 cz,aA am 2 cm,aB aI h.aP,aA al nl cl,aA av nv cv],aH (aK ⟨G,0,aJ⟩)] w λev w'=>ev=aN (.bool true)/\BO w' G (Hl (done++lsB h.ls)) false/\Safe (λk=>k≠G) w w':=by
 obtain⟨K2,F2,hsz,D⟩:=boxes1 w #[aA az 2 cz,aA am 2 cm,aB aI (h.aP:Int),aA al nl cl,aA av nv cv] 39;have WW:=hm.hi;have HM:=gO (hm.below D);have HH:=gO hh;have Q:=gO (hb0.trans (D.mono hb0.size));have hlen:lc.length=nl:=hh.nl;have aJk:h.ls.length=nl:=by rw[<- hh.ll,gTe,hlen]
 have HLL:=gO hh.ll;have NY:Hid (mJ h.ls):=hk.lk;have HLR:=gO hk.lr;have aJo:=gO hone;have Yo:=gO (Safe.jT (X:=λk=>k≠G) D);clear hh hm hb0 hone D;go_enter func67,ntmps67
 go_wp2
 generalize w.alloc _=w1 at*;go_loopw [12] (λT wr=>∃i:Nat,i<=nl/\T=aB aI (i:Int)/\Hid (BO wr G (Hl (done++lsB (h.ls.take i))) false)/\Hid (Safe (λk=>k≠G) w1 wr)) (λT _=>nl-(intOf T).toNat)
 case atStart=>exact⟨0,gU _,rfl,by simpa[Hid,lsB]using HM.out,Safe.refl _ _⟩
 case round=>
  obtain⟨i,hi,rfl,HK,HS⟩:=hrel;have hne:w.heap.size≠G:=by omega
  have Dx:=HS.out.box K2 hsz hne;have XV:=HS.out.size;have O:w.heap.size<wr.heap.size:=by omega
  have hB:=gO (HS.out.after Q.out (B:=w0.heap.size) (λk hk=>by omega) (by have:=Q.out.size;omega));have M:=Dx 0;have k21:=Dx 1;have N:=Dx 2;have Y:=Dx 3;have k24:=Dx 4;simp only[gB,gC,gD]at M k21 N Y k24;clear Dx;by_cases hlt:i<nl
  ·have hlt2:(i:Int)<nl:=by omega
   have q:i<lc.length:=by omega
   have F:i<h.ls.length:=by omega
   have W:∀j (d:j<lc.length) (h2:j<h.ls.length),lc[j].l=h.ls[j]:=λj d h2=>by
    have h3:=congrArg (·[j]?) HLL.out;simp[d,h2]at h3;exact h3
   have C:=gO (HH.out.below hB.out);obtain⟨o,off,ha1,m,hc⟩:=aZ bF (by decide) C.out.lr q;obtain rfl:=ha1;obtain⟨hc0,hc1,hc2,hc3⟩:=o9 hc;have hpr:=C.out.pr _ (gL q);have b:=HLR.out _ (gL F);have J:Hid (0<i->∃k,k+1=i/\∃y:Lc,(∀j v,(dB y)[j]? =aK v->wr.cell? ⟨o,off+k*4+j,aJ⟩=aK v)/\y.l.key<h.ls[i].key/\y.l.z<2/\y.l.t<3):=λh0=>by
    obtain⟨bb',off',ha2,aAS,hc'⟩:=aZ bF (by decide) C.out.lr (j:=i-1) (by omega);obtain⟨rfl,rfl⟩:o=bb'/\off=off':=by simpa using ha2
    have h5:=W (i-1) (by omega) (by omega);have h6:=HLR.out _ (gL (show i-1<h.ls.length by omega));refine⟨i-1,by omega,lc[i-1],hc',?_,?_⟩
    ·rw[h5];exact gN.1 NY.out (i-1) i (by omega) (by omega) (by omega)
    ·rw[h5];exact⟨h6.2.1,h6.2.2.1⟩
   have aFW:=W i q F;rw[aFW]at hc0 hc1 hc2 hpr;have U:=gO (Oa F);have hpz:Hid (∀p∈h.ls[i].p,p<256/\h.jX p=h.ls[i].z):=λp hp=>by
    have h7:=b.2.2.2.2.2 p hp;have h8:=b.2.1;refine⟨h7.1,?_⟩;unfold Hp.jX;by_cases h9:p<h.z0.e
    ·rw[if_pos h9];exact(h7.2.1 h9).symm
    ·rw[if_neg h9];have:=λe=>h9 (h7.2.2 e);omega
   have HC1:Hid (∀p,cnt ((done++lsB (h.ls.take i))++(mG h.ls[i].p++lsB (h.ls.drop (i+1)))) p<=1):=λp=>by
    have d:=aJo.out p;have h2:lsB h.ls=lsB (h.ls.take i)++(mG h.ls[i].p++lsB (h.ls.drop (i+1))):=by
     rw[<- List.append_assoc,<- Oa F];exact Vo h.ls (i+1)
    rw[h2,<- List.append_assoc]at d;exact d
   have dA:=b.1;have hzz:=b.2.1;have htt:=b.2.2.1;have hp1:=b.2.2.2.1;have hp8:=b.2.2.2.2.1;obtain⟨hpn,aFX⟩:=hpr;have aFY:=HH.out.pr _ (gL q);have K:Hid (Row w0 lc[i].a (flat jA lc[i].l.p)):=aFY.2;clear aFY;rw[aFW]at K;generalize h.ls[i]=y at*;clear hc W b;generalize lc[i]=r at*;obtain⟨I,H,S,_,_⟩:=aZ dH (by decide) K.out (j:=0) (show 0<y.p.length by omega);generalize r.a=ra at*;obtain rfl:=S;rw[hpn]at hp1 hp8;have g1:decide ((y.c:Int)<0)=false:=gV (by omega);have g3:decide ((y.z:Int)<0)=false:=gV (by omega);have g5:decide ((y.t:Int)<0)=false:=gV (by omega);have g4:decide ((1:Int)<y.z)=false:=gV (by omega);have g6:decide ((3:Int)<=y.t)=false:=gV (by omega);have g8:decide ((8:Int)<r.n)=false:=gV (by omega);have gg2:decide (h.aP<=y.c)=false:=gV (by omega);have gg4:decide (1<y.z)=false:=gV (by omega);have gg6:decide (3<=y.t)=false:=gV (by omega);have gg7:((r.n:Int) == 0)=false:=by rw[beq_eq_false_iff_ne];omega
   have gg8:decide (8<r.n)=false:=gV (by omega);go_wp2_with fail
   obtain⟨E2,EF2,Kv,g⟩:=boxes1 wr #[aB aI (y.c:Int),aB aI (y.z:Int),aB aI (y.t:Int),aA (aK ⟨I,H,aJ⟩) r.n r.c] 160;have e0:=E2 0;have e1:=E2 1;have e2:=E2 2;have e3:=E2 3;simp only[gB,gC,gD]at e0 e1 e2 e3;have q0:=(g.cell (p:=⟨w.heap.size,0,aJ⟩) O).trans M;have q2:=(g.cell (p:=⟨w.heap.size,2,aJ⟩) O).trans N;have q3:=(g.cell (p:=⟨w.heap.size,3,aJ⟩) O).trans Y;have aA2:w.heap.size<(wr.alloc (aO #[aB aI (y.c:Int),aB aI (y.z:Int),aB aI (y.t:Int),aA (aK ⟨I,H,aJ⟩) r.n r.c] 160)).heap.size:=by omega
   have hpx:Hid (0<i->∃k:Nat,(i:Int)-1=k/\(k:Int)<nl/\k<nl/\o<(wr.alloc (aO #[aB aI (y.c:Int),aB aI (y.z:Int),aB aI (y.t:Int),aA (aK ⟨I,H,aJ⟩) r.n r.c] 160)).heap.size/\∃x:Lc,x.l.key<y.key/\(x.l.z<2/\x.l.t<3)/\(wr.alloc (aO #[aB aI (y.c:Int),aB aI (y.z:Int),aB aI (y.t:Int),aA (aK ⟨I,H,aJ⟩) r.n r.c] 160)).cell? ⟨o,off+k*4,aJ⟩=aK (aB aI x.l.c)/\(wr.alloc (aO #[aB aI (y.c:Int),aB aI (y.z:Int),aB aI (y.t:Int),aA (aK ⟨I,H,aJ⟩) r.n r.c] 160)).cell? ⟨o,off+k*4+1,aJ⟩=aK (aB aI x.l.z)/\(wr.alloc (aO #[aB aI (y.c:Int),aB aI (y.z:Int),aB aI (y.t:Int),aA (aK ⟨I,H,aJ⟩) r.n r.c] 160)).cell? ⟨o,off+k*4+2,aJ⟩=aK (aB aI x.l.t)/\(wr.alloc (aO #[aB aI (y.c:Int),aB aI (y.z:Int),aB aI (y.t:Int),aA (aK ⟨I,H,aJ⟩) r.n r.c] 160)).cell? ⟨o,off+k*4+3,aJ⟩=aK (aA x.a x.n x.c)):=λh0=>by
    obtain⟨k,hki,x,hxc,u,Z⟩:=J.out h0;obtain⟨x0,x1,x2,x3⟩:=o9 hxc;exact⟨k,by omega,by omega,by omega,gI m g.size,x,u,Z,(g.cell (p:=⟨o,off+k*4,aJ⟩) m).trans x0,(g.cell (p:=⟨o,off+k*4+1,aJ⟩) m).trans x1,(g.cell (p:=⟨o,off+k*4+2,aJ⟩) m).trans x2,(g.cell (p:=⟨o,off+k*4+3,aJ⟩) m).trans x3⟩
   have HE2:=gO E2;have HK5:=gO (HK.out.below g);have HS5:=gO (HS.out.then g);have HB5:=gO (Dl g hB.out (by have:=Q.out.size;have:=hB.out.size;omega));clear E2 EF2 J HK HS hB C hc0 hc1 hc2 hc3 g M k21 N Y k24 aFX;generalize wr.alloc _=w5 at*;by_cases h0:0<i;all_goals first
    |(obtain⟨k,hik,hkn,hkn2,aJm,x,u,Z,x0,x1,x2,x3⟩:=hpx.out h0
      have g9:decide ((0:Int)<i)=true:=gTg (by omega);have gg9:decide (0<i)=true:=gTg h0;have gl:decide (x.l.key<y.key)=true:=gTg u;have hyz:y.z<2/\y.t<3:=⟨hzz,htt⟩
      refine bH (by kernel_rfl) (by kernel_rfl) ?_
      repeat (go_big_quiet_step ((go_at_call 118;exact Calls.dF (Ae x.l y _ _ _ _ _ _ _ Z hyz)))))
    |(have g9:decide ((0:Int)<i)=false:=gV (by omega)
      have gg9:decide (0<i)=false:=gV (by omega);refine bH (by kernel_rfl) (by kernel_rfl) ?_
      repeat (go_big_quiet_step (fail)))
   all_goals
    refine wpQuiet_nil ?_;rintro _ ⟨wx,rfl⟩
    try clear gl u
    have Vp:=bD w5 wx;have K6:=aQ HE2.out Kv Vp;have HK6:=gO (HK5.out.below Vp);have HS6:=gO (HS5.out.then Vp);have A:=gO (Dl Vp HB5.out (by have:=HB5.out.size;omega));have Vq:wr.heap.size<(ext w5 wx).heap.size:=gI Kv Vp.size;have hGr:G<wr.heap.size:=by omega
    have f3:=K6 3;simp only[gB,gC,gD]at f3;generalize ext w5 wx=w6 at*;clear Vp;go_wp2_with fail
    obtain⟨we,rfl⟩:∃we,we=wr:=⟨_,rfl⟩
    go_loopw [77] (λR wq=>∃j:Nat,j<=r.n/\R=aB aI (j:Int)/\Hid (BO wq G (Hl ((done++lsB (h.ls.take i))++mG (y.p.take j))) false)/\Hid (Safe (λk=>k≠G) w6 wq)) (λR _=>r.n-(intOf R).toNat)
    case atStart=>exact⟨0,gU _,rfl,by simpa[Hid,mG]using HK6.out,Safe.refl _ _⟩
    case round=>
     obtain⟨j,hj,rfl,HQ,Ob⟩:=hrel;have aDv:=Ob.out.size;have aJq:we.heap.size≠G:=by omega
     by_cases hjl:j<r.n
     ·have aDw:(j:Int)<r.n:=by omega
      have E:j<y.p.length:=by omega
      have rJ:=gO (Ob.out.after A.out (B:=w0.heap.size) (λk hk=>by omega) (by have:=A.out.size;omega));obtain⟨pb',Fa,S,hpb,hpc⟩:=aZ dH (by decide) (K.out.below (rJ.out)) (j:=j) E;obtain⟨rfl,rfl⟩:I=pb'/\H=Fa:=by simpa using S
      have Fb:=lI hpc;have hpp:=hpz.out _ (gL E);have hcn:=gO (aA4 HC1.out E);have hnx:=gO (Tv (done++lsB (h.ls.take i)) y.p j E);obtain⟨P,hP⟩:∃P,y.p[j]=P:=⟨_,rfl⟩
      rw[hP]at Fb hpp;have HP:=gO hP;clear hpc hP;rw[Nat.mul_one]at Fb;go_wp2_with fail
      refine(EZ G ⟨P,0,0⟩ _ _ HQ.out (λp=>by have d:=hcn.out p;rw[HP.out]at d;exact d) (by show P+1<=256;omega) 1 rfl).mono ?_;rintro ev L ⟨rfl,s,hs7⟩;have HM7:Hid (BO L G (Hl ((done++lsB (h.ls.take i))++mG (y.p.take (j+1)))) false):=by
       unfold Hid;rw[hnx.out,HP.out];exact s
      have f:=gO (Ob.out.trans hs7);have hB7:=f.out.after A.out (B:=w0.heap.size) (λk hk=>by omega) (by have:=A.out.size;omega);have HAT7:=gO (HH.out.below hB7);have b7:=(s.k 256).trans (Aj _ _);have hG7:=s.hi;have hw7:w.heap.size<L.heap.size:=by have:=f.out.size;omega
      have aNX:we.heap.size<L.heap.size:=by have:=f.out.size;omega
      have H7:=f.out.box K6 Vq aJq;have L7:=(HS6.out.trans f.out).box K2 hsz hne;have l70:=L7 0;have l71:=L7 1;have l72:=L7 2;have l73:=L7 3;have l74:=L7 4;have r71:=H7 1;simp only[gB,gC,gD]at l70 l71 l72 l73 l74 r71;clear H7 L7 s hs7 hB7 Fb;have gz:(((h.jX P:Nat):Int) != (y.z:Int))=false:=by simp[hpp.2]
      go_wp2_with fail
      refine bH (by kernel_rfl) (by kernel_rfl) ?_
      repeat (go_big_quiet_step ((go_at_call 87;exact Calls.dF (Ko _ _ _ _ _ _ _ _ _ _ _ _ _ h P _ (HAT7.out.below (bD L _))))))
      refine wpQuiet_nil ?_;rintro _ ⟨wy,rfl⟩;have HS8:=gO (f.out.then (bD L wy));have HM8:=gO (HM7.out.below (bD L wy));generalize ext L wy=w8 at*;go_wp2
      go_roundw
      case rel=>exact⟨j+1,by omega,by go_num,HM8,HS8⟩
      case measure=>simp[intOf];omega
     ·obtain rfl:j=r.n:=by omega
      have hend:Hid (BO wr G (Hl (done++lsB (h.ls.take (i+1)))) false):=by
       unfold Hid;rw[U.out,<- List.append_assoc];have d:=HQ.out;rw[gTf (show y.p.length<=r.n by omega)]at d;exact d
      have V:=gO (HS6.out.trans Ob.out);go_wp2_with fail
      go_roundw
      case rel=>exact⟨i+1,by omega,by go_num,hend,V⟩
      case measure=>simp[intOf];omega
  ·obtain rfl:i=nl:=by omega
   have hend:Hid (BO wr G (Hl (done++lsB h.ls)) false):=by
    have d:=HK.out;rw[gTf (by omega)]at d;exact d
   go_wp2
   go_ret
   exact⟨rfl,hend.out,Yo.out.trans HS.out⟩
theorem aDx (n:Nat)(w:World)(hn:n<=256):
 Calls prog 65 #[aB aI (n:Int)] w λev w'=>ev=aN (.bool false)/\Below w.heap.size w w':=by
 have b:decide ((n:Int)<0)=false:=gV (by omega);have a:decide ((256:Int)<n)=false:=gV (by omega);go_enter func65,ntmps65
 go_wp2
 go_ret
 exact⟨rfl,gX _ _⟩
theorem fin256 {f e a o:Nat}(h:dM f e a o)(he:e<=256):a+2^o<=256:=by
 obtain⟨c,d,g,b⟩:=h;obtain rfl | rfl | rfl | rfl | rfl:o=0∨o=1∨o=2∨o=3∨o=4:=by omega
 all_goals simp at b ⊢;omega
theorem Tz {a l:List Bk}(h:∀p,cnt (a++(l++r)) p<=1)(hj:j<l.length)(p:Nat):cnt ((a++l.take j)++[l[j]]) p<=1:=by
 have b:l=l.take (j+1)++l.drop (j+1):=(List.take_append_drop _ _).symm;have c:=h p;rw[b,dD,dD,dD,List.take_succ_eq_append_getElem hj,dD]at c;rw[dD,dD];omega
theorem IX (a l:List Bk)(hj:j<l.length):a++l.take (j+1)=(a++l.take j)++[l[j]]:=by
 rw[List.take_succ_eq_append_getElem hj,List.append_assoc]
def Oc (h:Hp)(i:Nat):List Bk:=if i=0 then[]else if i=1 then h.z0.l else h.z0.l++h.z1.l
theorem Yp (h:Hp)(hi:i<2):Oc h (i+1)=Oc h i++(h.zone i).l:=by
 unfold Oc Hp.zone;obtain rfl | rfl:i=0∨i=1:=by omega
 ·simp
 ·simp
theorem Vr (h:Hp)(hi:i<2):∃r,h.all=Oc h i++((h.zone i).l++r):=by
 unfold Oc Hp.zone Hp.all;obtain rfl | rfl:i=0∨i=1:=by omega
 ·exact⟨_,by simp;rfl⟩
 ·exact⟨_,by simp;rfl⟩
theorem Vs (hone:∀p,cnt h.all p<=1)(p:Nat):cnt (Oc h 2++lsB h.ls) p<=1:=by
 have a:=hone p;unfold Hp.all at a;unfold Oc;simp only[dD,show ¬(2:Nat)=0 by omega,show ¬(2:Nat)=1 by omega,if_false]at a ⊢;omega
theorem Yq (hone:∀p,cnt h.all p<=1)(p:Nat):cnt ((Oc h 2++lsB h.ls)++(h.live++[])) p<=1:=by
 have a:=hone p;unfold Hp.all at a;unfold Oc;simp only[dD,show ¬(2:Nat)=0 by omega,show ¬(2:Nat)=1 by omega,if_false,cnt]at a ⊢;omega
theorem zeroMarks0:Tryz.zeroCells146=(((List.range 256).map λ_=>Value.bool false)++[Value.bool false]).toArray:=by kernel_rfl
theorem Vt:Tryz.zeroCells146=uU (Hl []) false:=zeroMarks0
theorem x9 (az am al av:Option Addr)(cz cm cl cv nl nv:Nat)(y0 y1:Zc)(lc:List Lc)(h:Hp)(w:World)(hh:HAt w az am al av nl nv y0 y1 lc h)(hk:fG h)(hnl:nl<=1000)(QS:nv<=1000):
 Calls prog 30 #[aC #[aA az 2 cz,aA am 2 cm,aB aI h.aP,aA al nl cl,aA av nv cv]] w λev w'=>ev=aN (aB aI 0)/\Below w.heap.size w w':=by
 obtain⟨K1,F1,hsz,hbw⟩:=boxes1 w #[aA az 2 cz,aA am 2 cm,aB aI (h.aP:Int),aA al nl cl,aA av nv cv] 39;have HH:=gO hh;have HK:=gO hk;have Kw:=hh.nv;have hcp:=hk.cp;have e0:=hh.e0;have e1:=hh.e1;have f0:=gO hk.f0;have f1:=gO hk.e0;have f2:=gO hk.e1;have m0:=hk.m0;have m1:=hk.m1;have hb1:=gO hbw;clear hk;obtain⟨v,A,ha1,_,_⟩:=aZ iV (by decide) hh.zr (j:=0) (by simp);obtain rfl:=ha1;have D:Hid (∀W,Below w.heap.size w W->v<W.heap.size/\(W.cell? ⟨v,A,aJ⟩=aK (aB aI h.z0.f)/\W.cell? ⟨v,A+1,aJ⟩=aK (aB aI h.z0.e)/\W.cell? ⟨v,A+2,aJ⟩=aK (aA y0.a1 y0.n1 y0.c1)/\W.cell? ⟨v,A+3,aJ⟩=aK (aA y0.a2 y0.n2 y0.c2))/\(W.cell? ⟨v,A+4,aJ⟩=aK (aB aI h.z1.f)/\W.cell? ⟨v,A+4+1,aJ⟩=aK (aB aI h.z1.e)/\W.cell? ⟨v,A+4+2,aJ⟩=aK (aA y1.a1 y1.n1 y1.c1)/\W.cell? ⟨v,A+4+3,aJ⟩=aK (aA y1.a2 y1.n2 y1.c2))):=λW z=>by
  obtain⟨b1,o1,C,h2,h3⟩:=aZ iV (by decide) (hh.below z).zr (j:=0) (by simp);obtain⟨b2,o2,h4,h5,h6⟩:=aZ iV (by decide) (hh.below z).zr (j:=1) (by simp);obtain⟨rfl,rfl⟩:v=b1/\A=o1:=by simpa using C
  obtain⟨rfl,rfl⟩:v=b2/\A=o2:=by simpa using h4
  have h7:=lK h3;have h8:=lK h6;simp only[List.getElem_cons_zero,List.getElem_cons_succ,Nat.zero_mul,Nat.one_mul,Nat.add_zero,e0,e1]at h7 h8;exact⟨h2,h7,h8⟩
 have KB:Hid (∀W,Below (w.heap.size+1) (w.alloc (aO #[aA (aK ⟨v,A,aJ⟩) 2 cz,aA am 2 cm,aB aI (h.aP:Int),aA al nl cl,aA av nv cv] 39)) W->w.heap.size<W.heap.size/\W.cell? ⟨w.heap.size,0,aJ⟩=aK (aA (aK ⟨v,A,aJ⟩) 2 cz)/\W.cell? ⟨w.heap.size,1,aJ⟩=aK (aA am 2 cm)/\W.cell? ⟨w.heap.size,2,aJ⟩=aK (aB aI (h.aP:Int))/\W.cell? ⟨w.heap.size,3,aJ⟩=aK (aA al nl cl)/\W.cell? ⟨w.heap.size,4,aJ⟩=aK (aA av nv cv)):=λW z=>by
  have hs:(w.alloc (aO #[aA (aK ⟨v,A,aJ⟩) 2 cz,aA am 2 cm,aB aI (h.aP:Int),aA al nl cl,aA av nv cv] 39)).heap.size=w.heap.size+1:=by simp
  have C:=aQ K1 hsz (by rw[hs];exact z);have h2:=C 0;have h3:=C 1;have h4:=C 2;have h5:=C 3;have h6:=C 4;simp only[gB,gC,gD]at h2 h3 h4 h5 h6;exact⟨by have:=z.size;omega,h2,h3,h4,h5,h6⟩
 have hs1:(w.alloc (aO #[aA (aK ⟨v,A,aJ⟩) 2 cz,aA am 2 cm,aB aI (h.aP:Int),aA al nl cl,aA av nv cv] 39)).heap.size=w.heap.size+1:=by simp
 have c1:decide ((h.aP:Int)<1)=false:=gV (by omega);have c2:decide ((4:Int)<h.aP)=false:=gV (by omega);clear hh K1 F1 hbw;obtain⟨c,g,q,u,m,d⟩:=KB.out _ (gX _ _);obtain⟨QK,⟨N,Q,z02,V⟩,F,z11,z12,I⟩:=D.out _ hb1.out;go_enter func30,ntmps30
 go_wp2_with fail
 generalize w.alloc _=w1 at*;clear c g q u m d QK N Q z02 V F z11 z12 I;have hB1:=HH.out.below hb1.out;have ht:=hB1.t0;refine(qP _ _ _ _ _ _ h.z0 _ ht HK.out.o0).mono ?_;rintro ev w2 ⟨rfl,hc2⟩;have hb2:=gO (gW hb1.out hc2);have hk2:=gO (Dl hc2 (gX (w.heap.size+1) w1) (by omega));clear hc2 hB1 ht;obtain⟨c,g,q,u,m,d⟩:=KB.out _ hk2.out;obtain⟨QK,⟨N,Q,z02,V⟩,F,z11,z12,I⟩:=D.out _ hb2.out;go_wp2_with fail
 clear c g q u m d QK N Q z02 V F z11 z12 I;have hB2:=HH.out.below hb2.out;have ht:=hB2.t1;refine(qP _ _ _ _ _ _ h.z1 _ ht HK.out.o1).mono ?_;rintro ev w3 ⟨rfl,hc3⟩;have hb3:=gO (gW hb2.out hc3);have hk3:=gO (Dl hc3 hk2.out (by have:=hk2.out.size;omega));clear hc3 hB2 ht;obtain⟨c,g,q,u,m,d⟩:=KB.out _ hk3.out;obtain⟨QK,⟨N,Q,z02,V⟩,F,z11,z12,I⟩:=D.out _ hb3.out;have eg:∀args w,(callFunc 65 args).run prog w= .ok (.enter 65 args) w:=enters_of func65 (by kernel_rfl) rfl;have hodd:([h.m0,h.m1].any λn=>decide (256<n))=false:=by
  simp only[List.any_cons,List.any_nil,gV (show ¬256<h.m0 by omega),gV (show ¬256<h.m1 by omega),Bool.or_false]
 have HCF:Hid (∀W,Below w3.heap.size w3 W->Calls prog 64 #[aA am 2 cm,.func (.func 65) #[] #[]] W λe w'=>e=aN (.bool false)/\Below W.heap.size W w'):=λW z=>by
  have hx:=rX am 2 cm [h.m0,h.m1] 65 #[] (λn=>decide (256<n)) W rfl (by omega) (HH.out.below (gW hb3.out z)).mr eg (λW' _ x hx=>(aDx x W' (by simp at hx;omega)).mono λ_ _ ⟨C,h2⟩=>⟨C.trans (bP (gV (by simp at hx;omega)).symm),h2⟩);rw[hodd]at hx;exact hx
 have d1:((h.z0.f:Int) != 0)=false:=by simp[f0.out]
 have d2:((h.z0.e:Int) != (h.z1.f:Int))=false:=by simp[f1.out]
 have d3:((h.z1.e:Int) != 256)=false:=by simp[f2.out]
 go_wp2_with fail
 refine bH (by kernel_rfl) (by kernel_rfl) ?_
 repeat (go_big_quiet_step ((go_at_call 64;exact Calls.dF (HCF.out _ (bD w3 _)))))
 refine wpQuiet_nil ?_;rintro _ ⟨wx,rfl⟩;have hb4:=gO (gW hb3.out (bD w3 wx));have hk4:=gO (Dl (bD w3 wx) hk3.out (by have:=hk3.out.size;omega));clear c g q u m d QK N Q z02 V F z11 z12 I HCF hodd eg;generalize ext w3 wx=w4 at*;obtain⟨c,g,q,u,m,d⟩:=KB.out _ hk4.out;have HZI:Hid (∀i,i<2->∃(f e:Int) (a1:Option Addr) (n1 c1:Nat) (a2:Option Addr) (n2 c2:Nat),(h.zone i).ok/\(h.zone i).l.length=n1/\∀W,Below w.heap.size w W->Row W a1 (flat bC (h.zone i).l)/\v<W.heap.size/\W.cell? ⟨v,A+i*4,aJ⟩=aK (aB aI f)/\W.cell? ⟨v,A+i*4+1,aJ⟩=aK (aB aI e)/\W.cell? ⟨v,A+i*4+2,aJ⟩=aK (aA a1 n1 c1)/\W.cell? ⟨v,A+i*4+3,aJ⟩=aK (aA a2 n2 c2)):=λi hi=>by
  obtain rfl | rfl:i=0∨i=1:=by omega
  ·exact⟨h.z0.f,h.z0.e,y0.a1,y0.n1,y0.c1,y0.a2,y0.n2,y0.c2,HK.out.o0,HH.out.t0.l1,λW z=>⟨(HH.out.below z).t0.r1,(D.out W z).1,by simpa using(D.out W z).2.1.1,by simpa using(D.out W z).2.1.2.1,by simpa using(D.out W z).2.1.2.2.1,by simpa using(D.out W z).2.1.2.2.2⟩⟩
  ·exact⟨h.z1.f,h.z1.e,y1.a1,y1.n1,y1.c1,y1.a2,y1.n2,y1.c2,HK.out.o1,HH.out.t1.l1,λW z=>⟨(HH.out.below z).t1.r1,(D.out W z).1,by simpa using(D.out W z).2.2.1,by simpa using(D.out W z).2.2.2.1,by simpa using(D.out W z).2.2.2.2.1,by simpa using(D.out W z).2.2.2.2.2⟩⟩
 clear D;go_wp2_with fail
 have hm0:BO (w4.alloc (.cells Tryz.zeroCells146 146)) w4.heap.size (Hl (Oc h 0)) false:=by
  have C:=bI w4 Tryz.zeroCells146 146;rw[Vt]at*;exact⟨C,fP _ _ _,by simp⟩
 have hb5:=gO (gW hb4.out (aT w4 (.cells Tryz.zeroCells146 146)));have hk5:=gO (Dl (aT w4 (.cells Tryz.zeroCells146 146)) hk4.out (by have:=hk4.out.size;omega));have HM0:=gO hm0;have hG5:=hm0.hi;have WW:w.heap.size+1<=w4.heap.size:=by have:=hk4.out.size;omega
 clear hm0 hb4 hk4 c g q u m d;generalize w4.alloc _=w5 at*;generalize w4.heap.size=G at*;go_loopw [83] (λs83 wr=>∃i:Nat,i<=2/\s83=aB aI (i:Int)/\Hid (BO wr G (Hl (Oc h i)) false)/\Hid (Safe (λk=>k≠G) w5 wr)) (λs83 _=>2-(intOf s83).toNat)
 case atStart=>exact⟨0,gU _,rfl,HM0,Safe.refl _ _⟩
 case round=>
  obtain⟨i,hi,rfl,R,lD⟩:=hrel;have E:=gO (lD.out.after hb5.out (B:=w.heap.size) (λk hk=>by omega) (by have:=hb5.out.size;omega));have H:=gO (lD.out.after hk5.out (B:=w.heap.size+1) (λk hk=>by omega) (by have:=hk5.out.size;omega));have hGr:=R.out.hi;obtain⟨c,g,q,u,m,d⟩:=KB.out _ H.out;by_cases hlt:i<2
  ·have hlt2:(i:Int)<2:=by omega
   have hcn:∃r,∀p,cnt (Oc h i++((h.zone i).l++r)) p<=1:=by
    obtain⟨r,hr⟩:=Vr h hlt;exact⟨r,λp=>by rw[<- hr];exact HK.out.one p⟩
   obtain⟨rest,hcn⟩:=hcn;obtain⟨zf,ze,a1,n1,c1,a2,n2,c2,GN,hln,hzr⟩:=HZI.out i hlt;obtain⟨_,QK,z0,z1,z2,z3⟩:=hzr wr E.out;have hwr:=hzr;go_wp2_with fail
   have K:=aT wr (aO #[aB aI zf,aB aI ze,aA a1 n1 c1,aA a2 n2 c2] 79);have HM6:=gO (R.out.below K);have HS6:=gO (lD.out.then K);have T:=gO (gW E.out K);have hk6:=gO (Dl K H.out (by have:=H.out.size;omega));have hG6:G<(wr.alloc (aO #[aB aI zf,aB aI ze,aA a1 n1 c1,aA a2 n2 c2] 79)).heap.size:=HM6.out.hi;have HCN:=gO hcn;have WX:=gO (Yp h hlt);have aJr:Hid (∀x∈(h.zone i).l,x.o<=4/\x.fin<=256):=λx hx=>⟨(GN.2.fit x hx).1.1,fin256 (GN.2.fit x hx).1 GN.1.e2⟩
   have aFT:n1<=256:=by
    have:=sQ.length_le GN.2 (λb hb=>(GN.2.fit b hb).1.2.2.1);have:=GN.1.e2;omega
   clear K c g q u m d QK z0 z1 z2 z3 GN R lD E H hcn;have HZR:=gO hzr;clear hzr hwr;generalize (h.zone i).l=L at*;generalize wr.alloc _=w6 at*;generalize wr.heap.size=Bz at*;go_loopw [90] (λs90 wq=>∃j:Nat,j<=n1/\s90=aB aI (j:Int)/\Hid (BO wq G (Hl (Oc h i++L.take j)) false)/\Hid (Safe (λk=>k≠G) w6 wq)) (λs90 _=>n1-(intOf s90).toNat)
   case atStart=>exact⟨0,gU _,rfl,by simpa[Hid]using HM6.out,Safe.refl _ _⟩
   case round=>
    obtain⟨j,hj,rfl,TA,Ob⟩:=hrel;have Z:=gO (Ob.out.after T.out (B:=w.heap.size) (λk hk=>by omega) (by have:=T.out.size;omega));have hGq:=TA.out.hi;by_cases hjl:j<n1
    ·have aDw:(j:Int)<n1:=by omega
     have Kt:j<L.length:=by omega
     obtain⟨pb,nD,hpa,hpb,X⟩:=aZ aX (by decide) (HZR.out _ Z.out).1 Kt;obtain⟨hp0,Y,U⟩:=bZ X;have hft:=aJr.out _ (gL Kt);have J:=gO (Tz HCN.out Kt);have hnj:=gO (IX (Oc h i) L Kt);clear X;generalize L[j]=x at hp0 Y U hft J hnj;obtain rfl:=hpa;obtain⟨hxo,hxf⟩:=hft;have hsh:=wE hxo;go_wp2_with fail
     obtain⟨E2,EF2,Kv,P⟩:=boxes1 wr #[aB aI (x.a:Int),aB aI (x.o:Int),aB aI (x.t:Int)] 82;have e0:=E2 0;have e1:=E2 1;have e2:=E2 2;simp only[gB,gC,gD]at e0 e1 e2;have S:=gO (TA.out.below P);have HS7:=gO (Ob.out.then P);clear E2 EF2 P hp0 Y U;generalize wr.alloc _=w7 at*
     go_still_tail 6,(by kernel_rfl)
     change wpList _ _ _ _ _ w7.drew;have hm8:=S.out.below ((gX w7.heap.size w7).drew);have hs8:=HS7.out.then ((gX w7.heap.size w7).drew);generalize w7.drew=w8 at*;go_wp2_with fail
     refine(EZ G x _ _ hm8 J.out hxf _ hsh).mono ?_;rintro ev w9 ⟨rfl,hm9,hs9⟩;rw[<- hnj.out]at hm9;have HM9:=gO hm9;have HS9:=gO (hs8.trans hs9);clear hm8 hs8 hm9 hs9 S HS7;go_wp2
     go_roundw
     case rel=>exact⟨j+1,by omega,by go_num,HM9,HS9⟩
     case measure=>simp[intOf];omega
    ·obtain rfl:j=n1:=by omega
     have hend:Hid (BO wr G (Hl (Oc h (i+1))) false):=by
      unfold Hid;rw[WX.out];have C:=TA.out;rw[gTf (show L.length<=j by omega)]at C;exact C
     have hse:=gO (HS6.out.trans Ob.out);go_wp2_with fail
     go_roundw
     case rel=>exact⟨i+1,by omega,by go_num,hend,hse⟩
     case measure=>simp[intOf];omega
  ·obtain rfl:i=2:=by omega
   have hrow:=E;have WY:=gO (λp=>Vs HK.out.one p);have HCV:=gO (λp=>Yq HK.out.one p);go_wp2_with fail
   refine(Yn (aK ⟨v,A,aJ⟩) am al av cz cm cl cv nl nv G y0 y1 lc h (Oc h 2) w wr HH.out (by omega) E.out HK.out hnl R.out WY.out).mono ?_;rintro ev w6 ⟨rfl,hm6,hs6⟩;have HM6:=gO hm6;have HS6:=gO (lD.out.trans hs6);have T:=gO (HS6.out.after hb5.out (B:=w.heap.size) (λk hk=>by omega) (by have:=hb5.out.size;omega));have hk6:=gO (HS6.out.after hk5.out (B:=w.heap.size+1) (λk hk=>by omega) (by have:=hk5.out.size;omega));have hG6:=hm6.hi;clear hm6 hs6 R lD E H c g q u m d;obtain⟨c,g,q,u,m,d⟩:=KB.out _ hk6.out;generalize hZS:Oc h 2++lsB h.ls=ZS at*;clear hZS;go_wp2_with fail
   clear c g q u m d;go_loopw [110] (λM wq=>∃j:Nat,j<=nv/\M=aB aI (j:Int)/\Hid (BO wq G (Hl (ZS++h.live.take j)) false)/\Hid (Safe (λk=>k≠G) w6 wq)) (λM _=>nv-(intOf M).toNat)
   case atStart=>exact⟨0,gU _,rfl,by simpa[Hid]using HM6.out,Safe.refl _ _⟩
   case round=>
    obtain⟨j,hj,rfl,TA,Ob⟩:=hrel;have Z:=gO (Ob.out.after T.out (B:=w.heap.size) (λk hk=>by omega) (by have:=T.out.size;omega));have hkq:=gO (Ob.out.after hk6.out (B:=w.heap.size+1) (λk hk=>by omega) (by have:=hk6.out.size;omega));have hGq:=TA.out.hi;obtain⟨c,g,q,u,m,d⟩:=KB.out _ hkq.out;by_cases hjl:j<nv
    ·have aDw:(j:Int)<nv:=by omega
     have Kt:j<h.live.length:=by rw[Kw];exact hjl
     have hvr:=(HH.out.below Z.out).vr;obtain⟨pb,nD,hpa,hpb,X⟩:=aZ aX (by decide) hvr Kt;obtain⟨hp0,Y,U⟩:=bZ X;have hft:=HK.out.lv _ (gL Kt);have J:=gO (Tz HCV.out Kt);have hnj:=gO (IX ZS h.live Kt);have hpx:Hid (0<j->∃k:Nat,(j:Int)-1=k/\(k:Int)<nv/\k<nv/\∃y:Bk,y.a<(h.live[j]).a/\wr.cell? ⟨pb,nD+k*3,aJ⟩=aK (aB aI y.a)):=λh0=>by
      obtain⟨pb',Fa,aF2,_,aJt⟩:=aZ aX (by decide) hvr (j:=j-1) (by omega);obtain⟨rfl,rfl⟩:pb=pb'/\nD=Fa:=by rw[hpa]at aF2;simpa using aF2
      exact⟨j-1,by omega,by omega,by omega,h.live[j-1],gN.1 HK.out.vs (j-1) j (by omega) Kt (by omega),(bZ aJt).1⟩
     clear X hvr;generalize h.live[j]=x at hp0 Y U hft J hnj hpx;obtain rfl:=hpa;obtain⟨hxf,hxt⟩:=hft;have hxe:=fin256 hxf (gT _);obtain⟨C,h2,h3,h4⟩:=hxf;have hsh:=wE C;have hpw:=yS C;have hmod:(x.a:Int)%((2^x.o:Nat):Int)=0:=by rw[<- Int.natCast_emod,h4];rfl
     have d1:decide ((x.o:Int)<0)=false:=gV (by omega);have d2:decide ((4:Int)<x.o)=false:=gV (by omega);have d3:decide ((x.a:Int)<0)=false:=gV (by omega);have d4:decide ((x.t:Int)<0)=false:=gV (by omega);have d5:decide ((3:Int)<=x.t)=false:=gV (by omega);have hfe:x.fin<=256:=hxe;have hmb:=fun(W:World) (hm:BO W G (Hl (ZS++h.live.take j)) false)=>EZ G x _ W hm J.out hfe _ hsh
     have HMB:=gO hmb;clear hmb hfe hxe h2 h3 h4;generalize 2^x.o=s at*;go_wp2_with fail
     obtain⟨E2,EF2,Kv,P⟩:=boxes1 wr #[aB aI (x.a:Int),aB aI (x.o:Int),aB aI (x.t:Int)] 82;have e0:=E2 0;have e1:=E2 1;have e2:=E2 2;simp only[gB,gC,gD]at e0 e1 e2;have q4:=(P.cell (p:=⟨w.heap.size,4,aJ⟩) c).trans d;have aA2:=gI c P.size;have aJu:=gI hpb P.size;have aJv:Hid (0<j->∃k:Nat,(j:Int)-1=k/\(k:Int)<nv/\k<nv/\∃y:Bk,y.a<x.a/\(wr.alloc (aO #[aB aI (x.a:Int),aB aI (x.o:Int),aB aI (x.t:Int)] 82)).cell? ⟨pb,nD+k*3,aJ⟩=aK (aB aI y.a)):=λh0=>by
      obtain⟨k,g1,g2,g3,y,g4,g5⟩:=hpx.out h0;exact⟨k,g1,g2,g3,y,g4,(P.cell (p:=⟨pb,nD+k*3,aJ⟩) hpb).trans g5⟩
     have S:=gO (TA.out.below P);have HS7:=gO (Ob.out.then P);have HE2:=gO E2;clear E2 EF2 P hp0 Y U c g q u m d hpx hpb TA Ob Z hkq;generalize wr.alloc _=w7 at*;by_cases h0:0<j;all_goals first
      |(obtain⟨k,hik,hkn,hkn2,y,hyx,y0'⟩:=aJv.out h0
        have g9:decide ((0:Int)<j)=true:=gTg (by omega);have gg9:decide (0<j)=true:=gTg h0;have g10:decide ((x.a:Int)<=y.a)=false:=gV (by omega);have g11:decide (x.a<=y.a)=false:=gV (by omega);refine bH (by kernel_rfl) (by kernel_rfl) ?_
        repeat (go_big_quiet_step (fail)))
      |(have g9:decide ((0:Int)<j)=false:=gV (by omega)
        have gg9:decide (0<j)=false:=gV (by omega);refine bH (by kernel_rfl) (by kernel_rfl) ?_
        repeat (go_big_quiet_step (fail)))
     all_goals
      refine wpQuiet_nil ?_;rintro _ ⟨wx,rfl⟩
      try clear g11 g10 hyx
      have O:=bD w7 wx;have E8:=aQ HE2.out Kv O;have esz8:wr.heap.size<(ext w7 wx).heap.size:=gI Kv O.size;have HM8:=gO (S.out.below O);have HS8:=gO (HS7.out.then O);generalize ext w7 wx=w8 at*;clear O e0 e1 e2 q4 aA2 aJu HE2 S HS7 Kv
      try clear y0'
      have e0:=E8 0;have e1:=E8 1;have e2:=E8 2;simp only[gB,gC,gD]at e0 e1 e2;clear E8;go_wp2_with fail
      go_still_tail 6,(by kernel_rfl)
      change wpList _ _ _ _ _ w8.drew;have HM9:=gO (HM8.out.below ((gX w8.heap.size w8).drew));have HS9:=gO (HS8.out.then ((gX w8.heap.size w8).drew));generalize w8.drew=w9 at*;clear HM8 HS8;go_wp2_with fail
      refine(HMB.out _ HM9.out).mono ?_;rintro ev w10 ⟨rfl,aDy,hs10⟩;rw[<- hnj.out]at aDy;have HM10:=gO aDy;have HS10:=gO (HS9.out.trans hs10);clear aDy hs10 HM9 HS9;go_wp2
      go_roundw
      case rel=>exact⟨j+1,by omega,by go_num,HM10,HS10⟩
      case measure=>simp[intOf];omega
    ·obtain rfl:j=nv:=by omega
     have b7:=(TA.out.k 256).trans (Aj _ _);have hfin:=gO Z.out;go_wp2
     go_ret
     exact⟨rfl,hfin.out⟩
section
variable {W:World}{G:Nat}{X:Nat->Prop}{h:Hp}{c:Hc}
theorem HR.zat (hs:HR W G X h c)(hi:i<2):IJ W (c.zone i).a1 (c.zone i).a2 (c.zone i).n1 (c.zone i).n2 (h.zone i):=by
 unfold Hc.zone Hp.zone;obtain rfl | rfl:i=0∨i=1:=by omega
 ·exact hs.z0
 ·exact hs.z1
theorem HR.BP (hs:HR W G X h c)(hg:c.az=aK ⟨g,0,aJ⟩)(hi:i<2):W.cell? ⟨g,i*4,aJ⟩=aK (aB aI (h.zone i).f)/\W.cell? ⟨g,i*4+1,aJ⟩=aK (aB aI (h.zone i).e)/\W.cell? ⟨g,i*4+2,aJ⟩=aK (aA (c.zone i).a1 (c.zone i).n1 (c.zone i).c1)/\W.cell? ⟨g,i*4+3,aJ⟩=aK (aA (c.zone i).a2 (c.zone i).n2 (c.zone i).c2):=by
 obtain⟨b,off,d,l,k⟩:=aZ iV (by decide) (bJ hs.zs) (j:=i) (by simpa using hi);obtain⟨rfl,rfl⟩:g=b/\0=off:=by rw[hg]at d;simpa using d
 have a:=lK k;rw[Nat.zero_add]at a;have e0:=hs.e0;have e1:=hs.e1;unfold Hp.zone Hc.zone;obtain rfl | rfl:i=0∨i=1:=by omega
 ·simp only[List.getElem_cons_zero,e0]at a;exact a
 ·simp only[List.getElem_cons_succ,List.getElem_cons_zero,e1]at a;exact a
theorem HR.aF3 (hs:HR W G X h c)(hg:c.az=aK ⟨g,0,aJ⟩)(hi:i<2):W.frozen? ⟨g,i*4,aJ⟩=false/\W.frozen? ⟨g,i*4+1,aJ⟩=false/\W.frozen? ⟨g,i*4+2,aJ⟩=false/\W.frozen? ⟨g,i*4+3,aJ⟩=false:=by
 obtain⟨d,b,_,_,_,a⟩:=hs.EW;obtain rfl:g=d:=by rw[hg]at b;simpa using b
 exact⟨a _ (by omega),a _ (by omega),a _ (by omega),a _ (by omega)⟩
theorem HS.words (hs:HS W G X h c):W.cell? ⟨G,0,aJ⟩=aK (aA c.az 2 c.cz)/\W.cell? ⟨G,1,aJ⟩=aK (aA c.am 2 c.cm)/\W.cell? ⟨G,2,aJ⟩=aK (aB aI (h.aP:Int))/\W.cell? ⟨G,3,aJ⟩=aK (aA c.al c.lc.length c.cl)/\W.cell? ⟨G,4,aJ⟩=aK (aA c.av h.live.length c.cv):=⟨hs.k 0,hs.k 1,hs.k 2,hs.k 3,hs.k 4⟩
theorem TB (c:Hc)(i:Nat)(y:Zc):∃y0 y1,c.fA i y={c with y0:=y0,y1:=y1}:=by
 unfold Hc.fA;split
 ·exact⟨y,c.y1,rfl⟩
 ·exact⟨c.y0,y,rfl⟩
end
theorem aDz (h:Hp)(a:Nat):h.jX a<2:=by unfold Hp.jX;split <;> omega
theorem Fe (G a o:Nat)(X:Nat->Prop)(h:Hp)(c:Hc)(w:World)(hs:HS w G X h c)(hz0:(h.zone (h.jX a)).ok)(aCt:dM (h.zone (h.jX a)).f (h.zone (h.jX a)).e a o)(aF4:∀x∈(h.zone (h.jX a)).l,apartB a o x):
 Calls prog 86 #[aH (aK ⟨G,0,aJ⟩),aB aI a,aB aI o] w λev w'=>ev=aN (aG #[])/\(∃y0 y1,HS w' G X (h.jY a o) {c with y0:=y0,y1:=y1})/\Safe X w w':=by
 have u:=aDz h a;obtain⟨g,O,L,S,hgX,p⟩:=hs.r.EW;obtain⟨F,k1,k2,P,Q⟩:=hs.words;have Z:=hs.r.gs;have m:=gO hs;have s:=gO aCt;have W:=gO hz0;have E:=gO aF4;have n:=gO O;have HF:=gO p;clear hs aCt hz0 aF4 O p;go_enter func86,ntmps86
 go_wp2_with fail
 refine(Ko _ _ _ _ _ _ _ _ _ _ _ _ _ h a _ m.out.r.at).mono ?_;rintro ev k ⟨rfl,b⟩;have j:=gO (m.out.below b);have V:=gO (Safe.jT (X:=X) b);have Oe:g<k.heap.size:=gI L b.size;have T:G<k.heap.size:=gI Z b.size;clear F k1 k2 P Q;obtain⟨F,k1,k2,P,Q⟩:=j.out.words;rw[n.out]at F;obtain⟨z0,z1,z2,z3⟩:=j.out.r.BP n.out u;have B:=gO (j.out.r.zat u);have U:((h.jX a:Nat):Int)<2:=by omega
 clear m b;have I:Hid (h.jY a o=h.kL (h.jX a) ((h.zone (h.jX a)).back a o)):=rfl;generalize h.jX a=i at*;generalize c.zone i=y at*;generalize h.zone i=z at*;go_wp2_with fail
 have t:=j.out.below ((gX k.heap.size k).drew)
 go_region_with (go_at_call 124;refine(uM _ _ _ _ _ _ z a o _ (B.out.below ((gX k.heap.size k).drew)) W.out s.out E.out).mono ?_;rintro ev w3 ⟨D,J,N,C,H,rfl,K,A⟩;have d:=t.below A;have R:=d.words.1;rw[n.out]at R;obtain⟨x0,x1,x2,x3⟩:=d.r.BP n.out u;obtain⟨f0,f1,f2,f3⟩:=d.r.aF3 n.out u;clear d)
 all_goals
  obtain⟨q,M⟩:=t.aFF A u K n.out;obtain⟨y0,y1,Y⟩:=TB c i ⟨z.back a o,D,J,N,y.n2,C,H⟩;rw[Y,<- I.out]at q;refine bodyPost_end (v:=aG #[]) (by simp[results,results86,go_sem]) rfl ⟨rfl,⟨y0,y1,q⟩,(V.out.then ((gX k.heap.size k).drew)).trans M⟩
theorem aA6 (G a o:Nat)(X:Nat->Prop)(h:Hp)(c:Hc)(w:World)(hs:HS w G X h c)(hk:fG h)(hb:dM 0 256 a o)(hd:∀p,cnt h.all p+hit ⟨a,o,0⟩ p<=1):
 Calls prog 86 #[aH (aK ⟨G,0,aJ⟩),aB aI a,aB aI o] w λev w'=>ev=aN (aG #[])/\(∃y0 y1,HS w' G X (h.jY a o) {c with y0:=y0,y1:=y1})/\Safe X w w':=
 Fe G a o X h c w hs (hk.zone _) (hk.fits hb) λx e=>dU λp d b=>by
  have i:=hd p;have g:=EF h (h.jX a) p;have j:=eG.2 (show fJ (h.zone (h.jX a)).l p from⟨x,e,b⟩);have f:hit ⟨a,o,0⟩ p=1:=kR.2 d;omega
theorem vP.safe {w:World}(h:vP w)(hs:Safe X w w')(h0:X 1):vP w':=
 ⟨gI h.sz hs.size,λi v a=>(hs.cell (p:=⟨1,i,aJ⟩) h.sz h0).trans (h.c i v a)⟩
theorem vP.below {w:World}(h:vP w)(hb:Below w.heap.size w w'):vP w':=h.mono hb (gT _)
theorem Yt (l:List Bk):yZ l=szB l:=by
 induction l with
 | nil=>rfl
 | cons b l ih=>rw[yZ,szB,ih]
theorem aA8 (hk:fG h)(i:Nat)(u lo:Bool):h.held i u lo<=1000:=by
 have c:=hk.m0;have a:=hk.m1;have b:=hk.e1;have d:h.min i<=256:=by unfold Hp.min;split <;> omega
 unfold Hp.held;split <;> split <;> omega
theorem Og {z z':Zn}{order t a:Nat}(h:z.ok)(ho:order<=4)(ht:t<3)(he:z.take order t=aK (z',a)):z'.f=z.f/\z'.e=z.e:=by
 by_cases hb:∃b∈z.l,order<=b.o
 ·obtain⟨z1,d,g,c⟩:=Zn.Ip h ho ht hb;rw[g]at he;obtain⟨rfl,rfl⟩:z1=z'/\d=a:=by simpa using he
  exact⟨c.f,c.e⟩
 ·rw[Zn.Iq hb]at he;cases he
theorem Ak (G i order t flags:Nat)(X:Nat->Prop)(h:Hp)(c:Hc)(w:World)(hs:HS w G X h c)(hk:fG h)(hi:i<2)(hor:order<=4)(ht:t<3)(hf:flags<=15)(ho:vP w):
 Calls prog 136 #[aH (aK ⟨G,0,aJ⟩),aB aI i,aB aI order,aB aI t,aB aI flags] w λev w'=>
  (h.nH i order t (h.held i (decide (flags/8%2=1)) (decide (flags%2=1)))=aJ/\ev=aN (aG #[aB aI 0,.bool false])/\HS w' G X h c/\Safe X w w')∨
  (∃h' a y0 y1,h.nH i order t (h.held i (decide (flags/8%2=1)) (decide (flags%2=1)))=aK (h',a)/\ev=aN (aG #[aB aI (a:Nat),.bool true])/\HS w' G X h' {c with y0:=y0,y1:=y1}/\Safe X w w'):=by
 obtain⟨g,hg,hgs,hgG,hgX,hgf⟩:=hs.r.EW;obtain⟨p,k1,k2,x,y⟩:=hs.words;rw[hg]at p;obtain⟨z0,z1,z2,z3⟩:=hs.r.BP hg hi;have Ky:=hs.r.gs;have Q:=gO hs;have T:=gO (hk.zone i);have HK:=gO hk;have L:=gO hg;have b:=gO (hs.r.zat hi);have HO:=gO ho;have hi2:(i:Int)<2:=by omega
 have hS:szB (h.zone i).l<=256:=Xw T.out;have hsh:=wE hor;have O:=yS hor;obtain⟨D,hD⟩:∃D,h.held i (decide (flags/8%2=1)) (decide (flags%2=1))=D:=⟨_,rfl⟩
 have hDb:D<=1000:=by rw[<- hD];exact aA8 hk _ _ _
 have U:Hid (h.nH i order t D=if szB (h.zone i).l<D+2^order then aJ else match (h.zone i).take order t with
  | some (M,a)=>aK (h.kL i M,a)
  | none=>aJ):=rfl
 rw[hD];have HD:=gO hD;clear hs ho hk hg hgf hD;have A:Hid (∃z,h.zone i=z):=⟨_,rfl⟩
 obtain⟨z,E⟩:=A.out;have HZE:=gO E;rw[E]at z0 z1 b T hS U;clear E A;go_enter func136,ntmps136
 go_wp2_with fail
 refine(Yr _ _ _ _ _ _ z _ b.out T.out).mono ?_;rintro ev k ⟨rfl,q⟩;rw[Yt];have o:=gO (Q.out.below q);have Yo:=gO (Safe.jT (X:=X) q);have R:=gO (HO.out.below q);have aF5:G<k.heap.size:=gI Ky q.size;clear p k1 k2 x y z0 z1 z2 z3 Q b HO q Ky hgs;obtain⟨p,k1,k2,x,y⟩:=o.out.words;generalize szB z.l=n at*;have hn1:n<=256:=hS;have hSn:(2^order:Nat)<=16:=O.2;obtain⟨s,hs⟩:∃s,2^order=s:=⟨_,rfl⟩
 rw[hs]at O hSn U;have hsh2:wrap64 (2^order)=(s:Int):=by rw[hsh,hs]
 clear hsh hs;have hsub:IntKind.i64.wrap ((n:Int)-s)=(n:Int)-s:=IntWalk.i64_in _ (by omega);have C:Hid (∀W,Below k.heap.size k W->Calls prog 155 #[aC #[aA c.az 2 c.cz,aA c.am 2 c.cm,aB aI h.aP,aA c.al c.lc.length c.cl,aA c.av h.live.length c.cv],aB aI i,aB aI flags] W λev w'=>ev=aN (aB aI (D:Nat))/\Below W.heap.size W w'):=λW hW=>by
  have h1:=aAZ _ _ _ _ c.cz c.cm c.cl c.cv _ _ _ _ _ h i flags W (o.out.r.at.below hW) HK.out hi hf;rw[HD.out]at h1;exact h1
 by_cases I:n<D+s
 ·have d1:decide ((n:Int)-s<D)=true:=gTg (by omega);go_wp2_with fail
  refine bH (by kernel_rfl) (by kernel_rfl) ?_
  repeat (go_big_quiet_step ((go_at_call 155;exact Calls.dF (C.out _ (bD k _)))))
  refine wpQuiet_nil ?_;rintro _ ⟨wx,rfl⟩;have d:=gO (o.out.below (bD k wx));have j:=gO (Yo.out.then (bD k wx));generalize ext k wx=w2 at*;go_wp2
  go_ret2
  exact .inl ⟨by rw[U.out,if_pos I],rfl,d.out,j.out⟩
 ·have d1:decide ((n:Int)-s<D)=false:=gV (by omega);go_wp2_with fail
  refine bH (by kernel_rfl) (by kernel_rfl) ?_
  repeat (go_big_quiet_step ((go_at_call 155;exact Calls.dF (C.out _ (bD k _)))))
  refine wpQuiet_nil ?_;rintro _ ⟨wx,rfl⟩;have d:=gO (o.out.below (bD k wx));have j:=gO (Yo.out.then (bD k wx));have HO2:=gO (R.out.below (bD k wx));have aF6:G<(ext k wx).heap.size:=gI aF5 (bD k wx).size;clear p k1 k2 x y C o Yo R;generalize ext k wx=w2 at*;obtain⟨p,k1,k2,x,y⟩:=d.out.words;rw[L.out]at p;obtain⟨z0,z1,z2,z3⟩:=d.out.r.BP L.out hi;have b:=d.out.r.zat hi;rw[HZE.out]at z0 z1 b;go_wp2_with fail
  refine(aAT _ _ _ _ _ _ z order t w2 b T.out hor ht HO2.out).mono ?_;rintro ev w3 (⟨Y,rfl,u⟩ | ⟨M,at_,a1',P,V,Z,c2',H,rfl,S,u⟩)
  ·have HS3:=gO (d.out.below u);have N:=gO (j.out.then u);have Yu:=gO Y;clear p k1 k2 x y z0 z1 z2 z3 b Y;have B:=aT w3 (aO #[aB aI 0,aB aI 0,aA aJ 0 0,aA aJ 0 0] 79);have m:=gO (HS3.out.below B);have HSF4:=gO (N.out.then B);go_wp2
   go_ret2
   exact .inl ⟨by rw[U.out,if_neg I,Yu.out],rfl,m.out,HSF4.out⟩
  ·have HSO:=gO H;obtain⟨K5,F5,hsz5,yH⟩:=boxes1 w3 #[aB aI (z.f:Int),aB aI (z.e:Int),aA a1' V Z,aA P (c.zone i).n2 c2'] 79;have F:=gO (gW u yH);have HZ4:=gO (S.below yH);have m:=gO (d.out.below F.out);obtain⟨z4f,z4e⟩:M.f=z.f/\M.e=z.e:=Og T.out hor ht H;clear p k1 k2 x y z0 z1 z2 z3 b H yH u S;obtain⟨p,k1,k2,x,y⟩:=m.out.words;rw[L.out]at p;have b0:=K5 0;have b1:=K5 1;have b2:=K5 2;have b3:=K5 3;simp only[gB,gC,gD]at b0 b1 b2 b3;clear K5 F5;go_wp2_with fail
   generalize w3.alloc _=K at*;generalize w3.heap.size=B4 at*
   go_still_tail 7,(by kernel_rfl)
   change wpList _ _ _ _ _ K.drew;have HB5:=gO (F.out.drew);have HZ5:=gO (HZ4.out.below ((gX K.heap.size K).drew));have HS5:=gO (m.out.below ((gX K.heap.size K).drew));clear p k1 k2 x y b0 b1 b2 b3 F HZ4 m;generalize K.drew=w5 at*;obtain⟨x0,x1,x2,x3⟩:=HS5.out.r.BP L.out hi;obtain⟨f0,f1,f2,f3⟩:=HS5.out.r.aF3 L.out hi;obtain⟨v,J⟩:=d.out.aFF HB5.out hi HZ5.out L.out;obtain⟨y0,y1,ey⟩:=TB c i ⟨M,a1',P,V,(c.zone i).n2,Z,c2'⟩;rw[ey]at v;rw[z4f,z4e]at v J;have HS6:=gO v;have SF6:=gO (j.out.trans J);clear v J ey;go_wp2
   go_ret2
   exact .inr ⟨h.kL i M,at_,y0,y1,by rw[U.out,if_neg I,HSO.out],rfl,HS6.out,SF6.out⟩
end Go.Proofs.YtjaogfhcnmjkiaaGreatDoor
