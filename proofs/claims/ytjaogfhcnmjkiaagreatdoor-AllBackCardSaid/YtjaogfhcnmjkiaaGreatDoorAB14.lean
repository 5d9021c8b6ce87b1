/- joined. -/
import Derived.Test.YtjaogfhcnmjkiaaGreatDoorAB11
set_option linter.all false
set_option maxRecDepth 100000
set_option maxHeartbeats 0
namespace Go.Proofs.YtjaogfhcnmjkiaaGreatDoor
open Go.RowKit
open Go.Value renaming slice->aA,int->aB,agg->aC,string->aF,tuple->aG,pointer->aH,ownBlock->gTh
open Go.IntKind renaming i64->aI
open Option renaming none->aJ,some->aK
open Go.Ending renaming returned->aN
open Go.Obj renaming cells->aO
open Go.Proofs.Tryz
def Res (r:Option (Hp×Nat))(G:Nat)(X:Nat->Prop)(h:Hp)(c:Hc)(w:World)(ev:Ending)(w':World):Prop:=
 (r=aJ/\ev=aN (aG #[aB aI 0,.bool false])/\HS w' G X h c/\Safe X w w')∨
 (∃b a d,r=aK (b,a)/\ev=aN (aG #[aB aI (a:Nat),.bool true])/\HS w' G X b d/\Safe X w w')
theorem Cj (G cpu z t flags:Nat)(X:Nat->Prop)(h:Hp)(c:Hc)(w:World)(hs:HS w G X h c)(hk:fG h)(hc:cpu<h.aP)(hz:z<2)(ht:t<3)(hf:flags<=15)(ho:vP w)(hx0:X 1):
 Calls prog 135 #[aH (aK ⟨G,0,aJ⟩),aB aI cpu,aB aI z,aB aI t,aB aI flags] w (Res (h.single ⟨cpu,z,t,[]⟩ (h.held z (decide (flags/8%2=1)) (decide (flags%2=1)))) G X h c w):=by
 obtain⟨K4,F4,hsz,hbw⟩:=boxes1 w #[aB aI (cpu:Int),aB aI (z:Int),aB aI (t:Int),aA aJ 0 0] 160;have R:=gO (hs.new hbw);have HSF0:=gO (Safe.jT (X:=X) hbw);have HO0:=gO (ho.below hbw);have HK:=gO hk;have hG0:G<(w.alloc (aO #[aB aI (cpu:Int),aB aI (z:Int),aB aI (t:Int),aA aJ 0 0] 160)).heap.size:=R.out.r.gs;obtain⟨k0,k1,k2,k3,k4⟩:=R.out.words;have b0:=K4 0;have b1:=K4 1;have b2:=K4 2;have b3:=K4 3;simp only[gB,gC,gD]at b0 b1 b2 b3;have WW:=hs.r.gs;have HXW:=gO hs.r.xs;have QX:=hk.pK;have TG:=gO (BU hs.r);have hc24:c.lc.length<=24:=by rw[TG.out];exact QX
 clear hs hk hbw ho;go_enter func135,ntmps135
 go_wp2_with fail
 generalize w.alloc _=y at*;refine bH (by kernel_rfl) (by kernel_rfl) ?_
 repeat (go_big_quiet_step ((go_at_call 90;exact Calls.dF (Tt _ _ _ _ _ _ _ _ _ _ _ _ _ h ⟨cpu,z,t,[]⟩ aJ 0 0 _ (R.out.r.at.below (bD y _)) HK.out ⟨hz,ht⟩ (by omega)))))
 refine wpQuiet_nil ?_;rintro _ ⟨wx,rfl⟩;have o:=gO (R.out.below (bD y wx));have M:=gO (HSF0.out.then (bD y wx));have HO1:=gO (HO0.out.below (bD y wx));have K4':=gO (aQ K4 hsz (bD y wx));have F4':=gO (aU F4 hsz (bD y wx));have hsz1:w.heap.size<(ext y wx).heap.size:=gI hsz (bD y wx).size;have aCu:y.heap.size<=(ext y wx).heap.size:=(bD y wx).size;clear k0 k1 k2 k3 k4 b0 b1 b2 b3 K4 F4 R HSF0 HO0;generalize ext y wx=N at*;obtain⟨D,hD⟩:∃D,h.held z (decide (flags/8%2=1)) (decide (flags%2=1))=D:=⟨_,rfl⟩
 have HD:=gO hD;rw[hD];clear hD;cases hh:sW h.ls (Ls.key ⟨cpu,z,t,[]⟩)with
 | true=>
  obtain⟨I,hI,O,TL⟩:∃I,kS h.ls (Ls.key ⟨cpu,z,t,[]⟩)=I/\∃hi:I<h.ls.length,Hid (h.single ⟨cpu,z,t,[]⟩ D=aK ({h with ls:=if h.ls[I].p.length=1 then h.ls.eraseIdx I else h.ls.set I {h.ls[I]with p:=h.ls[I].p.dropLast}},h.ls[I].p.getLastD 0)):=by
   obtain⟨O,hkey⟩:=IB hh;exact⟨_,rfl,O,JK hh O⟩
  rw[hI];clear hI hh;have h6:I<c.lc.length:=by rw[TG.out];exact O
  have h7:=gO (KE o.out.r h6 O);obtain⟨V,hgl,Cb,aDD,aDE,KH⟩:=o.out.r.uT (by omega);have C:=o.out.r.mG _ (gL h6);have hlen:=yY C;have hok:=HK.out.lr _ (gL O);have hpos:=hok.2.2.2.1;have h8:=hok.2.2.2.2.1;rw[h7.out]at hlen;obtain⟨K,hKn⟩:∃K,c.lc[I].n=K+1:=⟨c.lc[I].n-1,by omega⟩
  have VI:=gO hKn;obtain⟨k0,k1,k2,k3,k4⟩:=o.out.words;rw[hgl]at k3;obtain⟨x0,x1,x2,x3⟩:=o.out.r.y7 hgl h6;rw[hKn]at x3;have hKp:K<h.ls[I].p.length:=by omega
  obtain⟨pb,nD,hpa,hpb,hpc⟩:=aZ dH (by decide) (bJ C) (j:=K) (by show K<(c.lc[I]).l.p.length;rw[h7.out];exact hKp);have hp0:=lI hpc;rw[Nat.mul_one]at hp0;have HPA:=gO hpa;rw[hpa]at x3;have hcap:=eU C;rw[hKn]at hcap;have HOWN:=gO C;obtain⟨P,hP⟩:∃P,(c.lc[I]).l.p[K]'(by rw[h7.out];exact hKp)=P:=⟨_,rfl⟩
  have HP:Hid (h.ls[I].p[K]? =aK P):=by
   unfold Hid;rw[<- hP];simp only[<- h7.out];exact gJ _
  simp only[hP]at hp0;have hfz:=KH (I*4+3) (by omega);have MI:=gO hgl;have hKi:(K:Int)<(K:Int)+1:=by omega
  have hI2:(I:Int)<c.lc.length:=by omega
  have hcap2:(K:Int)<=(c.lc[I].c:Int):=by omega
  have aF6:G<N.heap.size:=o.out.r.gs;obtain⟨CC,hCC⟩:∃CC,c.lc[I].c=CC:=⟨_,rfl⟩
  rw[hCC]at x3 hcap hcap2;have HCC:=gO hCC;clear hpc hpa C hok hKn hP hgl KH k0 k1 k2 k4 x0 x1 x2 hlen hCC;go_wp2_with fail
  go_still_tail 17,(by kernel_rfl)
  change wpList _ _ _ _ _ N.drew;have A:=gO (o.out.below ((gX N.heap.size N).drew));have f:=gO (M.out.then ((gX N.heap.size N).drew));have q:=own_below HOWN.out ((gX N.heap.size N).drew) (gT _);have hdw:N.drew.heap.size=N.heap.size:=rfl;have aOz:V<N.drew.heap.size:=Cb;have aJy:G<N.drew.heap.size:=aF6;clear hfz x3 k3 hp0;generalize N.drew=Z at*;have x3:=(A.out.r.y7 MI.out h6).2.2.2;obtain⟨_,Hq,_,_,_,hf3⟩:=A.out.r.uT (by omega);have hfz:Z.frozen? ⟨V,I*4+3,aJ⟩=false:=by
   rw[MI.out]at Hq;obtain rfl:V=_:=by simpa using Hq
   exact hf3 _ (by omega)
  clear Hq hf3;have ho4:(lM ⟨{h.ls[I]with p:=h.ls[I].p.dropLast},aK ⟨pb,nD,aJ⟩,K,CC⟩).on Z 0:=by
   have h1:=jQ q (i:=K) (by show K<=c.lc[I].n;rw[VI.out];omega);have h2:=fQ dH c.lc[I].l.p K;unfold Rs.on lM;simp only;have h3:(lM c.lc[I]).xs.take (K*1)=flat jA h.ls[I].p.dropLast:=by
    show(flat jA c.lc[I].l.p).take (K*1)=_;rw[h2,h7.out,List.dropLast_eq_take];congr 2;have:=yY q;rw[h7.out,VI.out]at this;omega
   have h4:=h1;rw[show(lM c.lc[I]).k=1 from rfl,h3,HPA.out,HCC.out]at h4;exact h4
  obtain⟨B,s⟩:=A.out.page h6 (World.grownBy.refl Z _) ho4 (by rw[h7.out];exact⟨rfl,rfl,rfl⟩) (λk hk=> .inl (by simpa[lM,gTh,HPA.out]using hk)) MI.out;have a:Hid (HS (Z.setCell ⟨V,I*4+3,aJ⟩ (aA (aK ⟨pb,nD,aJ⟩) K CC)) G (λk=>X k∨(w.heap.size<=k/\k<y.heap.size)) {h with ls:=h.ls.set I {h.ls[I]with p:=h.ls[I].p.dropLast}} {c with lc:=c.lc.set I ⟨{h.ls[I]with p:=h.ls[I].p.dropLast},aK ⟨pb,nD,aJ⟩,K,CC⟩}):=B;have d:Hid (Safe X w (Z.setCell ⟨V,I*4+3,aJ⟩ (aA (aK ⟨pb,nD,aJ⟩) K CC))):=f.out.trans (s.sub λk _ hk=> .inl hk);have F:Hid (h.ls[I].p.length=K+1):=by
   have hl:=yY q;rw[h7.out,VI.out]at hl;exact hl
  have HLG:Hid (h.ls[I].p.getLastD 0=P):=by
   unfold Hid;rw[List.getLastD_eq_getLast?,List.getLast?_eq_getElem?,F.out,Nat.add_sub_cancel,HP.out];rfl
  clear B s ho4 q HOWN hKp hpos h8;by_cases hK0:K=0
  ·subst hK0;obtain⟨_,_,_,q3,_⟩:=a.out.words;simp only[List.length_set]at q3;rw[MI.out]at q3;have HHS:Hid ((h.ls.set I {h.ls[I]with p:=h.ls[I].p.dropLast}).eraseIdx I=h.ls.eraseIdx I):=List.eraseIdx_set_eq;go_wp2_with fail
   generalize hW4:Z.setCell ⟨V,I*4+3,aJ⟩ (aA (aK ⟨pb,nD,aJ⟩) 0 CC)=w4 at*;clear hW4;obtain⟨J,U⟩:∃J:Hc,({c with lc:=c.lc.set I ⟨{h.ls[I]with p:=h.ls[I].p.dropLast},aK ⟨pb,nD,aJ⟩,0,CC⟩}:Hc)=J:=⟨_,rfl⟩
   have aDQ:J.al=aK ⟨V,0,aJ⟩:=by rw[<- U];exact MI.out
   have aDR:J.cl=c.cl:=by rw[<- U]
   have aDS:J.lc.length=c.lc.length:=by rw[<- U];simp
   rw[U]at a;have Ea:=gO aDQ;have HLN4:=gO aDS;have b:=a.out.r.lsr;unfold sN at b;unfold Rs.on at b;simp only[aDQ,aDR,aDS]at b;have HOWN4:=gO b;have WY:=gO aDR;clear b U aDQ aDR aDS;refine(Vw 0 (aK ⟨V,0,aJ⟩) c.lc.length c.cl J.lc I w4 HOWN4.out h6 (by omega) (gU _)).mono ?_;rintro ev w5 ⟨rfl,ho5,W⟩;have hle:(J.lc.eraseIdx I).length=c.lc.length-1:=by rw[List.length_eraseIdx_of_lt (by rw[HLN4.out];exact h6),HLN4.out]
   have hlb:(sN J).v.ownBlock=aK V:=by unfold sN;rw[Ea.out];rfl
   have hG4:G<w4.heap.size:=a.out.r.gs;have yJ:(aA (aK ⟨V,0,aJ⟩) c.lc.length c.cl).ownBlock≠aK G:=λe=>(a.out.r.og _ (jU J _) G (by rw[hlb];simpa[gTh]using e)).1 rfl
   have q5:=(bV a.out.k hG4 W (λe=>yJ e.symm) 3).trans (show _=aK (aA J.al J.lc.length J.cl)from rfl);have f5:=bY a.out.fz hG4 W (λe=>yJ e.symm) 3;have hG5:G<w5.heap.size:=gI hG4 W.size;have hpo:dY w4 0 ((J.lc.eraseIdx I).map lM):=a.out.r.own.sub (by
    unfold Hc.rows;refine(((List.sublist_cons_self _ _).trans (List.sublist_cons_self _ _)).trans (List.sublist_cons_self _ _)) |> λh=>List.Sublist.trans ?_ h
    exact(List.eraseIdx_sublist _ _).map lM)
   obtain⟨hs6,sf6⟩:=a.out.lists (W':=w5) (by rw[hlb];simpa[gTh]using W) (al':=aK ⟨V,0,aJ⟩) (cl':=c.cl) (uS:=J.lc.eraseIdx I) (by rw[hle];exact ho5) (λk hk=> .inl (by rw[hlb];simpa[gTh]using hk)) hpo (λr hr g hg=> .inl ⟨r,((List.eraseIdx_sublist _ _).map lM).subset hr,hg⟩);rw[hle]at hs6 sf6;have aGq:(J.lc.eraseIdx I).map Lc.l=h.ls.eraseIdx I:=by
    rw[List.eraseIdx_eq_take_drop_succ,List.map_append,List.map_take,List.map_drop,<- List.eraseIdx_eq_take_drop_succ,a.out.r.ll];exact HHS.out
   rw[aGq]at hs6;have HS6:=gO hs6;have HSF6:=gO (d.out.trans (sf6.sub λk _ hk=> .inl hk));clear hs6 sf6 hpo aGq ho5 W hlb hle yJ q3;go_wp2
   go_ret2
   refine .inr ⟨_,P,_,?_,rfl,HS6.out.sub λk hk=> .inl hk,HSF6.out⟩;rw[HD.out,TL.out,HLG.out,if_pos (by rw[F.out])]
  ·have d0:((K:Int) == 0)=false:=by rw[beq_eq_false_iff_ne];omega
   go_wp2
   go_ret2
   refine .inr ⟨_,P,_,?_,rfl,a.out.sub λk hk=> .inl hk,d.out⟩;rw[HD.out,TL.out,HLG.out,if_neg (by rw[F.out];omega)]
 | false=>
  have Oh:=gO (Qu (hd:=D) hh);have aGr:=gO (qM HK.out.lk (EJ hh));clear hh;go_wp2_with fail
  refine(Ak G z 0 t flags (λk=>X k∨(w.heap.size<=k/\k<y.heap.size)) h c N o.out HK.out hz (by omega) ht hf HO1.out).mono ?_;rintro ev Z (⟨H,rfl,Q,E⟩ | ⟨h1,a1,y0,y1,u,rfl,Q,E⟩)
  ·rw[HD.out]at H;have Yu:=gO H;have A:=gO Q;have f:=gO (M.out.trans (E.sub λk _ hk=> .inl hk));clear Q E H;go_wp2_with fail
   go_loopw [19] (λT wr=>T=aB aI 1/\wr=Z) (λ_ _=>0)
   case atStart=>exact⟨rfl,rfl⟩
   case round=>
    obtain⟨rfl,rfl⟩:=hrel;go_wp2
    go_ret2
    exact .inl ⟨by rw[HD.out,Oh.out,Yu.out];rfl,rfl,A.out.sub λk hk=> .inl hk,f.out⟩
  ·rw[HD.out]at u;have HSO:=gO u;obtain⟨hT,aGs,hz1⟩:=HK.out.nH (by omega) ht hz u;have A:=gO Q;have f:=gO (M.out.trans (E.sub λk _ hk=> .inl hk));have HO3:=gO (HO1.out.safe E (Or.inl hx0));have hXB:(λk=>X k∨(w.heap.size<=k/\k<y.heap.size)) w.heap.size:= .inr ⟨gT _,hsz⟩;have K5:=gO (E.box K4'.out hsz1 hXB);have hsz3:w.heap.size<Z.heap.size:=gI hsz1 E.size;have HT:=gO hT;have HM8:Hid (∀x∈h1.ls,x.key=(Ls.key ⟨cpu,z,t,[]⟩)->x.p.length+3<=8):=λx hx hkey=>absurd hkey (aGr.out x (by rw[<- aGs];exact hx))
   have HXB:=gO hXB;clear Q E u hT aGs hz1 o M HO1 K4' F4' hXB;go_wp2_with fail
   go_loopw [19] (λT wr=>∃(j:Nat) (Y:Hp) (cj:Hc),j<=3/\T=aB aI (1+j:Int)/\Hid (HS wr G (λk=>X k∨(w.heap.size<=k/\k<y.heap.size)) Y cj)/\Hid (Safe (λk=>X k∨(w.heap.size<=k/\k<y.heap.size)) Z wr)/\Hid (fG Y)/\Hid (Same h Y)/\Hid (h1.fill ⟨cpu,z,t,[]⟩ D 3=Y.fill ⟨cpu,z,t,[]⟩ D (3-j))/\Hid (∀x∈Y.ls,x.key=(Ls.key ⟨cpu,z,t,[]⟩)->x.p.length+(3-j)<=8)) (λT _=>4-(intOf T).toNat)
   case atStart=>exact⟨0,h1,_,gU _,rfl,A,Safe.refl _ _,HT.out.ok,HT.out.same,rfl,HM8⟩
   case round=>
    obtain⟨j,Y,cj,hj3,rfl,qZ,L,Bf,aDU,HFj,H8j⟩:=hrel;clear A HM8;have K6:=gO (L.out.box K5.out hsz3 HXB.out);have aGg:w.heap.size<wr.heap.size:=gI hsz3 L.out.size;by_cases hlt:j<3
    ·have hlt2:(1:Int)+j<4:=by omega
     have HDj:=gO ((UC HK.out Bf.out aDU.out z (decide (flags/8%2=1)) (decide (flags%2=1))).trans HD.out);have HOj:=gO (HO3.out.safe L.out (Or.inl hx0));obtain⟨m,hm⟩:∃m,3-j=m+1:=⟨2-j,by omega⟩
     have YG:=gO hm;have hm3:m+1<=3:=by omega
     clear hm;go_wp2_with fail
     refine(Ak G z 0 t flags (λk=>X k∨(w.heap.size<=k/\k<y.heap.size)) Y cj wr qZ.out Bf.out hz (by omega) ht hf HOj.out).mono ?_;rintro ev w4 (⟨H,rfl,B,s⟩ | ⟨h2,a2,y0',y1',u,rfl,B,s⟩)
     ·rw[HDj.out]at H;have S:Hid (h1.fill ⟨cpu,z,t,[]⟩ D 3=Y):=by
       unfold Hid;rw[HFj.out,YG.out];unfold Hp.fill;simp only[H]
      have a:=gO B;have d:=gO (f.out.trans ((L.out.trans s).sub λk _ hk=> .inl hk));clear B s H;go_wp2
      go_ret2
      exact .inr ⟨_,a1,_,by rw[HD.out,Oh.out,HSO.out];simp only[Option.map_some];rw[S.out],rfl,a.out.sub λk hk=> .inl hk,d.out⟩
     ·rw[HDj.out]at u;have dA:cpu<Y.aP:=by rw[aDU.out.aP];exact hc
      obtain⟨g1,g2,g3,g4⟩:=Bf.out.UD (l:=⟨cpu,z,t,[]⟩) (n:=m) ⟨dA,hz,ht⟩ (by rw[<- YG.out];exact H8j.out) (by omega) u;have S:Hid (h1.fill ⟨cpu,z,t,[]⟩ D 3=Hp.fill {h2 with ls:=cO h2.ls ⟨cpu,z,t,[]⟩ a2} ⟨cpu,z,t,[]⟩ D m):=by
       unfold Hid;rw[HFj.out,YG.out,Hp.fill];simp only[u]
      have a:=gO B;have SF4:=gO (L.out.trans s);have K7:=gO (s.box K6.out aGg HXB.out);have G1:=gO g1;have G2:=gO g2;have G3:=gO g3;have G4:=gO (aDU.out.trans g4);have b0:=K7.out 0;have b1:=K7.out 1;have b2:=K7.out 2;have b3:=K7.out 3;simp only[gB,gC,gD]at b0 b1 b2 b3;have hmj:m=3-(j+1):=by have:=YG.out;omega
      clear B s u g1 g2 g3 g4 qZ L HFj H8j K6 K7;go_wp2_with fail
      refine(TD G a2 ⟨cpu,z,t,[]⟩ aJ 0 0 (λk=>X k∨(w.heap.size<=k/\k<y.heap.size)) h2 _ w4 a.out G1.out ⟨hz,ht⟩).mono ?_;rintro ev w5 ⟨rfl,⟨al',cl',uS,hs5⟩,sf5⟩;have HS5:=gO hs5;have SF5:=gO (SF4.out.trans sf5);clear hs5 sf5 b0 b1 b2 b3;subst hmj;go_wp2
      go_roundw
      case rel=>exact⟨j+1,_,_,by omega,by go_num,HS5,SF5,G2,G4,S,G3⟩
      case measure=>simp[intOf];omega
    ·obtain rfl:j=3:=by omega
     have S:Hid (h1.fill ⟨cpu,z,t,[]⟩ D 3=Y):=HFj.out;have d:=gO (f.out.trans (L.out.sub λk _ hk=> .inl hk));go_wp2
     go_ret2
     exact .inr ⟨_,a1,_,by rw[HD.out,Oh.out,HSO.out];simp only[Option.map_some];rw[S.out],rfl,qZ.out.sub λk hk=> .inl hk,d.out⟩
def Hp.tries (h:Hp)(cpu order t:Nat)(u lo:Bool):Nat->Option (Hp×Nat)
 | 0=>aJ
 | r+1=>match h.ask cpu r order t u lo with
  | some x=>aK x
  | none=>Hp.tries h cpu order t u lo r
theorem Hr (h:Hp)(cpu order t:Nat)(u lo:Bool):h.attempt cpu order t u lo=h.tries cpu order t u lo (if lo then 1 else 2):=by
 unfold Hp.attempt;cases lo with
 | true=>
  simp only[if_true,Hp.tries];cases h.ask cpu 0 order t u true <;> rfl
 | false=>
  simp only[Bool.false_eq_true,if_false,Hp.tries];cases h.ask cpu 1 order t u false with
  | some x=>rfl
  | none=>simp only;cases h.ask cpu 0 order t u false <;> rfl
theorem FI (G cpu order t flags:Nat)(X:Nat->Prop)(h:Hp)(c:Hc)(w:World)(hs:HS w G X h c)(hk:fG h)(hc:cpu<h.aP)(hor:order<=4)(ht:t<3)(hf:flags<=15)(ho:vP w)(hx0:X 1):
 Calls prog 105 #[aH (aK ⟨G,0,aJ⟩),aB aI cpu,aB aI order,aB aI t,aB aI flags] w (Res (h.attempt cpu order t (decide (flags/8%2=1)) (decide (flags%2=1))) G X h c w):=by
 obtain⟨V,W,H,E⟩:=boxes1 w #[aB aI 1,aB aI 0] 3;have P:=gO (hs.new E);have n:=gO (Safe.jT (X:=X) E);have Q:=gO (ho.below E);have J:=gO hk;have U:=gO V;have Z:=gO hs.r.xs;obtain⟨hb8,S⟩:=NT flags hf;have T:=gO (Hr h cpu order t (decide (flags/8%2=1)) (decide (flags%2=1)));clear hs hk E ho V W;by_cases I:flags%2=1
 ·rw[if_pos I]at S;have D:Hid (h.attempt cpu order t (decide (flags/8%2=1)) (decide (flags%2=1))=h.tries cpu order t (decide (flags/8%2=1)) (decide (flags%2=1)) 1):=by
   unfold Hid;rw[T.out];congr 1;simp[I]
  go_enter func105,ntmps105
  go_wp2_with fail
  generalize w.alloc _=u at*;go_loopw [25] (λz wr=>∃i:Nat,i<=1/\z=aB aI (i:Int)/\Hid (HS wr G (λk=>X k∨(w.heap.size<=k/\k<u.heap.size)) h c)/\Hid (Safe (λk=>X k∨(w.heap.size<=k/\k<u.heap.size)) u wr)/\Hid (h.attempt cpu order t (decide (flags/8%2=1)) (decide (flags%2=1))=h.tries cpu order t (decide (flags/8%2=1)) (decide (flags%2=1)) (1-i))) (λz _=>1-(intOf z).toNat)
  case atStart=>exact⟨0,by omega,rfl,P,Safe.refl _ _,D⟩
  case round=>
   obtain⟨i,hi,rfl,F,q,C⟩:=hrel;clear T D;have v:=gO (Q.out.safe q.out (Or.inl hx0));have y:=q.out.box U.out H (show(λk=>X k∨(w.heap.size<=k/\k<u.heap.size)) w.heap.size from .inr ⟨gT _,H⟩);have z0:=y 0;have z1:=y 1;simp only[gB,gC,gD]at z0 z1;clear y;obtain rfl | rfl:i=0∨i=1:=by omega
   ·skip
    have B:Hid (h.attempt cpu order t (decide (flags/8%2=1)) (decide (flags%2=1))=match h.ask cpu 0 order t (decide (flags/8%2=1)) (decide (flags%2=1))with
     | some x=>aK x
     | none=>h.tries cpu order t (decide (flags/8%2=1)) (decide (flags%2=1)) 0):=C.out
    by_cases A:order=0
    ·have O:((order:Int) == 0)=true:=by rw[beq_iff_eq];omega
     have s:=gO A;clear A;go_wp2_with fail
     refine(Cj G cpu 0 t flags (λk=>X k∨(w.heap.size<=k/\k<u.heap.size)) h c wr F.out J.out hc (by omega) ht hf v.out (Or.inl hx0)).mono ?_;rintro N K (⟨g,rfl,b,l⟩ | ⟨o,a,L,m,rfl,b,l⟩)
     ·have p:Hid (h.ask cpu 0 order t (decide (flags/8%2=1)) (decide (flags%2=1))=aJ):=by
       unfold Hid Hp.ask;rw[if_pos s.out];exact g
      have j:Hid (h.attempt cpu order t (decide (flags/8%2=1)) (decide (flags%2=1))=h.tries cpu order t (decide (flags/8%2=1)) (decide (flags%2=1)) (1-1)):=by
       unfold Hid;rw[B.out,p.out]
      have d:=gO b;have f:=gO (q.out.trans l);clear g b l;go_wp2
      go_roundw
      case rel=>exact⟨1,by omega,by go_num,d,f,j⟩
      case measure=>simp[intOf]
     ·have p:Hid (h.attempt cpu order t (decide (flags/8%2=1)) (decide (flags%2=1))=aK (o,a)):=by
       have e:h.ask cpu 0 order t (decide (flags/8%2=1)) (decide (flags%2=1))=aK (o,a):=by
        unfold Hp.ask;rw[if_pos s.out];exact m
       unfold Hid;rw[B.out,e]
      have d:=gO (b.sub (Y:=X) λk hk=> .inl hk);have f:=gO (n.out.trans ((q.out.trans l).sub λk _ hk=> .inl hk));clear m b l;go_wp2
      go_ret2
      exact .inr ⟨o,a,L,p.out,rfl,d.out,f.out⟩
    ·have O:((order:Int) == 0)=false:=by rw[beq_eq_false_iff_ne];omega
     have s:=gO A;clear A;go_wp2_with fail
     refine(Ak G 0 order t flags (λk=>X k∨(w.heap.size<=k/\k<u.heap.size)) h c wr F.out J.out (by omega) hor ht hf v.out).mono ?_;rintro N K (⟨g,rfl,b,l⟩ | ⟨o,a,M,R,m,rfl,b,l⟩)
     ·have p:Hid (h.ask cpu 0 order t (decide (flags/8%2=1)) (decide (flags%2=1))=aJ):=by
       unfold Hid Hp.ask;rw[if_neg s.out];exact g
      have j:Hid (h.attempt cpu order t (decide (flags/8%2=1)) (decide (flags%2=1))=h.tries cpu order t (decide (flags/8%2=1)) (decide (flags%2=1)) (1-1)):=by
       unfold Hid;rw[B.out,p.out]
      have d:=gO b;have f:=gO (q.out.trans l);clear g b l;go_wp2
      go_roundw
      case rel=>exact⟨1,by omega,by go_num,d,f,j⟩
      case measure=>simp[intOf]
     ·have p:Hid (h.attempt cpu order t (decide (flags/8%2=1)) (decide (flags%2=1))=aK (o,a)):=by
       have e:h.ask cpu 0 order t (decide (flags/8%2=1)) (decide (flags%2=1))=aK (o,a):=by
        unfold Hp.ask;rw[if_neg s.out];exact m
       unfold Hid;rw[B.out,e]
      have d:=gO (b.sub (Y:=X) λk hk=> .inl hk);have f:=gO (n.out.trans ((q.out.trans l).sub λk _ hk=> .inl hk));clear m b l;go_wp2
      go_ret2
      exact .inr ⟨o,a,_,p.out,rfl,d.out,f.out⟩
   ·have d:=gO (F.out.sub (Y:=X) λk hk=> .inl hk);have f:=gO (n.out.trans (q.out.sub λk _ hk=> .inl hk));go_wp2
    go_ret2
    exact .inl ⟨C.out,rfl,d.out,f.out⟩
 ·rw[if_neg I]at S;have D:Hid (h.attempt cpu order t (decide (flags/8%2=1)) (decide (flags%2=1))=h.tries cpu order t (decide (flags/8%2=1)) (decide (flags%2=1)) 2):=by
   unfold Hid;rw[T.out];congr 1;simp[I]
  go_enter func105,ntmps105
  go_wp2_with fail
  generalize w.alloc _=u at*;go_loopw [25] (λz wr=>∃i:Nat,i<=2/\z=aB aI (i:Int)/\Hid (HS wr G (λk=>X k∨(w.heap.size<=k/\k<u.heap.size)) h c)/\Hid (Safe (λk=>X k∨(w.heap.size<=k/\k<u.heap.size)) u wr)/\Hid (h.attempt cpu order t (decide (flags/8%2=1)) (decide (flags%2=1))=h.tries cpu order t (decide (flags/8%2=1)) (decide (flags%2=1)) (2-i))) (λz _=>2-(intOf z).toNat)
  case atStart=>exact⟨0,by omega,rfl,P,Safe.refl _ _,D⟩
  case round=>
   obtain⟨i,hi,rfl,F,q,C⟩:=hrel;clear T D;have v:=gO (Q.out.safe q.out (Or.inl hx0));have y:=q.out.box U.out H (show(λk=>X k∨(w.heap.size<=k/\k<u.heap.size)) w.heap.size from .inr ⟨gT _,H⟩);have z0:=y 0;have z1:=y 1;simp only[gB,gC,gD]at z0 z1;clear y;obtain rfl | rfl | rfl:i=0∨i=1∨i=2:=by omega
   ·skip
    have B:Hid (h.attempt cpu order t (decide (flags/8%2=1)) (decide (flags%2=1))=match h.ask cpu 1 order t (decide (flags/8%2=1)) (decide (flags%2=1))with
     | some x=>aK x
     | none=>h.tries cpu order t (decide (flags/8%2=1)) (decide (flags%2=1)) 1):=C.out
    by_cases A:order=0
    ·have O:((order:Int) == 0)=true:=by rw[beq_iff_eq];omega
     have s:=gO A;clear A;go_wp2_with fail
     refine(Cj G cpu 1 t flags (λk=>X k∨(w.heap.size<=k/\k<u.heap.size)) h c wr F.out J.out hc (by omega) ht hf v.out (Or.inl hx0)).mono ?_;rintro N K (⟨g,rfl,b,l⟩ | ⟨o,a,L,m,rfl,b,l⟩)
     ·have p:Hid (h.ask cpu 1 order t (decide (flags/8%2=1)) (decide (flags%2=1))=aJ):=by
       unfold Hid Hp.ask;rw[if_pos s.out];exact g
      have j:Hid (h.attempt cpu order t (decide (flags/8%2=1)) (decide (flags%2=1))=h.tries cpu order t (decide (flags/8%2=1)) (decide (flags%2=1)) (2-1)):=by
       unfold Hid;rw[B.out,p.out]
      have d:=gO b;have f:=gO (q.out.trans l);clear g b l;go_wp2
      go_roundw
      case rel=>exact⟨1,by omega,by go_num,d,f,j⟩
      case measure=>simp[intOf]
     ·have p:Hid (h.attempt cpu order t (decide (flags/8%2=1)) (decide (flags%2=1))=aK (o,a)):=by
       have e:h.ask cpu 1 order t (decide (flags/8%2=1)) (decide (flags%2=1))=aK (o,a):=by
        unfold Hp.ask;rw[if_pos s.out];exact m
       unfold Hid;rw[B.out,e]
      have d:=gO (b.sub (Y:=X) λk hk=> .inl hk);have f:=gO (n.out.trans ((q.out.trans l).sub λk _ hk=> .inl hk));clear m b l;go_wp2
      go_ret2
      exact .inr ⟨o,a,L,p.out,rfl,d.out,f.out⟩
    ·have O:((order:Int) == 0)=false:=by rw[beq_eq_false_iff_ne];omega
     have s:=gO A;clear A;go_wp2_with fail
     refine(Ak G 1 order t flags (λk=>X k∨(w.heap.size<=k/\k<u.heap.size)) h c wr F.out J.out (by omega) hor ht hf v.out).mono ?_;rintro N K (⟨g,rfl,b,l⟩ | ⟨o,a,M,R,m,rfl,b,l⟩)
     ·have p:Hid (h.ask cpu 1 order t (decide (flags/8%2=1)) (decide (flags%2=1))=aJ):=by
       unfold Hid Hp.ask;rw[if_neg s.out];exact g
      have j:Hid (h.attempt cpu order t (decide (flags/8%2=1)) (decide (flags%2=1))=h.tries cpu order t (decide (flags/8%2=1)) (decide (flags%2=1)) (2-1)):=by
       unfold Hid;rw[B.out,p.out]
      have d:=gO b;have f:=gO (q.out.trans l);clear g b l;go_wp2
      go_roundw
      case rel=>exact⟨1,by omega,by go_num,d,f,j⟩
      case measure=>simp[intOf]
     ·have p:Hid (h.attempt cpu order t (decide (flags/8%2=1)) (decide (flags%2=1))=aK (o,a)):=by
       have e:h.ask cpu 1 order t (decide (flags/8%2=1)) (decide (flags%2=1))=aK (o,a):=by
        unfold Hp.ask;rw[if_neg s.out];exact m
       unfold Hid;rw[B.out,e]
      have d:=gO (b.sub (Y:=X) λk hk=> .inl hk);have f:=gO (n.out.trans ((q.out.trans l).sub λk _ hk=> .inl hk));clear m b l;go_wp2
      go_ret2
      exact .inr ⟨o,a,_,p.out,rfl,d.out,f.out⟩
   ·skip
    have B:Hid (h.attempt cpu order t (decide (flags/8%2=1)) (decide (flags%2=1))=match h.ask cpu 0 order t (decide (flags/8%2=1)) (decide (flags%2=1))with
     | some x=>aK x
     | none=>h.tries cpu order t (decide (flags/8%2=1)) (decide (flags%2=1)) 0):=C.out
    by_cases A:order=0
    ·have O:((order:Int) == 0)=true:=by rw[beq_iff_eq];omega
     have s:=gO A;clear A;go_wp2_with fail
     refine(Cj G cpu 0 t flags (λk=>X k∨(w.heap.size<=k/\k<u.heap.size)) h c wr F.out J.out hc (by omega) ht hf v.out (Or.inl hx0)).mono ?_;rintro N K (⟨g,rfl,b,l⟩ | ⟨o,a,L,m,rfl,b,l⟩)
     ·have p:Hid (h.ask cpu 0 order t (decide (flags/8%2=1)) (decide (flags%2=1))=aJ):=by
       unfold Hid Hp.ask;rw[if_pos s.out];exact g
      have j:Hid (h.attempt cpu order t (decide (flags/8%2=1)) (decide (flags%2=1))=h.tries cpu order t (decide (flags/8%2=1)) (decide (flags%2=1)) (2-2)):=by
       unfold Hid;rw[B.out,p.out]
      have d:=gO b;have f:=gO (q.out.trans l);clear g b l;go_wp2
      go_roundw
      case rel=>exact⟨2,by omega,by go_num,d,f,j⟩
      case measure=>simp[intOf]
     ·have p:Hid (h.attempt cpu order t (decide (flags/8%2=1)) (decide (flags%2=1))=aK (o,a)):=by
       have e:h.ask cpu 0 order t (decide (flags/8%2=1)) (decide (flags%2=1))=aK (o,a):=by
        unfold Hp.ask;rw[if_pos s.out];exact m
       unfold Hid;rw[B.out,e]
      have d:=gO (b.sub (Y:=X) λk hk=> .inl hk);have f:=gO (n.out.trans ((q.out.trans l).sub λk _ hk=> .inl hk));clear m b l;go_wp2
      go_ret2
      exact .inr ⟨o,a,L,p.out,rfl,d.out,f.out⟩
    ·have O:((order:Int) == 0)=false:=by rw[beq_eq_false_iff_ne];omega
     have s:=gO A;clear A;go_wp2_with fail
     refine(Ak G 0 order t flags (λk=>X k∨(w.heap.size<=k/\k<u.heap.size)) h c wr F.out J.out (by omega) hor ht hf v.out).mono ?_;rintro N K (⟨g,rfl,b,l⟩ | ⟨o,a,M,R,m,rfl,b,l⟩)
     ·have p:Hid (h.ask cpu 0 order t (decide (flags/8%2=1)) (decide (flags%2=1))=aJ):=by
       unfold Hid Hp.ask;rw[if_neg s.out];exact g
      have j:Hid (h.attempt cpu order t (decide (flags/8%2=1)) (decide (flags%2=1))=h.tries cpu order t (decide (flags/8%2=1)) (decide (flags%2=1)) (2-2)):=by
       unfold Hid;rw[B.out,p.out]
      have d:=gO b;have f:=gO (q.out.trans l);clear g b l;go_wp2
      go_roundw
      case rel=>exact⟨2,by omega,by go_num,d,f,j⟩
      case measure=>simp[intOf]
     ·have p:Hid (h.attempt cpu order t (decide (flags/8%2=1)) (decide (flags%2=1))=aK (o,a)):=by
       have e:h.ask cpu 0 order t (decide (flags/8%2=1)) (decide (flags%2=1))=aK (o,a):=by
        unfold Hp.ask;rw[if_neg s.out];exact m
       unfold Hid;rw[B.out,e]
      have d:=gO (b.sub (Y:=X) λk hk=> .inl hk);have f:=gO (n.out.trans ((q.out.trans l).sub λk _ hk=> .inl hk));clear m b l;go_wp2
      go_ret2
      exact .inr ⟨o,a,_,p.out,rfl,d.out,f.out⟩
   ·have d:=gO (F.out.sub (Y:=X) λk hk=> .inl hk);have f:=gO (n.out.trans (q.out.sub λk _ hk=> .inl hk));go_wp2
    go_ret2
    exact .inl ⟨C.out,rfl,d.out,f.out⟩
end Go.Proofs.YtjaogfhcnmjkiaaGreatDoor
