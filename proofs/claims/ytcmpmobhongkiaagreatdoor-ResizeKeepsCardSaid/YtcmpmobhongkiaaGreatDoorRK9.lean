/- joined. -/
import Derived.Test.YtcmpmobhongkiaaGreatDoorRK0
import Derived.Test.YtcmpmobhongkiaaGreatDoorRK8
set_option linter.unusedVariables false
set_option linter.unusedSimpArgs false
namespace Go.Proofs.YtcmpmobhongkiaaGreatDoor
section
open Go.RowKit
theorem FK {l:List Bk}(h:rU l){p:Nat}(hb:hasB l p=true):∃hk:lb l p<l.length,l[lb l p].a=p:=by
 rcases Nat.lt_or_ge (lb l p) l.length with hk | hk
 ·refine⟨hk,?_⟩;rw[vS h hk]at hb;exact of_decide_eq_true hb
 ·rw[uM h hk]at hb;cases hb
theorem JO {l:List Bk}{a o:Nat}(hr:rU l)(ho:o<4)(h:hasB l (lC a o)=false):iQ l a (4-o) o=(l,a,o):=by
 obtain⟨n,hn⟩:∃n,4-o=n+1:=⟨3-o,by omega⟩
 rw[hn];unfold iQ;cases hx:l[lb l (lC a o)]? with
 | none=>rfl
 | some x=>
  obtain⟨hi,hxi⟩:=List.getElem?_eq_some_iff.1 hx;rw[vS hr hi,hxi]at h;have:=of_decide_eq_false h;simp only;rw[if_neg (fun hc=>this hc.1)]
theorem JQ {l:List Bk}{a o:Nat}(ho:o<4)(hk:lb l (lC a o)<l.length)(h:l[lb l (lC a o)].o≠o):iQ l a (4-o) o=(l,a,o):=by
 obtain⟨n,hn⟩:∃n,4-o=n+1:=⟨3-o,by omega⟩
 rw[hn];unfold iQ;rw[gJ hk];simp only;rw[if_neg (fun hc=>h hc.2)]
theorem JR {l:List Bk}{a o:Nat}(ho:o<4)(hk:lb l (lC a o)<l.length)(ha:l[lb l (lC a o)].a=lC a o)(h:l[lb l (lC a o)].o=o):iQ l a (4-o) o=iQ (l.eraseIdx (lb l (lC a o))) (min a (lC a o)) (4-(o+1)) (o+1):=by
 obtain⟨n,hn⟩:∃n,4-o=n+1:=⟨3-o,by omega⟩
 rw[hn,show 4-(o+1)=n by omega]
 conv=>lhs;unfold iQ
 rw[gJ hk];simp only;rw[if_pos ⟨ha,h⟩,ha]
theorem Om {f e:Nat}{l:List Bk}{a o:Nat}(hf:f%16=0)(he:e%16=0)(hl:rQ f e l)(hb:cZ f e a o)(hd:∀x∈l,apartB a o x)(ho:o<4)(hk:lb l (lC a o)<l.length)(ha:l[lb l (lC a o)].a=lC a o)(h:l[lb l (lC a o)].o=o):
 rQ f e (l.eraseIdx (lb l (lC a o)))/\cZ f e (min a (lC a o)) (o+1)/\∀y∈l.eraseIdx (lb l (lC a o)),apartB (min a (lC a o)) (o+1) y:=by
 refine⟨hl.sublist (List.eraseIdx_sublist _ _),Qb hf he ho hb,fun y hy=> ?_⟩;obtain⟨j,hj,hne,rfl⟩:=List.mem_eraseIdx_iff_getElem.1 hy;have hy2:=xR hl.sep hj hk hne;have hy1:=hd _ (gL hj);have hpy:=dR l[j].o;have hp:=dR o;have hps:2^(o+1)=2^o+2^o:=by rw[Nat.pow_succ];omega
 have hbc:=zB hb.1 hb.2.2.2;unfold apartB Bk.fin at*;rw[ha,h]at hy2;rw[hps];rcases hbc with ⟨h1,_⟩ | ⟨h1,_⟩ <;> omega
theorem aAz {f e a o:Nat}(hf:f%16=0)(he:e%16=0)(h:cZ f e a o)(ho:o<4):lC a o<e:=by
 obtain⟨h1,h2,h3,h4⟩:=h;unfold lC;obtain rfl | rfl | rfl | rfl:o=0∨o=1∨o=2∨o=3:=by omega
 all_goals simp only[Nat.reducePow]at*
 all_goals (split <;> omega)
set_option maxHeartbeats 4000000 in
set_option maxRecDepth 100000 in
theorem rV (a1 a2:Option Addr)(n1 n2 c1 c2:Nat)(z:Zn)(a o:Nat)(w:World)(hat:Hf w a1 a2 n1 n2 z)(hz:z.ok)(hfit:cZ z.f z.e a o)(hd:∀x∈z.l,apartB a o x):
 Calls Tryz.prog 149 #[.agg #[.int .i64 z.f,.int .i64 z.e,.slice a1 n1 c1,.slice a2 n2 c2],.int .i64 a,.int .i64 o] w fun ev w'=>∃a1' a2' n1' c1' c2',ev= .returned (.tuple #[.agg #[.int .i64 z.f,.int .i64 z.e,.slice a1' n1' c1',.slice a2' n2 c2'],.int .i64 0])/\gY w' w.heap.size a1' a2' n1' n2 c1' c2' (z.back a o)/\Below w.heap.size w w':=by
 have hlen:z.l.length<=256:=gQ (rQ.length_le hz.2 (fun b hb=>(hz.2.fit b hb).1.2.2.1)) hz.1.e2;have hee:=hz.1.e2;have hae:a<=256:=by have:=hfit.2.2.1;omega
 have l1:=hat.l1;have l2:=hat.l2;have hy32:z.y.length<=32:=by rw[hz.1.len];omega
 obtain⟨K3,K6,F3,F6,hsz,hbw⟩:=boxes2 w #[.int .i64 (z.f:Int),.int .i64 (z.e:Int),.slice a1 n1 c1,.slice a2 n2 c2] 102 #[.int .i64 0,.int .i64 0,.slice none 0 0,.slice none 0 0] 102;have nU:=hat.below hbw;have Zw:(z.l.any fun x=>decide (x.a<(⟨a,o,0⟩:Bk).fin/\(⟨a,o,0⟩:Bk).a<x.fin))=false:=by
  rw[List.any_eq_false];intro x hx h;have h1:=of_decide_eq_true h;have h2:=hd x hx;unfold apartB at h2;unfold Bk.fin at h1 h2;simp only at h1;omega
 have eg:∀args w,(callFunc 172 args).run Tryz.prog w= .ok (.enter 172 args) w:=enters_of Tryz.func172 (by kernel_rfl) rfl;clear hat
 go_enter Tryz.func149,Tryz.ntmps149
 go_wp2_with fail
 generalize (w.alloc _).alloc _=w0 at*;refine(oP _ _ _ _ _ _ z _ nU hz).mono ?_;rintro ev w1 ⟨rfl,hb1⟩;have hb2:=aF w1 (.cells #[.int .i64 (a:Int),.int .i64 (o:Int),.int .i64 0] 63);have eF:=Below.step hb1 hb2;have Zx:=aB K3 (by omega) eF;have Zy:=aB K6 (by omega) eF;have Zz:=aH F3 (by omega) eF;have ZA:=aH F6 (by omega) eF;have K9b:=aW w1 #[.int .i64 (a:Int),.int .i64 (o:Int),.int .i64 0] 63;have F9b:=eY w1 #[.int .i64 (a:Int),.int .i64 (o:Int),.int .i64 0] 63;have RU:=nU.below eF;have hbw2:=Below.step hbw eF;have hB:w.heap.size+2<=w1.heap.size:=by have:=hb1.size;omega
 have hs2:w1.heap.size<(w1.alloc (.cells #[.int .i64 (a:Int),.int .i64 (o:Int),.int .i64 0] 63)).heap.size:=by simp
 clear K3 K6 F3 F6 hb1 hb2 eF nU hbw hsz;go_wp2_with fail
 generalize w1.alloc _=w2 at*;generalize w1.heap.size=B at*;refine(uK z.f z.e _ _ _ _ _ _ ⟨a,o,0⟩ _ hfit hee).mono ?_;rintro ev w3 ⟨rfl,hb3⟩;have K3c:=aB Zx (by omega) hb3;have K6c:=aB Zy (by omega) hb3;have F3c:=aH Zz (by omega) hb3;have F6c:=aH ZA (by omega) hb3;have K9c:=aB K9b hs2 hb3;have F9c:=aH F9b hs2 hb3;have RV:=RU.below hb3;have hbw3:=Below.step hbw2 hb3;have hs3:B<w3.heap.size:=gI hs2 hb3.size;clear Zx Zy Zz ZA K9b F9b RU hbw2 hb3 hs2;go_wp2_with fail
 refine(CB _ _ _ z.l _ _ (fun x=>decide (x.a<(⟨a,o,0⟩:Bk).fin/\(⟨a,o,0⟩:Bk).a<x.fin)) _ l1 (by omega) RV.r1 eg (fun W hW x hx=>UR x ⟨a,o,0⟩ B W (hz.2.fit x hx).1.1 (by have:=(hz.2.fit x hx).1.2.2.1;omega) hfit.1 (by show a<=1000;omega) (gI hs3 hW.size) ((hW.cell (p:=⟨B,0,none⟩) hs3).trans (K9c 0)) ((hW.cell (p:=⟨B,1,none⟩) hs3).trans (K9c 1)) ((hW.cell (p:=⟨B,2,none⟩) hs3).trans (K9c 2)))).mono ?_;rw[Zw];rintro ev w4 ⟨rfl,hb4⟩;have K3d:=aB K3c (by omega) hb4;have K6d:=aB K6c (by omega) hb4;have F3d:=aH F3c (by omega) hb4;have F6d:=aH F6c (by omega) hb4;have K9d:=aB K9c hs3 hb4;have F9d:=aH F9c hs3 hb4;have aCD:=RV.below hb4;have aCE:=Below.step hbw3 hb4;have hs4:B<w4.heap.size:=gI hs3 hb4.size;clear K3c K6c F3c F6c K9c F9c RV hbw3 hb4 hs3 eg Zw;go_wp2_with fail
 refine(BH _ _ _ _ _ _ z.f z.e z _ aCD (by omega) (by omega)).mono ?_;rintro ev w5 ⟨a3,a4,c3,c4,rfl,hown,hb5⟩;have ZB:=aB K3d (by omega) hb5;have ZC:=aB K6d (by omega) hb5;have ZE:=aH F3d (by omega) hb5;have ZF:=aH F6d (by omega) hb5;have K9e:=aB K9d hs4 hb5;have F9e:=aH F9d hs4 hb5;have wE:=Below.step aCE hb5;have hs5:B<w5.heap.size:=gI hs4 hb5.size;have nn:=hown.ne (g:=w.heap.size) (.inl (by omega));have I0:CP w ((((w5.setCell ⟨w.heap.size,0,none⟩ (.int .i64 z.f)).setCell ⟨w.heap.size,1,none⟩ (.int .i64 z.e)).setCell ⟨w.heap.size,2,none⟩ (.slice a3 n1 c3)).setCell ⟨w.heap.size,3,none⟩ (.slice a4 n2 c4)) B a3 a4 n1 n2 c3 c4 z a o 0:=
  ⟨aI (aI (aI (aI ZB 0 _) 1 _) 2 _) 3 _,aG (aG (aG (aG ZE _ _) _ _) _ _) _ _,aA (aA (aA (aA ZC (by omega) _ _) (by omega) _ _) (by omega) _ _) (by omega) _ _,aG (aG (aG (aG ZF _ _) _ _) _ _) _ _,aA (aA (aA (aA K9e (by omega) _ _) (by omega) _ _) (by omega) _ _) (by omega) _ _,aG (aG (aG (aG F9e _ _) _ _) _ _) _ _,(((((hown.base (show B+1<=w4.heap.size by omega)).set nn _ _).set nn _ _).set nn _ _).set nn _ _),hB,by simpa using hs5,Below.setCell (Below.setCell (Below.setCell (Below.setCell wE (by simp only;omega) _) (by simp only;omega) _) (by simp only;omega) _) (by simp only;omega) _⟩
 have HI:=gO I0;clear I0 ZC ZF K9e F9e hown wE K3d K6d F3d F6d K9d F9d aCD aCE hb5 nn;go_wp2
 clear ZB ZE;generalize (((w5.setCell _ _).setCell _ _).setCell _ _).setCell _ _=w6 at*;go_loopw [10,11] (fun _ _ wr=>∃(l:List Bk) (a' o':Nat) (b1:Option Addr) (m1 d1:Nat),Hid (CP w wr B b1 a4 m1 n2 d1 c4 {z with l:=l} a' o' 0)/\Hid (rQ z.f z.e l)/\Hid (cZ z.f z.e a' o')/\Hid (∀x∈l,apartB a' o' x)/\Hid (iQ z.l a (4-o) o=iQ l a' (4-o') o')) (fun _ _ wr=>4-((wr.cell? ⟨B,1,none⟩).map fun v=>(intOf v).toNat).getD 0)
 case atStart=>exact⟨z.l,a,o,a3,n1,c3,HI,hz.2,hfit,hd,rfl⟩
 case round=>
  obtain⟨l,a',o',b1,m1,d1,HK,wW,Oo,Vh,HJ⟩:=hrel;clear HI;have I:=HK.out;have hft:=Oo.out;have hrise:=wW.out.rise;have hlm:l.length=m1:=I.own.l1;have ZG:l.length<=256:=gQ (rQ.length_le wW.out (fun b hb=>(wW.out.fit b hb).1.2.2.1)) hee;have aCF:=I.k9 1;have aAA:=I.k9 0;have aAB:=I.k3 0;have hk31:=I.k3 1;have aAC:=I.k3 2;have aAD:=I.k3 3;simp only[gB,gC,gD]at aAA aCF aAB hk31 aAC aAD;have hBr:=I.hi;have hwB:=I.lo;have hwr:w.heap.size<wr.heap.size:=by omega
  by_cases ho4:o'<4
  ·have hp4:=aAz hz.1.f16 hz.1.e16 hft ho4;have aJK:=Vf (a:=a') (o:=o') (by have:=hft.2.2.1;omega) hft.1 hft.2.2.2;have hsh:=uJ hft.1;have aAE:=I.own.at
   have d4:(o':Int)<4:=by omega
   have HI2:=gO I;clear I;go_wp2_with fail
   refine aS (by kernel_rfl) (by kernel_rfl) ?_
   repeat (first | go_big_quiet_step ((go_at_call 173;exact Calls.bV (find_ok _ _ _ _ _ _ z.f z.e {z with l:=l} (lC a' o') _ (aAE.below (aQ wr _)) (by omega) hrise (fun b hb=>by have:=(wW.out.fit b hb).1.2.2.1;omega) (by omega)))) | quiet_step ((go_at_call 173;exact Calls.bV (find_ok _ _ _ _ _ _ z.f z.e {z with l:=l} (lC a' o') _ (aAE.below (aQ wr _)) (by omega) hrise (fun b hb=>by have:=(wW.out.fit b hb).1.2.2.1;omega) (by omega)))))
   refine wpQuiet_nil ?_;rintro _ ⟨wx,rfl⟩;have I3:=HI2.out.below (aQ wr wx);clear aAA aCF aAB hk31 aAC aAD aAE HI2;go_wp2_with fail
   generalize ext wr wx=w7 at*;have aCG:=I3.hi;have Vj:w.heap.size<w7.heap.size:=by omega
   have k91:=I3.k9 1;have k90:=I3.k9 0;have k32:=I3.k3 2;simp only[gB,gC,gD]at k90 k91 k32;cases hbe:hasB l (lC a' o')with
   | false=>
    have hstop:=gO (JO hrise ho4 hbe)
    go_quiet (fail)
    have HT:=gO (I3.below (below_drewN (Below.refl w7.heap.size w7) nq));clear I3 k90 k91 k32;generalize w7.drewN nq=wt at*
    -- the end of Back, in the world wt: the block (a', o') is put in
    have hj:(a'-z.f)/8<z.y.length:=by rw[hz.1.len];have:=hft.2.1;have:=hft.2.2.1;have:=hz.1.f16;have:=hz.1.e16;omega
    obtain⟨tb,Hw,ht1,htb,htc⟩:=aN bQ (by decide) HT.out.own.at.r2 hj;obtain rfl:=ht1;have yC:=iJ htc;rw[Nat.mul_one]at yC;have ZH:((a':Int)-z.f)/8=(((a'-z.f)/8:Nat):Int):=by have:=hft.2.1;omega
    have hjn:((((a'-z.f)/8:Nat):Int))<n2:=by omega
    have hfa:(z.f:Int)<=a':=by have:=hft.2.1;omega
    have ht0:=HT.out.k3 0;have ht3:=HT.out.k3 3;have ht9:=HT.out.k9 0;have hty:=HT.out.k9 2;have htf:=HT.out.f9 2;simp only[gB,gC,gD]at ht0 ht3 ht9 hty;have uV:z.y.getD ((a'-z.f)/8) 0=z.y[(a'-z.f)/8]:=by rw[List.getD_eq_getElem?_getD,gJ hj];rfl
    have HBK:Hid (z.back a o={z with l:=bF l ⟨a',o',z.y[(a'-z.f)/8]⟩}):=by
     unfold Hid Zn.back;rw[HJ.out,hstop.out];simp only[uV]
    clear uV htc;simp only[]at yC;generalize z.y[(a'-z.f)/8]=ty at*;generalize (a'-z.f)/8=J at*;have HT2:=gO (HT.out.put9 2 (ty:Int) (a':=a') (o':=o') (t':=ty) rfl);have u0:=HT2.out.k3 0;have u1:=HT2.out.k3 1;have u2:=HT2.out.k3 2;have u3:=HT2.out.k3 3;have u9:=HT2.out.k9 0;simp only[gB,gC,gD]at u0 u1 u2 u3 u9;go_wp2_with fail
    generalize wt.setCell _ _=wu at*;refine(find_ok _ _ _ _ _ _ z.f z.e {z with l:=l} a' _ HT2.out.own.at (by omega) hrise (fun b hb=>by have:=(wW.out.fit b hb).1.2.2.1;omega) (by have:=hft.2.2.1;omega)).mono ?_;rintro ev wv ⟨rfl,hbv⟩;have HT3:=gO (HT2.out.below hbv);have v2:=HT3.out.k3 2;have v90:=HT3.out.k9 0;have v91:=HT3.out.k9 1;have v92:=HT3.out.k9 2;simp only[gB,gC,gD]at v2 v90 v91 v92;clear HT HT2 u0 u1 u2 u3 u9 ht0 ht3 ht9 hty htf yC htb;go_wp2_with fail
    have hbn:=aF wv (.cells #[.int .i64 (a':Int),.int .i64 (o':Int),.int .i64 (ty:Int)] 63);have HT4:=gO (HT3.out.below hbn);have hnew:(wv.alloc (.cells #[.int .i64 (a':Int),.int .i64 (o':Int),.int .i64 (ty:Int)] 63)).heap[wv.heap.size]? =some (.cells (aO ⟨a',o',ty⟩).toArray 63 (0,0)):=heap_alloc_new wv _;have hnn:=(HT3.out.own.ne (g:=wv.heap.size) (.inr (Nat.le_refl _))).1;clear HT3 v2 v90 v91 v92;have hlbm:lb l a'<=m1:=by have:=lD l a';omega
    generalize wv.heap.size=G at*;generalize wv.alloc _=wn at*;refine(mV (B+1) _ _ _ G (lb l a') l ⟨a',o',ty⟩ _ HT4.out.own.o1 hlbm (by omega) (by have:=HT4.out.hi;omega) hnew (fun e=>hnn e.symm)).mono ?_;rintro ev wi ⟨e1,f1,rfl,lH,hgi⟩;have qX:(bF l ⟨a',o',ty⟩).length=m1+1:=by unfold bF;rw[List.length_append,List.length_cons,List.length_take,List.length_drop];have:=lD l a';omega
    have HM:=gO (HT4.out.grown hgi (l':=bF l ⟨a',o',ty⟩) qX lH);have HF:=gO HM.out.put3;have m32:=HM.out.k3 2;have f32:=HM.out.f3 2;simp only[gB,gC,gD]at m32;have x0:=HF.out.k3;have x6:=HF.out.k6;have xf6:=HF.out.f6;have aCH:=HF.out.lo;clear HT4 hnew hnn lH hgi;go_wp2
    refine bodyPost_ret (v:= .tuple #[.agg #[.int .i64 z.f,.int .i64 z.e,.slice e1 (m1+1) f1,.slice (some ⟨tb,Hw,none⟩) n2 c4],.int .i64 0]) (by simp[results,Tryz.results149,go_sem,x6]) rfl ⟨e1,some ⟨tb,Hw,none⟩,m1+1,f1,c4,rfl,?_,?_⟩
    ·rw[HBK.out];have no:=HF.out.own.ne (g:=w.heap.size+1) (.inl (by omega));exact((((HF.out.own.set no _ _).set no _ _).set no _ _).set no _ _).base (by omega)
    ·exact Below.setCell (Below.setCell (Below.setCell (Below.setCell HF.out.bw (by simp only;omega) _) (by simp only;omega) _) (by simp only;omega) _) (by simp only;omega) _
   | true=>
    obtain⟨hkl,hka⟩:=FK hrise hbe;obtain⟨bb,off,hb1,hbb,hc⟩:=aN aJ (by decide) I3.own.at.r1 hkl;obtain rfl:=hb1;obtain⟨hc0,hc1,hc2⟩:=bD hc;have hkm:(lb l (lC a' o'):Int)<m1:=by omega
    have hstep:=gO (fun h=>JR ho4 hkl hka h);have hdiff:=gO (fun h=>JQ ho4 hkl h);have hkeep:=gO (fun h=>Om hz.1.f16 hz.1.e16 wW.out hft Vh.out ho4 hkl hka h);generalize hK:lb l (lC a' o')=K at*;have HKK:=gO hK;clear hK hc;simp only[]at hc0 hc1 hc2;generalize l[K]=x at*;have HI3:=gO I3;clear I3;by_cases hxo:x.o=o'
    ·have d5:((x.o:Int) != (o':Int))=false:=by simp[hxo]
     by_cases hlt:x.a<a'
     ·have hmn:lC a' o'=min a' (lC a' o'):=by omega
      have hlt2:(x.a:Int)<(a':Int):=by omega
      have hkp:=gO (hkeep.out hxo);have hst:=gO (hstep.out hxo);rw[<- hmn]at hkp hst;clear hmn
      go_quiet (fail)
      have HI4:=gO ((HI3.out.below (below_drewN (Below.refl w7.heap.size w7) nq)).below ((Below.refl (w7.drewN nq).heap.size (w7.drewN nq)).drew));have q1:=((below_drewN (Below.refl w7.heap.size w7) nq).cell (p:=⟨bb,off+K*3,none⟩) hbb).trans hc0;have q90:(w7.drewN nq).cell? ⟨B,0,none⟩=some (.int .i64 (a':Int)):=((below_drewN (Below.refl w7.heap.size w7) nq).cell (p:=⟨B,0,none⟩) aCG).trans k90;have q32:=((below_drewN (Below.refl w7.heap.size w7) nq).cell (p:=⟨w.heap.size,2,none⟩) Vj).trans k32;clear HI3 k90 k91 k32 hc0 hc1 hc2 hstep hdiff hkeep;go_wp2_with fail
      generalize w7.drewN nq=w8 at*
      go_still_tail 10,(by kernel_rfl)
      change wpList _ _ _ _ _ w8.drew;generalize w8.drew=w9 at*;have g90:=HI4.out.f9 0;have g91:=HI4.out.f9 1;have r90:=HI4.out.k9 0;have Vk:=HI4.out.k9 1;have HI5:=gO (HI4.out.put9 0 ((lC a' o'):Int) (a':=(lC a' o')) (o':=o') (t':=0) rfl);have r91:=HI5.out.k9 1;have HI6:=gO (HI5.out.put9 1 ((o':Int)+1) (a':=(lC a' o')) (o':=o'+1) (t':=0) (by simp));have s32:=HI6.out.k3 2;have t91:=HI5.out.f9 1;simp only[gB,gC,gD]at r90 r91 Vk s32;have hKm:K<m1:=by omega
      go_wp2_with fail
      generalize (w9.setCell _ _).setCell _ _=wp at*;refine(qV (B+1) _ _ _ l K _ HI6.out.own.o1 hKm (by omega) (by have:=HI6.out.hi;omega)).mono ?_;rintro ev wd ⟨rfl,hownd,hgd⟩;have HM:=gO (HI6.out.grown hgd (l':=l.eraseIdx K) (by rw[List.length_eraseIdx_of_lt hkl,hlm]) hownd);have HF:=gO HM.out.put3;have m32:=HM.out.k3 2;have f32:=HM.out.f3 2;simp only[gB,gC,gD]at m32;clear hownd hgd HI4 HI5 HI6 g90 g91 r90 r91 Vk s32 t91 q1 q90 q32;go_wp2
      go_roundw
      case rel=>exact⟨l.eraseIdx K,(lC a' o'),o'+1,_,m1-1,_,HF.out,hkp.out.1,hkp.out.2.1,hkp.out.2.2,HJ.out.trans hst.out⟩
      case measure=>
       rw[show wr.cell? ⟨B,1,none⟩=some (.int .i64 (o':Int))from HK.out.k9 1,show(wd.setCell _ _).cell? ⟨B,1,none⟩=some (.int .i64 ((o'+1:Nat):Int))from HF.out.k9 1];simp[intOf];omega
     ·have hmn:a'=min a' (lC a' o'):=by omega
      have hlt2:¬(x.a:Int)<(a':Int):=by omega
      have hkp:=gO (hkeep.out hxo);have hst:=gO (hstep.out hxo);rw[<- hmn]at hkp hst;clear hmn
      go_quiet (fail)
      have HI4:=gO ((HI3.out.below (below_drewN (Below.refl w7.heap.size w7) nq)).below ((Below.refl (w7.drewN nq).heap.size (w7.drewN nq)).drew));have q1:=((below_drewN (Below.refl w7.heap.size w7) nq).cell (p:=⟨bb,off+K*3,none⟩) hbb).trans hc0;have q90:(w7.drewN nq).cell? ⟨B,0,none⟩=some (.int .i64 (a':Int)):=((below_drewN (Below.refl w7.heap.size w7) nq).cell (p:=⟨B,0,none⟩) aCG).trans k90;have q32:=((below_drewN (Below.refl w7.heap.size w7) nq).cell (p:=⟨w.heap.size,2,none⟩) Vj).trans k32;clear HI3 k90 k91 k32 hc0 hc1 hc2 hstep hdiff hkeep;go_wp2_with fail
      generalize w7.drewN nq=w8 at*
      go_still_tail 10,(by kernel_rfl)
      change wpList _ _ _ _ _ w8.drew;generalize w8.drew=w9 at*;have g90:=HI4.out.f9 0;have g91:=HI4.out.f9 1;have r90:=HI4.out.k9 0;have Vk:=HI4.out.k9 1;have HI5:=gO (HI4.out.put9 0 (a':Int) (a':=a') (o':=o') (t':=0) rfl);have r91:=HI5.out.k9 1;have HI6:=gO (HI5.out.put9 1 ((o':Int)+1) (a':=a') (o':=o'+1) (t':=0) (by simp));have s32:=HI6.out.k3 2;have t91:=HI5.out.f9 1;simp only[gB,gC,gD]at r90 r91 Vk s32;have hKm:K<m1:=by omega
      go_wp2_with fail
      generalize (w9.setCell _ _).setCell _ _=wp at*;refine(qV (B+1) _ _ _ l K _ HI6.out.own.o1 hKm (by omega) (by have:=HI6.out.hi;omega)).mono ?_;rintro ev wd ⟨rfl,hownd,hgd⟩;have HM:=gO (HI6.out.grown hgd (l':=l.eraseIdx K) (by rw[List.length_eraseIdx_of_lt hkl,hlm]) hownd);have HF:=gO HM.out.put3;have m32:=HM.out.k3 2;have f32:=HM.out.f3 2;simp only[gB,gC,gD]at m32;clear hownd hgd HI4 HI5 HI6 g90 g91 r90 r91 Vk s32 t91 q1 q90 q32;go_wp2
      go_roundw
      case rel=>exact⟨l.eraseIdx K,a',o'+1,_,m1-1,_,HF.out,hkp.out.1,hkp.out.2.1,hkp.out.2.2,HJ.out.trans hst.out⟩
      case measure=>
       rw[show wr.cell? ⟨B,1,none⟩=some (.int .i64 (o':Int))from HK.out.k9 1,show(wd.setCell _ _).cell? ⟨B,1,none⟩=some (.int .i64 ((o'+1:Nat):Int))from HF.out.k9 1];simp[intOf];omega
    ·have d5:((x.o:Int) != (o':Int))=true:=by rw[bne_iff_ne];omega
     have hstop:=gO (hdiff.out hxo)
     go_quiet (fail)
     have HT:=gO (HI3.out.below (below_drewN (Below.refl w7.heap.size w7) nq));clear HI3 k90 k91 k32 hc0 hc1 hc2 hstep hdiff hkeep;generalize w7.drewN nq=wt at*
     -- the end of Back, in the world wt: the block (a', o') is put in
     have hj:(a'-z.f)/8<z.y.length:=by rw[hz.1.len];have:=hft.2.1;have:=hft.2.2.1;have:=hz.1.f16;have:=hz.1.e16;omega
     obtain⟨tb,Hw,ht1,htb,htc⟩:=aN bQ (by decide) HT.out.own.at.r2 hj;obtain rfl:=ht1;have yC:=iJ htc;rw[Nat.mul_one]at yC;have ZH:((a':Int)-z.f)/8=(((a'-z.f)/8:Nat):Int):=by have:=hft.2.1;omega
     have hjn:((((a'-z.f)/8:Nat):Int))<n2:=by omega
     have hfa:(z.f:Int)<=a':=by have:=hft.2.1;omega
     have ht0:=HT.out.k3 0;have ht3:=HT.out.k3 3;have ht9:=HT.out.k9 0;have hty:=HT.out.k9 2;have htf:=HT.out.f9 2;simp only[gB,gC,gD]at ht0 ht3 ht9 hty;have uV:z.y.getD ((a'-z.f)/8) 0=z.y[(a'-z.f)/8]:=by rw[List.getD_eq_getElem?_getD,gJ hj];rfl
     have HBK:Hid (z.back a o={z with l:=bF l ⟨a',o',z.y[(a'-z.f)/8]⟩}):=by
      unfold Hid Zn.back;rw[HJ.out,hstop.out];simp only[uV]
     clear uV htc;simp only[]at yC;generalize z.y[(a'-z.f)/8]=ty at*;generalize (a'-z.f)/8=J at*;have HT2:=gO (HT.out.put9 2 (ty:Int) (a':=a') (o':=o') (t':=ty) rfl);have u0:=HT2.out.k3 0;have u1:=HT2.out.k3 1;have u2:=HT2.out.k3 2;have u3:=HT2.out.k3 3;have u9:=HT2.out.k9 0;simp only[gB,gC,gD]at u0 u1 u2 u3 u9;go_wp2_with fail
     generalize wt.setCell _ _=wu at*;refine(find_ok _ _ _ _ _ _ z.f z.e {z with l:=l} a' _ HT2.out.own.at (by omega) hrise (fun b hb=>by have:=(wW.out.fit b hb).1.2.2.1;omega) (by have:=hft.2.2.1;omega)).mono ?_;rintro ev wv ⟨rfl,hbv⟩;have HT3:=gO (HT2.out.below hbv);have v2:=HT3.out.k3 2;have v90:=HT3.out.k9 0;have v91:=HT3.out.k9 1;have v92:=HT3.out.k9 2;simp only[gB,gC,gD]at v2 v90 v91 v92;clear HT HT2 u0 u1 u2 u3 u9 ht0 ht3 ht9 hty htf yC htb;go_wp2_with fail
     have hbn:=aF wv (.cells #[.int .i64 (a':Int),.int .i64 (o':Int),.int .i64 (ty:Int)] 63);have HT4:=gO (HT3.out.below hbn);have hnew:(wv.alloc (.cells #[.int .i64 (a':Int),.int .i64 (o':Int),.int .i64 (ty:Int)] 63)).heap[wv.heap.size]? =some (.cells (aO ⟨a',o',ty⟩).toArray 63 (0,0)):=heap_alloc_new wv _;have hnn:=(HT3.out.own.ne (g:=wv.heap.size) (.inr (Nat.le_refl _))).1;clear HT3 v2 v90 v91 v92;have hlbm:lb l a'<=m1:=by have:=lD l a';omega
     generalize wv.heap.size=G at*;generalize wv.alloc _=wn at*;refine(mV (B+1) _ _ _ G (lb l a') l ⟨a',o',ty⟩ _ HT4.out.own.o1 hlbm (by omega) (by have:=HT4.out.hi;omega) hnew (fun e=>hnn e.symm)).mono ?_;rintro ev wi ⟨e1,f1,rfl,lH,hgi⟩;have qX:(bF l ⟨a',o',ty⟩).length=m1+1:=by unfold bF;rw[List.length_append,List.length_cons,List.length_take,List.length_drop];have:=lD l a';omega
     have HM:=gO (HT4.out.grown hgi (l':=bF l ⟨a',o',ty⟩) qX lH);have HF:=gO HM.out.put3;have m32:=HM.out.k3 2;have f32:=HM.out.f3 2;simp only[gB,gC,gD]at m32;have x0:=HF.out.k3;have x6:=HF.out.k6;have xf6:=HF.out.f6;have aCH:=HF.out.lo;clear HT4 hnew hnn lH hgi;go_wp2
     refine bodyPost_ret (v:= .tuple #[.agg #[.int .i64 z.f,.int .i64 z.e,.slice e1 (m1+1) f1,.slice (some ⟨tb,Hw,none⟩) n2 c4],.int .i64 0]) (by simp[results,Tryz.results149,go_sem,x6]) rfl ⟨e1,some ⟨tb,Hw,none⟩,m1+1,f1,c4,rfl,?_,?_⟩
     ·rw[HBK.out];have no:=HF.out.own.ne (g:=w.heap.size+1) (.inl (by omega));exact((((HF.out.own.set no _ _).set no _ _).set no _ _).set no _ _).base (by omega)
     ·exact Below.setCell (Below.setCell (Below.setCell (Below.setCell HF.out.bw (by simp only;omega) _) (by simp only;omega) _) (by simp only;omega) _) (by simp only;omega) _
  ·have d4:¬(o':Int)<4:=by omega
   have hstop:Hid (iQ l a' (4-o') o'=(l,a',o')):=by unfold Hid;rw[show 4-o'=0 by omega];rfl
   have HT:=gO I;clear I aAA aAB hk31 aAC aAD
   -- the end of Back, in the world wr: the block (a', o') is put in
   have hj:(a'-z.f)/8<z.y.length:=by rw[hz.1.len];have:=hft.2.1;have:=hft.2.2.1;have:=hz.1.f16;have:=hz.1.e16;omega
   obtain⟨tb,Hw,ht1,htb,htc⟩:=aN bQ (by decide) HT.out.own.at.r2 hj;obtain rfl:=ht1;have yC:=iJ htc;rw[Nat.mul_one]at yC;have ZH:((a':Int)-z.f)/8=(((a'-z.f)/8:Nat):Int):=by have:=hft.2.1;omega
   have hjn:((((a'-z.f)/8:Nat):Int))<n2:=by omega
   have hfa:(z.f:Int)<=a':=by have:=hft.2.1;omega
   have ht0:=HT.out.k3 0;have ht3:=HT.out.k3 3;have ht9:=HT.out.k9 0;have hty:=HT.out.k9 2;have htf:=HT.out.f9 2;simp only[gB,gC,gD]at ht0 ht3 ht9 hty;have uV:z.y.getD ((a'-z.f)/8) 0=z.y[(a'-z.f)/8]:=by rw[List.getD_eq_getElem?_getD,gJ hj];rfl
   have HBK:Hid (z.back a o={z with l:=bF l ⟨a',o',z.y[(a'-z.f)/8]⟩}):=by
    unfold Hid Zn.back;rw[HJ.out,hstop.out];simp only[uV]
   clear uV htc;simp only[]at yC;generalize z.y[(a'-z.f)/8]=ty at*;generalize (a'-z.f)/8=J at*;have HT2:=gO (HT.out.put9 2 (ty:Int) (a':=a') (o':=o') (t':=ty) rfl);have u0:=HT2.out.k3 0;have u1:=HT2.out.k3 1;have u2:=HT2.out.k3 2;have u3:=HT2.out.k3 3;have u9:=HT2.out.k9 0;simp only[gB,gC,gD]at u0 u1 u2 u3 u9;go_wp2_with fail
   generalize wr.setCell _ _=wu at*;refine(find_ok _ _ _ _ _ _ z.f z.e {z with l:=l} a' _ HT2.out.own.at (by omega) hrise (fun b hb=>by have:=(wW.out.fit b hb).1.2.2.1;omega) (by have:=hft.2.2.1;omega)).mono ?_;rintro ev wv ⟨rfl,hbv⟩;have HT3:=gO (HT2.out.below hbv);have v2:=HT3.out.k3 2;have v90:=HT3.out.k9 0;have v91:=HT3.out.k9 1;have v92:=HT3.out.k9 2;simp only[gB,gC,gD]at v2 v90 v91 v92;clear HT HT2 u0 u1 u2 u3 u9 ht0 ht3 ht9 hty htf yC htb;go_wp2_with fail
   have hbn:=aF wv (.cells #[.int .i64 (a':Int),.int .i64 (o':Int),.int .i64 (ty:Int)] 63);have HT4:=gO (HT3.out.below hbn);have hnew:(wv.alloc (.cells #[.int .i64 (a':Int),.int .i64 (o':Int),.int .i64 (ty:Int)] 63)).heap[wv.heap.size]? =some (.cells (aO ⟨a',o',ty⟩).toArray 63 (0,0)):=heap_alloc_new wv _;have hnn:=(HT3.out.own.ne (g:=wv.heap.size) (.inr (Nat.le_refl _))).1;clear HT3 v2 v90 v91 v92;have hlbm:lb l a'<=m1:=by have:=lD l a';omega
   generalize wv.heap.size=G at*;generalize wv.alloc _=wn at*;refine(mV (B+1) _ _ _ G (lb l a') l ⟨a',o',ty⟩ _ HT4.out.own.o1 hlbm (by omega) (by have:=HT4.out.hi;omega) hnew (fun e=>hnn e.symm)).mono ?_;rintro ev wi ⟨e1,f1,rfl,lH,hgi⟩;have qX:(bF l ⟨a',o',ty⟩).length=m1+1:=by unfold bF;rw[List.length_append,List.length_cons,List.length_take,List.length_drop];have:=lD l a';omega
   have HM:=gO (HT4.out.grown hgi (l':=bF l ⟨a',o',ty⟩) qX lH);have HF:=gO HM.out.put3;have m32:=HM.out.k3 2;have f32:=HM.out.f3 2;simp only[gB,gC,gD]at m32;have x0:=HF.out.k3;have x6:=HF.out.k6;have xf6:=HF.out.f6;have aCH:=HF.out.lo;clear HT4 hnew hnn lH hgi;go_wp2
   refine bodyPost_ret (v:= .tuple #[.agg #[.int .i64 z.f,.int .i64 z.e,.slice e1 (m1+1) f1,.slice (some ⟨tb,Hw,none⟩) n2 c4],.int .i64 0]) (by simp[results,Tryz.results149,go_sem,x6]) rfl ⟨e1,some ⟨tb,Hw,none⟩,m1+1,f1,c4,rfl,?_,?_⟩
   ·rw[HBK.out];have no:=HF.out.own.ne (g:=w.heap.size+1) (.inl (by omega));exact((((HF.out.own.set no _ _).set no _ _).set no _ _).set no _ _).base (by omega)
   ·exact Below.setCell (Below.setCell (Below.setCell (Below.setCell HF.out.bw (by simp only;omega) _) (by simp only;omega) _) (by simp only;omega) _) (by simp only;omega) _
end
end Go.Proofs.YtcmpmobhongkiaaGreatDoor
