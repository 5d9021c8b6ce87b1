/- joined. -/
import Derived.Test.YtcmpmobhongkiaaGreatDoorRK0
import Derived.Test.YtcmpmobhongkiaaGreatDoorRK13
import Derived.Test.YtcmpmobhongkiaaGreatDoorRK17
set_option linter.unusedVariables false
set_option linter.unusedSimpArgs false
namespace Go.Proofs.YtcmpmobhongkiaaGreatDoor
section
open Go.RowKit
theorem Ky {l:List Ls}{i:Nat}(h:i<l.length):lsB (l.take (i+1))=lsB (l.take i)++kR l[i].p:=by
 have happ:∀a b:List Ls,lsB (a++b)=lsB a++lsB b:=fun a b=>by
  induction a with
  | nil=>rfl
  | cons x a ih=>simp only[List.cons_append,lsB,ih,List.append_assoc]
 rw[List.take_succ_eq_append_getElem h,happ];simp[lsB]
theorem SE (l:List Ls)(i:Nat):lsB l=lsB (l.take i)++lsB (l.drop i):=by
 have happ:∀a b:List Ls,lsB (a++b)=lsB a++lsB b:=fun a b=>by
  induction a with
  | nil=>rfl
  | cons x a ih=>simp only[List.cons_append,lsB,ih,List.append_assoc]
 rw[<- happ,List.take_append_drop]
theorem Qv (done:List Bk)(l:List Nat)(j:Nat)(hj:j<l.length):done++kR (l.take (j+1))=(done++kR (l.take j))++[⟨l[j],0,0⟩]:=by
 rw[List.take_succ_eq_append_getElem hj,List.append_assoc];unfold kR;rw[List.map_append];rfl
theorem Yl {done r:List Bk}{l:List Nat}(h:∀p,cnt (done++(kR l++r)) p<=1){j:Nat}(hj:j<l.length)(p:Nat):cnt ((done++kR (l.take j))++[⟨l[j],0,0⟩]) p<=1:=by
 rw[<- Qv done l j hj];have h1:kR l=kR (l.take (j+1))++kR (l.drop (j+1)):=by unfold kR;rw[<- List.map_append,List.take_append_drop]
 have h2:=h p;rw[h1,bP,bP,bP]at h2;rw[bP];omega
set_option maxHeartbeats 4000000 in
set_option maxRecDepth 100000 in
theorem Vz (az am al av:Option Addr)(cz cm cl cv nl nv G:Nat)(y0 y1:Zc)(lc:List Lc)(h:Hp)(done:List Bk)(w0 w:World)(hh:HAt w0 az am al av nl nv y0 y1 lc h)(hw0:w0.heap.size<=G)(hb0:Below w0.heap.size w0 w)(hk:dZ h)(hnl:nl<=1000)(hm:zU w G (ED done) false)(hone:∀p,cnt (done++lsB h.ls) p<=1):
 Calls Tryz.prog 129 #[.agg #[.slice az 2 cz,.slice am 2 cm,.int .i64 h.aC,.slice al nl cl,.slice av nv cv],.pointer (some ⟨G,0,none⟩)] w fun ev w'=>ev= .returned (.bool true)/\zU w' G (ED (done++lsB h.ls)) false/\Safe (fun k=>k≠G) w w':=by
 obtain⟨K2,F2,hsz,hbw⟩:=boxes1 w #[.slice az 2 cz,.slice am 2 cm,.int .i64 (h.aC:Int),.slice al nl cl,.slice av nv cv] 44;have hGw:=hm.hi;have HM:=gO (hm.below hbw);have HH:=gO hh;have hbx:=gO (hb0.trans (hbw.mono hb0.size));have hlen:lc.length=nl:=hh.nl;have aFH:h.ls.length=nl:=by rw[<- hh.ll,List.length_map,hlen]
 have Yi:=gO hh.ll;have Kv:Hid (kS h.ls):=hk.lk;have HLR:=gO hk.lr;have aFM:=gO hone;have Ym:=gO (Safe.iM (X:=fun k=>k≠G) hbw);clear hh hm hb0 hone hbw;go_enter Tryz.func129,Tryz.ntmps129
 go_wp2
 generalize w.alloc _=w1 at*;go_loopw [12] (fun s12 wr=>∃i:Nat,i<=nl/\s12= .int .i64 (i:Int)/\Hid (zU wr G (ED (done++lsB (h.ls.take i))) false)/\Hid (Safe (fun k=>k≠G) w1 wr)) (fun s12 _=>nl-(intOf s12).toNat)
 case atStart=>exact⟨0,Nat.zero_le _,rfl,by simpa[Hid,lsB]using HM.out,Safe.refl _ _⟩
 case round=>
  obtain⟨i,hi,rfl,HK,HS⟩:=hrel;have hne:w.heap.size≠G:=by omega
  have Bc:=HS.out.box K2 hsz hne;have Vg:=HS.out.size;have hw1:w.heap.size<wr.heap.size:=by omega
  have hB:=gO (HS.out.after hbx.out (B:=w0.heap.size) (fun k hk=>by omega) (by have:=hbx.out.size;omega));have k20:=Bc 0;have k21:=Bc 1;have k22:=Bc 2;have k23:=Bc 3;have k24:=Bc 4;simp only[gB,gC,gD]at k20 k21 k22 k23 k24;clear Bc;by_cases hlt:i<nl
  ·have hlt2:(i:Int)<nl:=by omega
   have hi2:i<lc.length:=by omega
   have hi3:i<h.ls.length:=by omega
   have hel:∀j (h1:j<lc.length) (h2:j<h.ls.length),lc[j].l=h.ls[j]:=fun j h1 h2=>by
    have h3:=congrArg (·[j]?) Yi.out;simp[h1,h2]at h3;exact h3
   have HAr:=gO (HH.out.below hB.out);obtain⟨bb,off,ha1,hbb,hc⟩:=aN aP (by decide) HAr.out.lr hi2;obtain rfl:=ha1;obtain⟨hc0,hc1,hc2,hc3⟩:=nK hc;have hpr:=HAr.out.pr _ (gL hi2);have hok:=HLR.out _ (gL hi3);have hpre:Hid (0<i->∃k,k+1=i/\∃y:Lc,(∀j v,(bH y)[j]? =some v->wr.cell? ⟨bb,off+k*4+j,none⟩=some v)/\y.l.key<h.ls[i].key/\y.l.z<2/\y.l.t<3):=fun h0=>by
    obtain⟨bb',off',ha2,aAH,hc'⟩:=aN aP (by decide) HAr.out.lr (j:=i-1) (by omega);obtain⟨rfl,rfl⟩:bb=bb'/\off=off':=by simpa using ha2
    have h5:=hel (i-1) (by omega) (by omega);have h6:=HLR.out _ (gL (show i-1<h.ls.length by omega));refine⟨i-1,by omega,lc[i-1],hc',?_,?_⟩
    ·rw[h5];exact List.pairwise_iff_getElem.1 Kv.out (i-1) i (by omega) (by omega) (by omega)
    ·rw[h5];exact⟨h6.2.1,h6.2.2.1⟩
   have aC1:=hel i hi2 hi3;rw[aC1]at hc0 hc1 hc2 hpr;have hnext:=gO (Ky hi3);have hpz:Hid (∀p∈h.ls[i].p,p<256/\h.iR p=h.ls[i].z):=fun p hp=>by
    have h7:=hok.2.2.2.2.2 p hp;have h8:=hok.2.1;refine⟨h7.1,?_⟩;unfold Hp.iR;by_cases h9:p<h.z0.e
    ·rw[if_pos h9];exact(h7.2.1 h9).symm
    ·rw[if_neg h9];have:=fun e=>h9 (h7.2.2 e);omega
   have HC1:Hid (∀p,cnt ((done++lsB (h.ls.take i))++(kR h.ls[i].p++lsB (h.ls.drop (i+1)))) p<=1):=fun p=>by
    have h1:=aFM.out p;have h2:lsB h.ls=lsB (h.ls.take i)++(kR h.ls[i].p++lsB (h.ls.drop (i+1))):=by
     rw[<- List.append_assoc,<- Ky hi3];exact SE h.ls (i+1)
    rw[h2,<- List.append_assoc]at h1;exact h1
   have bJ:=hok.1;have hzz:=hok.2.1;have htt:=hok.2.2.1;have hp1:=hok.2.2.2.1;have hp8:=hok.2.2.2.2.1;obtain⟨hpn,aC2⟩:=hpr;have aC3:=HH.out.pr _ (gL hi2);have HPR:Hid (Row w0 lc[i].a (flat gV lc[i].l.p)):=aC3.2;clear aC3;rw[aC1]at HPR;generalize h.ls[i]=y at*;clear hc hel hok;generalize lc[i]=r at*;obtain⟨pb,kZ,hp9,_,_⟩:=aN bQ (by decide) HPR.out (j:=0) (show 0<y.p.length by omega);generalize r.a=ra at*;obtain rfl:=hp9;rw[hpn]at hp1 hp8;have g1:decide ((y.c:Int)<0)=false:=decide_eq_false (by omega);have g3:decide ((y.z:Int)<0)=false:=decide_eq_false (by omega);have g5:decide ((y.t:Int)<0)=false:=decide_eq_false (by omega);have g4:decide ((1:Int)<y.z)=false:=decide_eq_false (by omega);have g6:decide ((3:Int)<=y.t)=false:=decide_eq_false (by omega);have g8:decide ((8:Int)<r.n)=false:=decide_eq_false (by omega);have gg2:decide (h.aC<=y.c)=false:=decide_eq_false (by omega);have gg4:decide (1<y.z)=false:=decide_eq_false (by omega);have gg6:decide (3<=y.t)=false:=decide_eq_false (by omega);have gg7:((r.n:Int) == 0)=false:=by rw[beq_eq_false_iff_ne];omega
   have gg8:decide (8<r.n)=false:=decide_eq_false (by omega);go_wp2_with fail
   obtain⟨E2,EF2,Ii,sN⟩:=boxes1 wr #[.int .i64 (y.c:Int),.int .i64 (y.z:Int),.int .i64 (y.t:Int),.slice (some ⟨pb,kZ,none⟩) r.n r.c] 207;have e0:=E2 0;have e1:=E2 1;have e2:=E2 2;have e3:=E2 3;simp only[gB,gC,gD]at e0 e1 e2 e3;have q0:=(sN.cell (p:=⟨w.heap.size,0,none⟩) hw1).trans k20;have q2:=(sN.cell (p:=⟨w.heap.size,2,none⟩) hw1).trans k22;have q3:=(sN.cell (p:=⟨w.heap.size,3,none⟩) hw1).trans k23;have Yj:w.heap.size<(wr.alloc (.cells #[.int .i64 (y.c:Int),.int .i64 (y.z:Int),.int .i64 (y.t:Int),.slice (some ⟨pb,kZ,none⟩) r.n r.c] 207)).heap.size:=by omega
   have hpx:Hid (0<i->∃k:Nat,(i:Int)-1=k/\(k:Int)<nl/\k<nl/\bb<(wr.alloc (.cells #[.int .i64 (y.c:Int),.int .i64 (y.z:Int),.int .i64 (y.t:Int),.slice (some ⟨pb,kZ,none⟩) r.n r.c] 207)).heap.size/\∃x:Lc,x.l.key<y.key/\(x.l.z<2/\x.l.t<3)/\(wr.alloc (.cells #[.int .i64 (y.c:Int),.int .i64 (y.z:Int),.int .i64 (y.t:Int),.slice (some ⟨pb,kZ,none⟩) r.n r.c] 207)).cell? ⟨bb,off+k*4,none⟩=some (.int .i64 x.l.c)/\(wr.alloc (.cells #[.int .i64 (y.c:Int),.int .i64 (y.z:Int),.int .i64 (y.t:Int),.slice (some ⟨pb,kZ,none⟩) r.n r.c] 207)).cell? ⟨bb,off+k*4+1,none⟩=some (.int .i64 x.l.z)/\(wr.alloc (.cells #[.int .i64 (y.c:Int),.int .i64 (y.z:Int),.int .i64 (y.t:Int),.slice (some ⟨pb,kZ,none⟩) r.n r.c] 207)).cell? ⟨bb,off+k*4+2,none⟩=some (.int .i64 x.l.t)/\(wr.alloc (.cells #[.int .i64 (y.c:Int),.int .i64 (y.z:Int),.int .i64 (y.t:Int),.slice (some ⟨pb,kZ,none⟩) r.n r.c] 207)).cell? ⟨bb,off+k*4+3,none⟩=some (.slice x.a x.n x.c)):=fun h0=>by
    obtain⟨k,hki,x,hxc,hxk,hxz⟩:=hpre.out h0;obtain⟨x0,x1,x2,x3⟩:=nK hxc;exact⟨k,by omega,by omega,by omega,gI hbb sN.size,x,hxk,hxz,(sN.cell (p:=⟨bb,off+k*4,none⟩) hbb).trans x0,(sN.cell (p:=⟨bb,off+k*4+1,none⟩) hbb).trans x1,(sN.cell (p:=⟨bb,off+k*4+2,none⟩) hbb).trans x2,(sN.cell (p:=⟨bb,off+k*4+3,none⟩) hbb).trans x3⟩
   have HE2:=gO E2;have HK5:=gO (HK.out.below sN);have HS5:=gO (HS.out.then sN);have HB5:=gO (AU sN hB.out (by have:=hbx.out.size;have:=hB.out.size;omega));clear E2 EF2 hpre HK HS hB HAr hc0 hc1 hc2 hc3 sN k20 k21 k22 k23 k24 aC2;generalize wr.alloc _=w5 at*;by_cases h0:0<i;all_goals first
    |(obtain⟨k,hik,hkn,hkn2,aFJ,x,hxk,hxz,x0,x1,x2,x3⟩:=hpx.out h0
      have g9:decide ((0:Int)<i)=true:=decide_eq_true (by omega);have gg9:decide (0<i)=true:=decide_eq_true h0;have gl:decide (x.l.key<y.key)=true:=decide_eq_true hxk;have hyz:y.z<2/\y.t<3:=⟨hzz,htt⟩
      refine aS (by kernel_rfl) (by kernel_rfl) ?_
      repeat (go_big_quiet_step ((go_at_call 165;exact Calls.bV (yG x.l y _ _ _ _ _ _ _ hxz hyz)))))
    |(have g9:decide ((0:Int)<i)=false:=decide_eq_false (by omega)
      have gg9:decide (0<i)=false:=decide_eq_false (by omega);refine aS (by kernel_rfl) (by kernel_rfl) ?_
      repeat (go_big_quiet_step (fail)))
   all_goals
    refine wpQuiet_nil ?_;rintro _ ⟨wx,rfl⟩
    try clear gl hxk
    have SG:=aQ w5 wx;have K6:=aB HE2.out Ii SG;have HK6:=gO (HK5.out.below SG);have HS6:=gO (HS5.out.then SG);have HB6:=gO (AU SG HB5.out (by have:=HB5.out.size;omega));have SH:wr.heap.size<(ext w5 wx).heap.size:=gI Ii SG.size;have hGr:G<wr.heap.size:=by omega
    have f3:=K6 3;simp only[gB,gC,gD]at f3;generalize ext w5 wx=w6 at*;clear SG;go_wp2_with fail
    obtain⟨we,rfl⟩:∃we,we=wr:=⟨_,rfl⟩
    go_loopw [77] (fun s77 wq=>∃j:Nat,j<=r.n/\s77= .int .i64 (j:Int)/\Hid (zU wq G (ED ((done++lsB (h.ls.take i))++kR (y.p.take j))) false)/\Hid (Safe (fun k=>k≠G) w6 wq)) (fun s77 _=>r.n-(intOf s77).toNat)
    case atStart=>exact⟨0,Nat.zero_le _,rfl,by simpa[Hid,kR]using HK6.out,Safe.refl _ _⟩
    case round=>
     obtain⟨j,hj,rfl,HQ,Kz⟩:=hrel;have aAW:=Kz.out.size;have aFO:we.heap.size≠G:=by omega
     by_cases hjl:j<r.n
     ·have aAX:(j:Int)<r.n:=by omega
      have hjp:j<y.p.length:=by omega
      have pR:=gO (Kz.out.after HB6.out (B:=w0.heap.size) (fun k hk=>by omega) (by have:=HB6.out.size;omega));obtain⟨pb',Df,hp9,hpb,hpc⟩:=aN bQ (by decide) (HPR.out.below (pR.out)) (j:=j) hjp;obtain⟨rfl,rfl⟩:pb=pb'/\kZ=Df:=by simpa using hp9
      have Dh:=iJ hpc;have hpp:=hpz.out _ (gL hjp);have hcn:=gO (Yl HC1.out hjp);have hnx:=gO (Qv (done++lsB (h.ls.take i)) y.p j hjp);obtain⟨P,hP⟩:∃P,y.p[j]=P:=⟨_,rfl⟩
      rw[hP]at Dh hpp;have HP:=gO hP;clear hpc hP;rw[Nat.mul_one]at Dh;go_wp2_with fail
      refine(Dc G ⟨P,0,0⟩ _ _ HQ.out (fun p=>by have h1:=hcn.out p;rw[HP.out]at h1;exact h1) (by show P+1<=256;omega) 1 rfl).mono ?_;rintro ev w7 ⟨rfl,hm7,hs7⟩;have HM7:Hid (zU w7 G (ED ((done++lsB (h.ls.take i))++kR (y.p.take (j+1)))) false):=by
       unfold Hid;rw[hnx.out,HP.out];exact hm7
      have HS7:=gO (Kz.out.trans hs7);have hB7:=HS7.out.after HB6.out (B:=w0.heap.size) (fun k hk=>by omega) (by have:=HB6.out.size;omega);have HAT7:=gO (HH.out.below hB7);have b7:=(hm7.k 256).trans (yM _ _);have hG7:=hm7.hi;have hw7:w.heap.size<w7.heap.size:=by have:=HS7.out.size;omega
      have aJX:we.heap.size<w7.heap.size:=by have:=HS7.out.size;omega
      have H7:=HS7.out.box K6 SH aFO;have L7:=(HS6.out.trans HS7.out).box K2 hsz hne;have l70:=L7 0;have l71:=L7 1;have l72:=L7 2;have l73:=L7 3;have l74:=L7 4;have r71:=H7 1;simp only[gB,gC,gD]at l70 l71 l72 l73 l74 r71;clear H7 L7 hm7 hs7 hB7 Dh;have gz:(((h.iR P:Nat):Int) != (y.z:Int))=false:=by simp[hpp.2]
      go_wp2_with fail
      refine aS (by kernel_rfl) (by kernel_rfl) ?_
      repeat (go_big_quiet_step ((go_at_call 136;exact Calls.bV (Ic _ _ _ _ _ _ _ _ _ _ _ _ _ h P _ (HAT7.out.below (aQ w7 _))))))
      refine wpQuiet_nil ?_;rintro _ ⟨wy,rfl⟩;have HS8:=gO (HS7.out.then (aQ w7 wy));have HM8:=gO (HM7.out.below (aQ w7 wy));generalize ext w7 wy=w8 at*;go_wp2
      go_roundw
      case rel=>exact⟨j+1,by omega,by go_num,HM8,HS8⟩
      case measure=>simp[intOf];omega
     ·obtain rfl:j=r.n:=by omega
      have hend:Hid (zU wr G (ED (done++lsB (h.ls.take (i+1)))) false):=by
       unfold Hid;rw[hnext.out,<- List.append_assoc];have h1:=HQ.out;rw[List.take_of_length_le (show y.p.length<=r.n by omega)]at h1;exact h1
      have hsend:=gO (HS6.out.trans Kz.out);go_wp2_with fail
      go_roundw
      case rel=>exact⟨i+1,by omega,by go_num,hend,hsend⟩
      case measure=>simp[intOf];omega
  ·obtain rfl:i=nl:=by omega
   have hend:Hid (zU wr G (ED (done++lsB h.ls)) false):=by
    have h1:=HK.out;rw[List.take_of_length_le (by omega)]at h1;exact h1
   go_wp2
   go_ret
   exact⟨rfl,hend.out,Ym.out.trans HS.out⟩
end
end Go.Proofs.YtcmpmobhongkiaaGreatDoor
