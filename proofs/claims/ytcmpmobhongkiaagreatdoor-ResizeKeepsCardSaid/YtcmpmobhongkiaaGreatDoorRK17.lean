/- joined. -/
import Derived.Test.YtcmpmobhongkiaaGreatDoorRK0
import Derived.Test.YtcmpmobhongkiaaGreatDoorRK12
set_option linter.unusedVariables false
set_option linter.unusedSimpArgs false
namespace Go.Proofs.YtcmpmobhongkiaaGreatDoor
section
open Go.RowKit
theorem Ko:∀f:Nat,f<=15->(bits .and .i64 (f:Int) 8=if f/8%2=1 then 8 else 0)/\(bits .and .i64 (f:Int) 1=if f%2=1 then 1 else 0):=by decide+kernel
set_option maxHeartbeats 2000000 in
set_option maxRecDepth 100000 in
theorem Yg (az am al av:Option Addr)(cz cm cl cv nl nv:Nat)(y0 y1:Zc)(lc:List Lc)(h:Hp)(i flags:Nat)(w:World)(hh:HAt w az am al av nl nv y0 y1 lc h)(hk:dZ h)(hi:i<2)(hf:flags<=15):
 Calls Tryz.prog 177 #[.agg #[.slice az 2 cz,.slice am 2 cm,.int .i64 h.aC,.slice al nl cl,.slice av nv cv],.int .i64 i,.int .i64 flags] w fun ev w'=>ev= .returned (.int .i64 (h.held i (decide (flags/8%2=1)) (decide (flags%2=1)):Nat))/\Below w.heap.size w w':=by
 have hb:=aF w (.cells #[.slice az 2 cz,.slice am 2 cm,.int .i64 (h.aC:Int),.slice al nl cl,.slice av nv cv] 44);obtain⟨bb,off,ha1,hbb,hc⟩:=aN iF (by decide) (hh.zr.below hb) (j:=1) (by simp);obtain rfl:=ha1;obtain⟨hc0,hc1,hc2,hc3⟩:=lI hc;obtain⟨mb,aFF,ha2,hmb,hmc⟩:=aN bQ (by decide) (hh.mr.below hb) (j:=i) (by simpa using hi);obtain rfl:=ha2;have hm0:=iJ hmc;rw[Nat.mul_one]at hm0;have hmin:([h.m0,h.m1]:List Nat)[i]'(by simpa using hi)=h.min i:=by
  unfold Hp.min;obtain rfl | rfl:i=0∨i=1:=by omega
  ·rfl
  ·rfl
 rw[hmin]at hm0;have he:=hh.e1;simp only[List.getElem_cons_zero,List.getElem_cons_succ]at hc0 hc1 hc2 hc3;rw[he]at hc0 hc1;have aIj:h.min i<=256:=by unfold Hp.min;have:=hk.m0;have:=hk.m1;split <;> omega
 have hz1:=hk.e1;have hz2:=hk.o1.1.fe;have hz3:h.z1.f<=256:=by omega
 obtain⟨hb8,hb1⟩:=Ko flags hf;have HHD:Hid (∀u lo:Bool,h.held i u lo=(if u then h.min i/2 else h.min i)+(if i=0/\lo=false then(h.z1.e-h.z1.f)/32 else 0)):=fun _ _=>rfl
 clear hh hc hmc hmin he;generalize h.min i=m at*;have hi2:(i:Int)<2:=by omega
 have hdx:((h.z1.e:Int)-h.z1.f)/32=(((h.z1.e-h.z1.f)/32:Nat):Int):=by omega
 have hdn:(0:Int)<=(h.z1.e:Int)-h.z1.f:=by omega
 have hd8:(h.z1.e-h.z1.f)/32<=8:=by omega
 have hdc:(((h.z1.e-h.z1.f)/32:Nat):Int)=((h.z1.e:Int)-h.z1.f)/32:=hdx.symm;clear hdx;obtain⟨D,hD⟩:∃D,(h.z1.e-h.z1.f)/32=D:=⟨_,rfl⟩
 rw[hD]at hdc hd8;have HD:=gO hD;clear hD
 -- the four ways: urgent or not, the first zone without the flag or else
 obtain⟨n,hn⟩:∃n,(if flags/8%2=1 then m/2 else m)=n:=⟨_,rfl⟩
 have aCY:n<=256:=by rw[<- hn];split <;> omega
 have hmain:Calls Tryz.prog 177 #[.agg #[.slice (some ⟨bb,off,none⟩) 2 cz,.slice (some ⟨mb,aFF,none⟩) 2 cm,.int .i64 h.aC,.slice al nl cl,.slice av nv cv],.int .i64 i,.int .i64 flags] w fun ev w'=>ev= .returned (.int .i64 ((n+if i=0/\¬flags%2=1 then D else 0:Nat):Int))/\Below w.heap.size w w':=by
  have hq:(if flags/8%2=1 then(m:Int)/2 else(m:Int))=(n:Int):=by rw[<- hn];split <;> omega
  by_cases h8:flags/8%2=1
  ·rw[if_pos h8]at hb8 hq;by_cases hi0:i=0
   ·subst hi0;rw[Nat.add_zero]at hm0;by_cases h1:flags%2=1
    ·rw[if_pos h1]at hb1;rw[if_neg (by simp[h1])];go_enter Tryz.func177,Tryz.ntmps177
     go_wp2
     go_ret
     exact⟨dP (by simp),hb⟩
    ·rw[if_neg h1]at hb1;rw[if_pos ⟨rfl,h1⟩];go_enter Tryz.func177,Tryz.ntmps177
     go_wp2_with fail
     go_quiet (fail)
     go_wp2
     go_ret
     exact⟨dP (by have h9:=hdc;rw[hz1]at h9;omega),below_drewN hb _⟩
   ·have aFG:((i:Int) == 0)=false:=by rw[beq_eq_false_iff_ne];omega
    rw[if_neg (fun h=>hi0 h.1)];go_enter Tryz.func177,Tryz.ntmps177
    go_wp2
    go_ret
    exact⟨dP (by simp),hb⟩
  ·rw[if_neg h8]at hb8 hq;by_cases hi0:i=0
   ·subst hi0;rw[Nat.add_zero]at hm0;by_cases h1:flags%2=1
    ·rw[if_pos h1]at hb1;rw[if_neg (by simp[h1])];go_enter Tryz.func177,Tryz.ntmps177
     go_wp2
     go_ret
     exact⟨dP (by simp),hb⟩
    ·rw[if_neg h1]at hb1;rw[if_pos ⟨rfl,h1⟩];go_enter Tryz.func177,Tryz.ntmps177
     go_wp2_with fail
     go_quiet (fail)
     go_wp2
     go_ret
     exact⟨dP (by have h9:=hdc;rw[hz1]at h9;omega),below_drewN hb _⟩
   ·have aFG:((i:Int) == 0)=false:=by rw[beq_eq_false_iff_ne];omega
    rw[if_neg (fun h=>hi0 h.1)];go_enter Tryz.func177,Tryz.ntmps177
    go_wp2
    go_ret
    exact⟨dP (by simp),hb⟩
 have hfin:=HHD.out (decide (flags/8%2=1)) (decide (flags%2=1));rw[hfin];have e:(if decide (flags/8%2=1)=true then m/2 else m)+(if i=0/\decide (flags%2=1)=false then(h.z1.e-h.z1.f)/32 else 0)=n+(if i=0/\¬flags%2=1 then D else 0):=by
  rw[HD.out,<- hn];congr 1
  ·simp only[decide_eq_true_eq]
  ·simp only[decide_eq_false_iff_not]
 rw[e];exact hmain
end
section
open Go.RowKit
theorem Kr (b:Bk)(p:Nat)(w:World)(ha:b.a<=1000)(hp:p<=1000):
 Calls Tryz.prog 153 #[.agg #[.int .i64 b.a,.int .i64 b.o,.int .i64 b.t],.int .i64 p] w fun e w'=>e= .returned (.int .i64 ((b.a:Int)-p))/\Below w.heap.size w w':=by
 go_enter Tryz.func153,Tryz.ntmps153
 go_wp2
 go_ret
 exact⟨rfl,aF _ _⟩
set_option maxRecDepth 100000 in
theorem Kt (a:Option Addr)(n cap:Nat)(l:List Bk)(p:Nat)(w:World)(hn:l.length=n)(hl:n<=1000)(hr:Row w a (flat aO l))(hrise:rU l)(ha:∀b∈l,b.a<=1000)(hp:p<=1000):
 Calls Tryz.prog 114 #[.slice a n cap,.int .i64 p,.func (.func 153) #[] #[]] w fun e w'=>e= .returned (.tuple #[.int .i64 (lb l p:Int),.bool (hasB l p)])/\Below w.heap.size w w':=by
 subst hn;have hle:=lD l p;have eg:∀args w,(callFunc 153 args).run Tryz.prog w= .ok (.enter 153 args) w:=enters_of Tryz.func153 (by kernel_rfl) rfl;go_enter Tryz.func114,Tryz.ntmps114
 go_wp2
 go_loopw [9,10,11] (fun s9 s10 _ wr=>∃i j:Nat,i<=lb l p/\lb l p<=j/\j<=l.length/\s9= .int .i64 i/\s10= .int .i64 j/\Below w.heap.size w wr) (fun s9 s10 _ _=>(intOf s10).toNat-(intOf s9).toNat)
 case atStart=>exact⟨0,l.length,Nat.zero_le _,hle,Nat.le_refl _,rfl,rfl,Below.refl _ _⟩
 case round=>
  obtain⟨i,j,h1,h2,h3,rfl,rfl,hb3⟩:=hrel;by_cases hlt:i<j
  ·have Jj:(i+j)/2<l.length:=by omega
   have hiff:=gO (GZ hrise (a:=p) Jj);obtain⟨b,off,rfl,hb,hc⟩:=aN aJ (by decide) (hr.below hb3) Jj;obtain⟨hc0,hc1,hc2⟩:=bD hc;have hal:=ha _ (gL Jj);clear hr hc;generalize l[(i+j)/2]=y at*;go_wp2_with fail
   refine(Kr y p _ hal hp).mono ?_;rintro e w1 ⟨rfl,hb1⟩;have hb4:=Below.step hb3 hb1;clear hc0 hc1 hc2;by_cases hlt2:y.a<p
   ·have h4:=hiff.out.2 hlt2;have h5:(y.a:Int)-p<0:=by omega
    go_wp2
    go_roundw
    case rel=>exact⟨(i+j)/2+1,j,by omega,h2,h3,by go_num,rfl,hb4⟩
    case measure=>simp[intOf];omega
   ·have h4:¬(i+j)/2<lb l p:=fun h=>hlt2 (hiff.out.1 h)
    have h5:¬(y.a:Int)-p<0:=by omega
    go_wp2
    go_roundw
    case rel=>exact⟨i,(i+j)/2,h1,by omega,by omega,rfl,by go_num,hb4⟩
    case measure=>simp[intOf];omega
  ·obtain rfl:i=lb l p:=by omega
   have hkk:(lb l p:Int)<=l.length:=by omega
   by_cases hk:lb l p<l.length
   ·obtain⟨b,off,rfl,hb,hc⟩:=aN aJ (by decide) (hr.below hb3) hk;obtain⟨hc0,hc1,hc2⟩:=bD hc;have hal:=ha _ (gL hk);have hat:=gO (vS hrise (a:=p) hk);have hk2:(lb l p:Int)<l.length:=by omega
    clear hr hc;generalize l[lb l p]=y at*;generalize hK0:lb l p=K at*;have HK:=gO hK0;clear hK0;go_wp2_with fail
    refine(Kr y p _ hal hp).mono ?_;rintro e w1 ⟨rfl,hb1⟩;have hb4:=Below.step hb3 hb1;clear hc0 hc1 hc2;by_cases hy:y.a=p
    ·have h5:((y.a:Int)-p == 0)=true:=by rw[beq_iff_eq];omega
     go_wp2
     go_ret2
     refine⟨?_,hb4⟩;rw[hat.out,HK.out,decide_eq_true hy];rfl
    ·have h5:((y.a:Int)-p == 0)=false:=by rw[beq_eq_false_iff_ne];omega
     go_wp2
     go_ret2
     refine⟨?_,hb4⟩;rw[hat.out,HK.out,decide_eq_false hy];rfl
   ·have hat:=gO (uM hrise (a:=p) (by omega));have hk2:¬(lb l p:Int)<l.length:=by omega
    clear hr;generalize hK0:lb l p=K at*;have HK:=gO hK0;clear hK0;go_wp2
    go_ret2
    refine⟨?_,hb3⟩;rw[hat.out,HK.out];rfl
theorem Ih (az am al av:Option Addr)(cz cm cl cv nl nv:Nat)(y0 y1:Zc)(lc:List Lc)(h:Hp)(p:Nat)(w:World)(hh:HAt w az am al av nl nv y0 y1 lc h)(hk:dZ h)(OB:nv<=1000)(hp:p<=1000):
 Calls Tryz.prog 108 #[.agg #[.slice az 2 cz,.slice am 2 cm,.int .i64 h.aC,.slice al nl cl,.slice av nv cv],.int .i64 p] w fun ev w'=>ev= .returned (.tuple #[.int .i64 (lb h.live p:Nat),.bool (hasB h.live p)])/\Below w.heap.size w w':=by
 have hb:=aF w (.cells #[.slice az 2 cz,.slice am 2 cm,.int .i64 (h.aC:Int),.slice al nl cl,.slice av nv cv] 44);have hr:=(hh.below hb).vr;have hn:=hh.nv;have hal:∀b∈h.live,b.a<=1000:=fun b hb=>by have:=(hk.lv b hb).1.2.2.1;omega
 clear hh;go_enter Tryz.func108,Tryz.ntmps108
 go_wp2_with fail
 refine(Kt _ _ _ h.live p _ hn OB hr hk.vs hal hp).mono ?_;rintro ev w' ⟨rfl,hb'⟩;go_wp2
 go_ret2
 exact⟨rfl,Below.step hb hb'⟩
end
section
open Go.RowKit
theorem Yh {l:List Ls}(h:kS l){a k:Nat}(hk:k<l.length):k<jJ l a↔l[k].key<a:=by
 constructor
 ·intro hlt;exact zD _ (List.mem_take_iff_getElem.2 ⟨k,by omega,rfl⟩)
 ·intro hlt;rcases Nat.lt_or_ge k (jJ l a)with h1 | h1
  ·exact h1
  ·have:=vO h (k:=a) l[k] (List.mem_drop_iff_getElem.2 ⟨k-jJ l a,by omega,by congr 1;omega⟩);omega
set_option maxHeartbeats 4000000 in
set_option maxRecDepth 100000 in
theorem Ku (az am al av:Option Addr)(cz cm cl cv nl nv:Nat)(y0 y1:Zc)(lc:List Lc)(h:Hp)(l:Ls)(x:Option Addr)(kx dx:Nat)(w:World)(hh:HAt w az am al av nl nv y0 y1 lc h)(hrs:kS h.ls)(aCZ:∀y∈h.ls,y.z<2/\y.t<3)(hl:l.z<2/\l.t<3)(hnl:nl<=1000):
 Calls Tryz.prog 139 #[.agg #[.slice az 2 cz,.slice am 2 cm,.int .i64 h.aC,.slice al nl cl,.slice av nv cv],.agg #[.int .i64 l.c,.int .i64 l.z,.int .i64 l.t,.slice x kx dx]] w fun ev w'=>ev= .returned (.tuple #[.int .i64 (jJ h.ls l.key:Nat),.bool (qQ h.ls l.key)])/\Below w.heap.size w w':=by
 obtain⟨K2,K3,F2,F3,hsz,hbw⟩:=boxes2 w #[.slice az 2 cz,.slice am 2 cm,.int .i64 (h.aC:Int),.slice al nl cl,.slice av nv cv] 44 #[.int .i64 (l.c:Int),.int .i64 (l.z:Int),.int .i64 (l.t:Int),.slice x kx dx] 207;have HR:=gO (hh.below hbw).lr;have hlen:lc.length=nl:=hh.nl;have hll:=hh.ll;have aFH:h.ls.length=nl:=by rw[<- hll,List.length_map,hlen]
 have hle:=UC h.ls l.key;have Kv:Hid (kS h.ls):=hrs;have HLR:=gO aCZ;have Yi:=gO hll;clear hh hrs aCZ hll;go_enter Tryz.func139,Tryz.ntmps139
 go_wp2
 generalize (w.alloc _).alloc _=w0 at*;go_loopw [6] (fun s6 wr=>∃i:Nat,i<=jJ h.ls l.key/\s6= .int .i64 (i:Int)/\Hid (Below w0.heap.size w0 wr)) (fun s6 _=>nl-(intOf s6).toNat)
 case atStart=>exact⟨0,Nat.zero_le _,rfl,Below.refl _ _⟩
 case round=>
  obtain⟨i,hi,rfl,hb⟩:=hrel;have Bc:=aB K2 (by omega) hb.out;have K3r:=aB K3 (by omega) hb.out;have Vg:=hb.out.size;have k23:=Bc 3;have k30:=K3r 0;have k31:=K3r 1;have k32:=K3r 2;have k33:=K3r 3;simp only[gB,gC,gD]at k23 k30 k31 k32 k33;clear Bc K3r;have hw1:w.heap.size<wr.heap.size:=by omega
  have hw2:w.heap.size+1<wr.heap.size:=by omega
  by_cases hlt:i<nl
  ·have hi2:i<lc.length:=by omega
   have hi3:i<h.ls.length:=by omega
   obtain⟨bb,off,ha1,hbb,hc⟩:=aN aP (by decide) (HR.out.below hb.out) hi2;obtain rfl:=ha1;obtain⟨hc0,hc1,hc2,hc3⟩:=nK hc;have hel:lc[i].l=h.ls[i]:=by
    have h1:=congrArg (·[i]?) Yi.out;simp[hi2,hi3]at h1;exact h1
   have hiff:=gO (Yh Kv.out (a:=l.key) hi3);have hok:=HLR.out _ (gL hi3);have hhas:Hid (i=jJ h.ls l.key->qQ h.ls l.key=decide (h.ls[i].key=l.key)):=fun e=>by
    unfold qQ;rw[<- e,gJ hi3]
   rw[hel]at hc0 hc1 hc2;clear hc hel;generalize h.ls[i]=y at*;generalize lc[i]=r at*;have EC:decide ((i:Int)<nl)=true:=decide_eq_true (by omega);have aIl:(i:Int)<nl:=by omega
   have hzt:y.z<2/\y.t<3:=hok;go_wp2_with fail
   refine aS (by kernel_rfl) (by kernel_rfl) ?_
   repeat (first | go_big_quiet_step ((go_at_call 165;exact Calls.bV (yG y l _ _ _ _ _ _ _ hzt hl))) | quiet_step ((go_at_call 165;exact Calls.bV (yG y l _ _ _ _ _ _ _ hzt hl))))
   refine wpQuiet_nil ?_;rintro _ ⟨wx,rfl⟩;have hbx:=aQ wr wx;have hb5:=gO (Below.step hb.out hbx);by_cases hky:y.key<l.key
   ·rw[decide_eq_true hky];have h3:=hiff.out.2 hky;generalize ext wr wx=w5 at*;go_wp2
    go_roundw
    case rel=>exact⟨i+1,h3,by go_num,hb5⟩
    case measure=>simp[intOf];omega
   ·rw[decide_eq_false hky];have hie:i=jJ h.ls l.key:=by
     rcases Nat.lt_or_ge i (jJ h.ls l.key)with h1 | h1
     ·exact absurd (hiff.out.1 h1) hky
     ·omega
    have hres:=gO (hhas.out hie);have HIE:=gO hie;clear hie;have m23:=(hbx.cell (p:=⟨w.heap.size,3,none⟩) hw1).trans k23;have m30:=(hbx.cell (p:=⟨w.heap.size+1,0,none⟩) hw2).trans k30;have m31:=(hbx.cell (p:=⟨w.heap.size+1,1,none⟩) hw2).trans k31;have m32:=(hbx.cell (p:=⟨w.heap.size+1,2,none⟩) hw2).trans k32;have m33:=(hbx.cell (p:=⟨w.heap.size+1,3,none⟩) hw2).trans k33;have n0:=(hbx.cell (p:=⟨bb,off+i*4,none⟩) hbb).trans hc0;have n1:=(hbx.cell (p:=⟨bb,off+i*4+1,none⟩) hbb).trans hc1;have n2:=(hbx.cell (p:=⟨bb,off+i*4+2,none⟩) hbb).trans hc2;have n3:=(hbx.cell (p:=⟨bb,off+i*4+3,none⟩) hbb).trans hc3;have Yj:=gI hw1 hbx.size;have aJW:=gI hw2 hbx.size;have aFJ:=gI hbb hbx.size;clear k23 k30 k31 k32 k33 hc0 hc1 hc2 hc3 hbx hw1 hw2 hbb;generalize ext wr wx=w5 at*;go_wp2_with fail
    refine aS (by kernel_rfl) (by kernel_rfl) ?_
    repeat (first | go_big_quiet_step ((go_at_call 165;exact Calls.bV (yG l y _ _ _ _ _ _ _ hl hzt))) | quiet_step ((go_at_call 165;exact Calls.bV (yG l y _ _ _ _ _ _ _ hl hzt))))
    refine wpQuiet_nil ?_;rintro _ ⟨wy,rfl⟩;have hb6:=gO (Below.step hb5.out (aQ w5 wy));generalize ext w5 wy=w6 at*;go_wp2
    go_ret2
    refine⟨?_,Below.step hbw hb6.out⟩;rw[hres.out,<- HIE.out];have e:(!decide (l.key<y.key))=decide (y.key=l.key):=by
     by_cases h9:l.key<y.key
     ·rw[decide_eq_true h9,decide_eq_false (by omega)];rfl
     ·rw[decide_eq_false h9,decide_eq_true (by omega)];rfl
    rw[e];rfl
  ·have hie:i=nl:=by omega
   have aAV:i=jJ h.ls l.key:=by omega
   have hres:Hid (qQ h.ls l.key=false):=by
    unfold Hid qQ;rw[<- aAV,List.getElem?_eq_none (by omega)]
   have EC:decide ((i:Int)<nl)=false:=decide_eq_false (by omega);have HIE:=gO aAV;clear hie aAV;go_wp2_with fail
   go_quiet (fail)
   have hb6:=gO (below_drewN hb.out nq);have m23:=((below_drewN (Below.refl wr.heap.size wr) nq).cell (p:=⟨w.heap.size,3,none⟩) hw1).trans k23;have Yj:w.heap.size<(wr.drewN nq).heap.size:=gI hw1 (below_drewN (Below.refl wr.heap.size wr) nq).size;clear k23;generalize wr.drewN nq=w5 at*;go_wp2_with fail
   go_quiet (fail)
   have hb7:=gO (below_drewN hb6.out nq);go_wp2
   go_ret2
   refine⟨?_,Below.step hbw hb7.out⟩;rw[hres.out,<- HIE.out];rfl
theorem Qu (az am al av:Option Addr)(cz cm cl cv nl nv:Nat)(y0 y1:Zc)(lc:List Lc)(h:Hp)(l:Ls)(x:Option Addr)(kx dx:Nat)(w:World)(hh:HAt w az am al av nl nv y0 y1 lc h)(hk:dZ h)(hl:l.z<2/\l.t<3)(hnl:nl<=1000):
 Calls Tryz.prog 139 #[.agg #[.slice az 2 cz,.slice am 2 cm,.int .i64 h.aC,.slice al nl cl,.slice av nv cv],.agg #[.int .i64 l.c,.int .i64 l.z,.int .i64 l.t,.slice x kx dx]] w fun ev w'=>ev= .returned (.tuple #[.int .i64 (jJ h.ls l.key:Nat),.bool (qQ h.ls l.key)])/\Below w.heap.size w w':=
 Ku az am al av cz cm cl cv nl nv y0 y1 lc h l x kx dx w hh hk.lk (fun y hy=>⟨(hk.lr y hy).2.1,(hk.lr y hy).2.2.1⟩) hl hnl
end
end Go.Proofs.YtcmpmobhongkiaaGreatDoor
