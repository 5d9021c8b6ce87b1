/- joined. -/
import Derived.Test.YtcmpmobhongkiaaGreatDoorRK0
import Derived.Test.YtcmpmobhongkiaaGreatDoorRK14
import Derived.Test.YtcmpmobhongkiaaGreatDoorRK18
import Derived.Test.YtcmpmobhongkiaaGreatDoorRK40
set_option linter.unusedVariables false
set_option linter.unusedSimpArgs false
namespace Go.Proofs.YtcmpmobhongkiaaGreatDoor
section
open Go.RowKit
theorem Gq (b:Bk)(p:Nat)(w:World)(ha:b.a<=1000)(hp:p<=1000):
 Calls Tryz.prog 115 #[.agg #[.int .i64 b.a,.int .i64 b.o,.int .i64 b.t],.int .i64 p] w fun e w'=>e= .returned (.int .i64 ((b.a:Int)-p))/\Below w.heap.size w w':=by
 go_enter Tryz.func115,Tryz.ntmps115
 go_wp2
 go_ret
 exact⟨rfl,aF _ _⟩
set_option maxRecDepth 100000 in
theorem IY (a:Option Addr)(n cap:Nat)(l:List Bk)(p:Nat)(w:World)(hn:l.length=n)(hl:n<=1000)(hr:Row w a (flat aO l))(hrise:rU l)(ha:∀b∈l,b.a<=1000)(hp:p<=1000):
 Calls Tryz.prog 114 #[.slice a n cap,.int .i64 p,.func (.func 115) #[] #[]] w fun e w'=>e= .returned (.tuple #[.int .i64 (lb l p:Int),.bool (hasB l p)])/\Below w.heap.size w w':=by
 subst hn;have hle:=lD l p;have eg:∀args w,(callFunc 115 args).run Tryz.prog w= .ok (.enter 115 args) w:=enters_of Tryz.func115 (by kernel_rfl) rfl;go_enter Tryz.func114,Tryz.ntmps114
 go_wp2
 go_loopw [9,10,11] (fun s9 s10 _ wr=>∃i j:Nat,i<=lb l p/\lb l p<=j/\j<=l.length/\s9= .int .i64 i/\s10= .int .i64 j/\Below w.heap.size w wr) (fun s9 s10 _ _=>(intOf s10).toNat-(intOf s9).toNat)
 case atStart=>exact⟨0,l.length,Nat.zero_le _,hle,Nat.le_refl _,rfl,rfl,Below.refl _ _⟩
 case round=>
  obtain⟨i,j,h1,h2,h3,rfl,rfl,hb3⟩:=hrel;by_cases hlt:i<j
  ·have Jj:(i+j)/2<l.length:=by omega
   have hiff:=gO (GZ hrise (a:=p) Jj);obtain⟨b,off,rfl,hb,hc⟩:=aN aJ (by decide) (hr.below hb3) Jj;obtain⟨hc0,hc1,hc2⟩:=bD hc;have hal:=ha _ (gL Jj);clear hr hc;generalize l[(i+j)/2]=y at*;go_wp2_with fail
   refine(Gq y p _ hal hp).mono ?_;rintro e w1 ⟨rfl,hb1⟩;have hb4:=Below.step hb3 hb1;clear hc0 hc1 hc2;by_cases hlt2:y.a<p
   ·have h4:=hiff.out.2 hlt2;have h5:(y.a:Int)-p<0:=by omega
    go_wp2
    go_roundw
    case rel=>exact⟨(i+j)/2+1,j,by omega,h2,h3,by go_num,rfl,hb4⟩
    case measure=>simp[intOf];omega
   ·have h4:¬(i+j)/2<lb l p:=fun h=>hlt2 (hiff.out.1 h)
    have h5:¬(y.a:Int)-p<0:=by omega
    go_wp2
    go_roundw
    case rel=>exact⟨i,(i+j)/2,h1,by omega,by omega,rfl,by go_num,hb4⟩
    case measure=>simp[intOf];omega
  ·obtain rfl:i=lb l p:=by omega
   have hkk:(lb l p:Int)<=l.length:=by omega
   by_cases hk:lb l p<l.length
   ·obtain⟨b,off,rfl,hb,hc⟩:=aN aJ (by decide) (hr.below hb3) hk;obtain⟨hc0,hc1,hc2⟩:=bD hc;have hal:=ha _ (gL hk);have hat:=gO (vS hrise (a:=p) hk);have hk2:(lb l p:Int)<l.length:=by omega
    clear hr hc;generalize l[lb l p]=y at*;generalize hK0:lb l p=K at*;have HK:=gO hK0;clear hK0;go_wp2_with fail
    refine(Gq y p _ hal hp).mono ?_;rintro e w1 ⟨rfl,hb1⟩;have hb4:=Below.step hb3 hb1;clear hc0 hc1 hc2;by_cases hy:y.a=p
    ·have h5:((y.a:Int)-p == 0)=true:=by rw[beq_iff_eq];omega
     go_wp2
     go_ret2
     refine⟨?_,hb4⟩;rw[hat.out,HK.out,decide_eq_true hy];rfl
    ·have h5:((y.a:Int)-p == 0)=false:=by rw[beq_eq_false_iff_ne];omega
     go_wp2
     go_ret2
     refine⟨?_,hb4⟩;rw[hat.out,HK.out,decide_eq_false hy];rfl
   ·have hat:=gO (uM hrise (a:=p) (by omega));have hk2:¬(lb l p:Int)<l.length:=by omega
    clear hr;generalize hK0:lb l p=K at*;have HK:=gO hK0;clear hK0;go_wp2
    go_ret2
    refine⟨?_,hb3⟩;rw[hat.out,HK.out];rfl
def lY (ns:List (List UInt8)):Bool:=[1,2,4,8,16,32].any fun k=>ns.contains (kN k)
theorem Zd {w:World}(h:Bl w):Row w (some ⟨0,0,none⟩) (flat gV [1,2,4,8,16,32]):=fun i v hv=>by
 refine⟨0,0,rfl,h.sz,?_⟩;rw[Nat.zero_add];refine h.c i v ?_
 match i,hv with
 | 0,hv=>exact hv
 | 1,hv=>exact hv
 | 2,hv=>exact hv
 | 3,hv=>exact hv
 | 4,hv=>exact hv
 | 5,hv=>exact hv
 | i+6,hv=>simp[flat,gV]at hv
theorem Xd (y:Cc)(k B:Nat)(W:World)(hk:∃j,j<6/\k=zz j)(hl:y.c.ns.length=y.n1)(hn:y.n1<=1000000)(hr:Row W y.a1 (flat encS y.c.ns))(hB:B<W.heap.size)(hc:W.cell? ⟨B,0,none⟩=some (.slice y.a1 y.n1 y.c1)):
 Calls Tryz.prog 111 (#[.int .i64 (k:Int)]++#[.pointer (some ⟨B,0,none⟩)]) W fun ev w'=>ev= .returned (.bool (y.c.ns.contains (kN k)))/\Below W.heap.size W w':=by
 show Calls Tryz.prog 111 #[.int .i64 (k:Int),.pointer (some ⟨B,0,none⟩)] W _;obtain⟨j,hj,rfl⟩:=hk;have ND:Hid (∀W,Calls Tryz.prog 59 #[.int .i64 (zz j:Int)] W fun ev w'=>ev= .returned (.string ⟨(kN (zz j)).toArray⟩)/\W=w'):=fun W=>PG hj W
 have hd:=(Below.refl W.heap.size W).drew;have HC:Hid (Calls Tryz.prog 44 #[.slice y.a1 y.n1 y.c1,.string ⟨(kN (zz j)).toArray⟩] W.drew fun e w'=>e= .returned (.bool (y.c.ns.contains (kN (zz j))))/\W.drew=w'):=x9 y.a1 y.n1 y.c1 y.c.ns (kN (zz j)) W.drew hl hn (hr.below hd);have HD:=gO hd;have hc2:=(hd.cell (p:=⟨B,0,none⟩) hB).trans hc;generalize zz j=z at*;clear hd hl hr;go_enter Tryz.func111,Tryz.ntmps111
 go_upto_region 1 with fail
 go_region_with (first | (go_at_call 59;refine(ND.out _).mono ?_;rintro ev w' ⟨rfl,rfl⟩) | (go_at_call 44;refine HC.out.mono ?_;rintro e w' ⟨rfl,rfl⟩))
 all_goals
  go_wp2
  go_ret
  exact⟨aV (by rw[Bool.eq_iff_iff];simp),HD.out⟩
set_option maxRecDepth 100000 in
theorem ML (y:Cc)(w:World)(hy:Ht w y)(hn:y.n1<=1000000)(hsz:Bl w):
 Calls Tryz.prog 62 #[.agg #[.slice y.a1 y.n1 y.c1,.int .i64 y.c.z,.int .i64 y.c.r,.int .i64 y.c.o,.slice y.a2 y.n2 y.c2,.slice y.a3 y.n3 y.c3]] w fun ev w'=>ev= .returned (.bool (lY y.c.ns))/\Below w.heap.size w w':=by
 have eg:∀args w,(callFunc 111 args).run Tryz.prog w= .ok (.enter 111 args) w:=enters_of Tryz.func111 (by kernel_rfl) rfl;obtain⟨K,F,hsz1,hb⟩:=boxes1 w #[.slice y.a1 y.n1 y.c1,.int .i64 (y.c.z:Int),.int .i64 (y.c.r:Int),.int .i64 (y.c.o:Int),.slice y.a2 y.n2 y.c2,.slice y.a3 y.n3 y.c3] 94;have k0:=K 0;simp only[gB,gC,gD]at k0;have hy1:=hy.below hb;have HC:=gO (qF (some ⟨0,0,none⟩) 6 6 [1,2,4,8,16,32] 111 #[.pointer (some ⟨w.heap.size,0,none⟩)] (fun k=>y.c.ns.contains (kN k)) _ rfl (by decide) (Zd (hsz.below hb)) eg (fun W hW k hk=>Xd y k w.heap.size W (by
  simp only[List.mem_cons,List.not_mem_nil,or_false]at hk;rcases hk with rfl | rfl | rfl | rfl | rfl | rfl
  ·exact⟨0,by decide,rfl⟩
  ·exact⟨1,by decide,rfl⟩
  ·exact⟨2,by decide,rfl⟩
  ·exact⟨3,by decide,rfl⟩
  ·exact⟨4,by decide,rfl⟩
  ·exact⟨5,by decide,rfl⟩) hy1.l1 hn (hy1.r1.below hW) (gI hsz1 hW.size) ((hW.cell (p:=⟨w.heap.size,0,none⟩) hsz1).trans k0)))
 have hM:([1,2,4,8,16,32].any fun k=>y.c.ns.contains (kN k))=lY y.c.ns:=rfl;rw[hM]at HC;generalize lY y.c.ns=bM at*;have HB:=gO hb;have h00:=(hsz.below hb).c 0 _ rfl;have h0s:=(hsz.below hb).sz;clear eg K F hb hy1 hy hsz k0;go_enter Tryz.func62,Tryz.ntmps62
 go_wp2_with (go_at_call 110;refine HC.out.mono ?_;rintro e w' ⟨rfl,hb'⟩)
 go_ret
 exact⟨rfl,Below.step HB.out hb'⟩
theorem TM (x:Sl)(p C:Nat)(W:World)(hx:x.p<=1000000)(hp:p<=1000000)(hC:C<W.heap.size)(hc:W.cell? ⟨C,0,none⟩=some (.int .i64 (p:Int))):
 Calls Tryz.prog 113 (#[.agg (aX x).toArray]++#[.pointer (some ⟨C,0,none⟩)]) W fun ev w'=>ev= .returned (.bool (decide (x.p=p)))/\Below W.heap.size W w':=by
 show Calls Tryz.prog 113 #[.agg #[.int .i64 x.p,.int .i64 x.n,.int .i64 x.h],.pointer (some ⟨C,0,none⟩)] W _;have hb:=aF W (.cells #[.int .i64 (x.p:Int),.int .i64 (x.n:Int),.int .i64 x.h] 137);have hc2:=(hb.cell (p:=⟨C,0,none⟩) hC).trans hc;have hne:C≠W.heap.size:=by omega
 have HB:=gO hb;clear hb hc;go_enter Tryz.func113,Tryz.ntmps113
 go_wp2
 go_ret
 exact⟨aV (by rw[Bool.eq_iff_iff];simp only[beq_iff_eq,decide_eq_true_eq];omega),HB.out⟩
theorem TN (y:Cc)(p C:Nat)(W:World)(hy:Ht W y)(hn:y.n2<=1000000)(hs:∀x∈y.c.sl,x.p<=1000000)(hp:p<=1000000)(hC:C<W.heap.size)(hc:W.cell? ⟨C,0,none⟩=some (.int .i64 (p:Int))):
 Calls Tryz.prog 112 (#[.agg (dX y).toArray]++#[.pointer (some ⟨C,0,none⟩)]) W fun ev w'=>ev= .returned (.bool (y.c.sl.any fun x=>decide (x.p=p)))/\Below W.heap.size W w':=by
 show Calls Tryz.prog 112 #[.agg #[.slice y.a1 y.n1 y.c1,.int .i64 y.c.z,.int .i64 y.c.r,.int .i64 y.c.o,.slice y.a2 y.n2 y.c2,.slice y.a3 y.n3 y.c3],.pointer (some ⟨C,0,none⟩)] W _;have eg:∀args w,(callFunc 113 args).run Tryz.prog w= .ok (.enter 113 args) w:=enters_of Tryz.func113 (by kernel_rfl) rfl;obtain⟨K,F,hsz1,hb⟩:=boxes1 W #[.slice y.a1 y.n1 y.c1,.int .i64 (y.c.z:Int),.int .i64 (y.c.r:Int),.int .i64 (y.c.o:Int),.slice y.a2 y.n2 y.c2,.slice y.a3 y.n3 y.c3] 94;have k4:=K 4;simp only[gB,gC,gD]at k4;have hc2:=(hb.cell (p:=⟨C,0,none⟩) hC).trans hc;have hC2:=gI hC hb.size;have hy1:=hy.below hb;have HC:=gO (CO y.a2 y.n2 y.c2 y.c.sl 113 #[.pointer (some ⟨C,0,none⟩)] (fun x=>decide (x.p=p)) _ hy1.l2 (by omega) hy1.r2 eg (fun W' hW x hx=>TM x p C W' (hs x hx) hp (gI hC2 hW.size) ((hW.cell (p:=⟨C,0,none⟩) hC2).trans hc2)));have HB:=gO hb;clear eg K F hb hy1 hy hc hc2;go_enter Tryz.func112,Tryz.ntmps112
 go_wp2_with (go_at_call 76;refine HC.out.mono ?_;rintro e w' ⟨rfl,hb'⟩)
 go_ret
 exact⟨rfl,Below.step HB.out hb'⟩
def vK (s:Sy)(a:Int)(ev:Ending):Prop:=(∃p:Nat,a=16*(p:Int)/\¬s.LD p/\hasB s.h.live p=true/\ev= .returned (.tuple #[.int .i64 (lb s.h.live p:Int),.bool true]))∨((∀b,s.whole b->a≠16*(b.a:Int))/\∃i:Nat,ev= .returned (.tuple #[.int .i64 (i:Int),.bool false]))
theorem Ze {s:Sy}{v:Sc}(h:v.ys.map (·.c)=s.cs)(p:Nat):(v.ys.any fun y=>y.c.sl.any fun x=>decide (x.p=p))=true↔s.LD p:=by
 unfold Sy.LD;rw[<- h];simp only[List.any_eq_true,List.mem_map,decide_eq_true_eq];constructor
 ·rintro⟨y,hy,x,hx,e⟩;exact⟨y.c,⟨y,hy,rfl⟩,x,hx,e⟩
 ·rintro⟨c,⟨y,hy,rfl⟩,x,hx,e⟩;exact⟨y,hy,x,hx,e⟩
set_option maxHeartbeats 4000000 in
set_option maxRecDepth 100000 in
theorem Gs (v:Sc)(s:Sy)(a:Int)(w:World)(hs:nV w v s)(hk:bK s)(hab: -1000000<=a/\a<=10000):
 Calls Tryz.prog 63 #[.agg #[.slice v.a1 v.n1 v.c1,.slice v.hc.az 2 v.hc.cz,.slice v.hc.am 2 v.hc.cm,.int .i64 (s.h.aC:Int),.slice v.hc.al v.hc.lc.length v.hc.cl,.slice v.hc.av s.h.live.length v.hc.cv,.slice v.a2 v.ys.length v.c2],.int .i64 a] w fun ev w'=>vK s a ev/\Below w.heap.size w w':=by
 obtain⟨K0,F0,hsz,hbw⟩:=boxes1 w #[.slice v.a1 v.n1 v.c1,.slice v.hc.az 2 v.hc.cz,.slice v.hc.am 2 v.hc.cm,.int .i64 (s.h.aC:Int),.slice v.hc.al v.hc.lc.length v.hc.cl,.slice v.hc.av s.h.live.length v.hc.cv,.slice v.a2 v.ys.length v.c2] 47;by_cases hg:0<=a/\a%16=0
 ·obtain⟨p,rfl⟩:∃p:Nat,a=16*(p:Int):=⟨(a/16).toNat,by omega⟩
  have eg:∀args w,(callFunc 112 args).run Tryz.prog w= .ok (.enter 112 args) w:=enters_of Tryz.func112 (by kernel_rfl) rfl;have hp1:¬(16*(p:Int))<0:=by omega
  have hp2:(16*(p:Int)).tmod 16=0:=by rw[Int.tmod_eq_emod_of_nonneg (by omega)];omega
  have hp3:(16*(p:Int)).tdiv 16=p:=by rw[Int.tdiv_eq_ediv_of_nonneg (by omega)];omega
  obtain⟨KA,FA,hsA,zO⟩:=boxes1 (w.alloc (.cells #[.slice v.a1 v.n1 v.c1,.slice v.hc.az 2 v.hc.cz,.slice v.hc.am 2 v.hc.cm,.int .i64 (s.h.aC:Int),.slice v.hc.al v.hc.lc.length v.hc.cl,.slice v.hc.av s.h.live.length v.hc.cv,.slice v.a2 v.ys.length v.c2] 47)) #[.int .i64 (p:Int)] 3;have hs1:=hs.below hbw;have hs2:=hs1.below zO;have ka:=KA 0;simp only[gB,gC]at ka;have hyl:v.ys.length<=20:=by have:=congrArg List.length hs.cy;rw[List.length_map]at this;rw[this];exact hk.cl
  have Yn:=gO (uS v.a2 v.ys.length v.c2 v.ys 112 #[.pointer (some ⟨(w.alloc (.cells #[.slice v.a1 v.n1 v.c1,.slice v.hc.az 2 v.hc.cz,.slice v.hc.am 2 v.hc.cm,.int .i64 (s.h.aC:Int),.slice v.hc.al v.hc.lc.length v.hc.cl,.slice v.hc.av s.h.live.length v.hc.cv,.slice v.a2 v.ys.length v.c2] 47)).heap.size,0,none⟩)] (fun y=>y.c.sl.any fun x=>decide (x.p=p)) _ rfl (by omega) hs2.rc eg (fun W hW y hy=>by
   have hcm:y.c∈s.cs:=by rw[<- hs.cy];exact List.mem_map_of_mem hy
   have hck:=hk.ck _ hcm;have h2:=(hs2.ca y hy).l2;exact TN y p _ W ((hs2.below hW).ca y hy) (by have:=hck.mP hk.hk;omega) (fun x hx=>by have:=(hck.sk x hx).zH hk.hk;omega) (by omega) (gI hsA hW.size) ((hW.cell (p:=⟨(w.alloc (.cells #[.slice v.a1 v.n1 v.c1,.slice v.hc.az 2 v.hc.cz,.slice v.hc.am 2 v.hc.cm,.int .i64 (s.h.aC:Int),.slice v.hc.al v.hc.lc.length v.hc.cl,.slice v.hc.av s.h.live.length v.hc.cv,.slice v.a2 v.ys.length v.c2] 47)).heap.size,0,none⟩) hsA).trans ka)))
  have hsl:=Ze hs.cy p;have hBA:(w.alloc (.cells #[.slice v.a1 v.n1 v.c1,.slice v.hc.az 2 v.hc.cz,.slice v.hc.am 2 v.hc.cm,.int .i64 (s.h.aC:Int),.slice v.hc.al v.hc.lc.length v.hc.cl,.slice v.hc.av s.h.live.length v.hc.cv,.slice v.a2 v.ys.length v.c2] 47)).heap.size=w.heap.size+1:=by simp
  have K1:=aB K0 hsz zO;have hsz1:=gI hsz zO.size;obtain⟨k0,k1,k2,k3,k4,k5,k6⟩:=gA7 K1;have HS2:=gO hs2;have HB:=gO (Below.step hbw zO);have HK:=gO hk;rw[hBA]at Yn ka hsA;cases hany:(v.ys.any fun y=>y.c.sl.any fun x=>decide (x.p=p))with
  | true=>
   rw[hany]at Yn;have HE:Hid (vK s (16*(p:Int)) (.returned (.tuple #[.int .i64 0,.bool false]))):= .inr ⟨fun b hb e=>by
    obtain rfl:p=b.a:=by omega
    exact(cO.1 hb).2 (hsl.1 hany),0,rfl⟩
   clear hsl hany eg hs hs1 hs2 hbw zO K0 F0 KA FA K1 hk;go_enter Tryz.func63,Tryz.ntmps63
   go_upto_region 4 with fail
   generalize (w.alloc _).alloc _=w2 at*;go_wp2_with (go_at_call 83;refine Yn.out.mono ?_;rintro e w' ⟨rfl,hb'⟩)
   exact bodyPost_ret (v:= .tuple #[.int .i64 0,.bool false]) (by simp[results,Tryz.results63,go_sem]) rfl ⟨HE.out,Below.step HB.out hb'⟩
  | false=>
   rw[hany]at Yn;have HE:Hid (vK s (16*(p:Int)) (.returned (.tuple #[.int .i64 (lb s.h.live p:Int),.bool (hasB s.h.live p)]))):=by
    cases hh:hasB s.h.live p with
    | true=>exact .inl ⟨p,rfl,(fun e=>by rw[hsl.2 e]at hany;cases hany),hh,rfl⟩
    | false=>
     refine .inr ⟨fun b hb e=> ?_,_,rfl⟩;obtain rfl:p=b.a:=by omega
     have h9:hasB s.h.live b.a=true:=by
      unfold hasB;exact List.any_eq_true.2 ⟨b,hb.1,decide_eq_true rfl⟩
     rw[h9]at hh;cases hh
   have HSE:Hid (∀W,Below ((w.alloc (.cells #[.slice v.a1 v.n1 v.c1,.slice v.hc.az 2 v.hc.cz,.slice v.hc.am 2 v.hc.cm,.int .i64 (s.h.aC:Int),.slice v.hc.al v.hc.lc.length v.hc.cl,.slice v.hc.av s.h.live.length v.hc.cv,.slice v.a2 v.ys.length v.c2] 47)).alloc (.cells #[.int .i64 (p:Int)] 3)).heap.size ((w.alloc (.cells #[.slice v.a1 v.n1 v.c1,.slice v.hc.az 2 v.hc.cz,.slice v.hc.am 2 v.hc.cm,.int .i64 (s.h.aC:Int),.slice v.hc.al v.hc.lc.length v.hc.cl,.slice v.hc.av s.h.live.length v.hc.cv,.slice v.a2 v.ys.length v.c2] 47)).alloc (.cells #[.int .i64 (p:Int)] 3)) W->Calls Tryz.prog 114 #[.slice v.hc.av s.h.live.length v.hc.cv,.int .i64 p,.func (.func 115) #[] #[]] W fun e w'=>e= .returned (.tuple #[.int .i64 (lb s.h.live p:Int),.bool (hasB s.h.live p)])/\Below W.heap.size W w'):=fun W hW=>IY v.hc.av s.h.live.length v.hc.cv s.h.live p W rfl (by have:=HK.out.hk.iZ;omega) ((HS2.out.below hW).hh.vr) HK.out.hk.vs (fun b hb=>by
    obtain⟨_,_,h4,_⟩:=(HK.out.hk.lv b hb).1;omega) (by omega)
   have HK1:=gO K1;clear hsl hany eg hs hs1 hs2 hbw zO K0 F0 KA FA K1 hk;go_enter Tryz.func63,Tryz.ntmps63
   go_upto_region 4 with fail
   generalize (w.alloc _).alloc _=w2 at*;go_upto_region 6 with (go_at_call 83;refine Yn.out.mono ?_;rintro e w3 ⟨rfl,hb3⟩)
   have K3:=aB HK1.out hsz1 hb3;have ka3:=(hb3.cell (p:=⟨w.heap.size+1,0,none⟩) hsA).trans ka;have HS3:=gO (HSE.out w3 hb3);have HB3:=gO (Below.step HB.out hb3);clear k0 k1 k2 k3 k4 k5 k6 ka hb3 HSE Yn;obtain⟨k0,k1,k2,k3,k4,k5,k6⟩:=gA7 K3;go_wp2_with (go_at_call 114;refine HS3.out.mono ?_;rintro e w' ⟨rfl,hb'⟩)
   exact bodyPost_ret (v:= .tuple #[.int .i64 (lb s.h.live p:Int),.bool (hasB s.h.live p)]) (by simp[results,Tryz.results63,go_sem]) rfl ⟨HE.out,Below.step HB3.out hb'⟩
 ·have HE:Hid (vK s a (.returned (.tuple #[.int .i64 0,.bool false]))):= .inr ⟨fun b hb e=>hg (by omega),0,rfl⟩;have HB:=gO hbw;clear hs hk hbw K0 F0;by_cases h0:a<0
  ·go_enter Tryz.func63,Tryz.ntmps63
   go_wp2
   exact bodyPost_ret (v:= .tuple #[.int .i64 0,.bool false]) (by simp[results,Tryz.results63,go_sem]) rfl ⟨HE.out,HB.out⟩
  ·have h1:¬a.tmod 16=0:=by rw[Int.tmod_eq_emod_of_nonneg (by omega)];omega
   go_enter Tryz.func63,Tryz.ntmps63
   go_wp2
   exact bodyPost_ret (v:= .tuple #[.int .i64 0,.bool false]) (by simp[results,Tryz.results63,go_sem]) rfl ⟨HE.out,HB.out⟩
end
end Go.Proofs.YtcmpmobhongkiaaGreatDoor
