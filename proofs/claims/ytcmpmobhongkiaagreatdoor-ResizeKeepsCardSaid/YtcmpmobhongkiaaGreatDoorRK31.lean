/- joined. -/
import Derived.Test.YtcmpmobhongkiaaGreatDoorRK0
import Derived.Test.YtcmpmobhongkiaaGreatDoorRK18
import Derived.Test.YtcmpmobhongkiaaGreatDoorRK30
set_option linter.unusedVariables false
set_option linter.unusedSimpArgs false
namespace Go.Proofs.YtcmpmobhongkiaaGreatDoor
section
open Go.RowKit
set_option maxRecDepth 100000 in
set_option maxHeartbeats 4000000 in
theorem OQ (x:Sl)(y:Cc)(C gc o:Nat)(W:World)(hC:C<W.heap.size)(hg:gc<W.heap.size)(hl:y.c.ac.length=y.n3)(hn:y.n3<=1000)(hr:Row W y.a3 (y.c.ac.map vI))(hc:W.cell? ⟨C,0,none⟩=some (.pointer (some ⟨gc,o,none⟩)))(h5:W.cell? ⟨gc,o+5,none⟩=some (.slice y.a3 y.n3 y.c3)):
 Calls Tryz.prog 160 (#[.agg (aX x).toArray]++#[.pointer (some ⟨C,0,none⟩)]) W fun ev w'=>ev= .returned (.bool (decide (0<x.n)&& !y.c.ac.contains (x.p:Int)))/\Below W.heap.size W w':=by
 show Calls Tryz.prog 160 #[.agg #[.int .i64 x.p,.int .i64 x.n,.int .i64 x.h],.pointer (some ⟨C,0,none⟩)] W _;obtain⟨K1,F1,hsz,hbw⟩:=boxes1 W #[.int .i64 (x.p:Int),.int .i64 (x.n:Int),.int .i64 x.h] 137;have k0:=K1 0;have k1:=K1 1;simp only[gB,gC,gD]at k0 k1;have c0:=(hbw.cell (p:=⟨C,0,none⟩) hC).trans hc;have c5:=(hbw.cell (p:=⟨gc,o+5,none⟩) hg).trans h5;have HR:=gO (hr.below hbw);have HB:=gO hbw;have Dp:Hid (∀W',Below (W.alloc (.cells #[.int .i64 (x.p:Int),.int .i64 (x.n:Int),.int .i64 x.h] 137)).heap.size (W.alloc (.cells #[.int .i64 (x.p:Int),.int .i64 (x.n:Int),.int .i64 x.h] 137)) W'->Calls Tryz.prog 35 #[.slice y.a3 y.n3 y.c3,.int .i64 x.p] W' fun e w'=>e= .returned (.bool (tN y.c.ac (x.p:Int)))/\W'=w'):=fun W' hW=>by
  have h:=jH y.a3 y.c3 y.c.ac (x.p:Int) W' (by omega) (HR.out.below hW);rw[hl]at h;exact h
 have L0:∀W',Below (W.alloc (.cells #[.int .i64 (x.p:Int),.int .i64 (x.n:Int),.int .i64 x.h] 137)).heap.size (W.alloc (.cells #[.int .i64 (x.p:Int),.int .i64 (x.n:Int),.int .i64 x.h] 137)) W'->W'.cell? ⟨W.heap.size,0,none⟩=some (.int .i64 (x.p:Int)):=fun W' h=>(h.cell (p:=⟨W.heap.size,0,none⟩) hsz).trans k0
 have L1:∀W',Below (W.alloc (.cells #[.int .i64 (x.p:Int),.int .i64 (x.n:Int),.int .i64 x.h] 137)).heap.size (W.alloc (.cells #[.int .i64 (x.p:Int),.int .i64 (x.n:Int),.int .i64 x.h] 137)) W'->W'.cell? ⟨W.heap.size,1,none⟩=some (.int .i64 (x.n:Int)):=fun W' h=>(h.cell (p:=⟨W.heap.size,1,none⟩) hsz).trans k1
 have L2:∀W',Below (W.alloc (.cells #[.int .i64 (x.p:Int),.int .i64 (x.n:Int),.int .i64 x.h] 137)).heap.size (W.alloc (.cells #[.int .i64 (x.p:Int),.int .i64 (x.n:Int),.int .i64 x.h] 137)) W'->W'.cell? ⟨C,0,none⟩=some (.pointer (some ⟨gc,o,none⟩)):=fun W' h=>(h.cell (p:=⟨C,0,none⟩) (gI hC hbw.size)).trans c0
 have L3:∀W',Below (W.alloc (.cells #[.int .i64 (x.p:Int),.int .i64 (x.n:Int),.int .i64 x.h] 137)).heap.size (W.alloc (.cells #[.int .i64 (x.p:Int),.int .i64 (x.n:Int),.int .i64 x.h] 137)) W'->W'.cell? ⟨gc,o+5,none⟩=some (.slice y.a3 y.n3 y.c3):=fun W' h=>(h.cell (p:=⟨gc,o+5,none⟩) (gI hg hbw.size)).trans c5
 clear hbw hr hc h5 K1 F1;by_cases hx:0<x.n
 ·have hxi:(0:Int)<x.n:=by omega
  go_enter Tryz.func160,Tryz.ntmps160
  go_upto_region 1 with fail
  generalize W.alloc _=w1 at*;go_region_held3 (fun W=>Below w1.heap.size w1 W) ((repeat (first | with_reducible assumption | with_reducible exact Below.refl _ _ | with_reducible refine Below.setCell ?_ ?_ _ | with_reducible apply Below.drew | with_reducible refine Below.step ?_ (aF _ _) | with_reducible refine Below.step ?_ (by with_reducible assumption) | (simp only;omega))))(first | (go_at_call 35;refine(Dp.out _ (by with_reducible assumption)).mono ?_;rintro ev w2 ⟨rfl,rfl⟩))
  all_goals
   go_wp2_with fail
   go_ret
   refine⟨aV ?_,Below.step HB.out (by assumption)⟩
   first | rfl | (rw[decide_eq_true hx];rfl) | trace_state
 ·have hxi:¬(0:Int)<x.n:=by omega
  go_enter Tryz.func160,Tryz.ntmps160
  go_upto_region 1 with fail
  go_quiet (fail)
  go_wp2_with fail
  go_ret
  refine⟨aV ?_,Below.step HB.out (below_drewN (Below.refl _ _) _)⟩
  first | rfl | (rw[decide_eq_false hx];rfl)
theorem La {c:Ca}{cpu k:Nat}{p:Int}(hp:c.ac.getD cpu (-1)=p)(h:c.own cpu=some k):dH (fun x:Sl=>decide ((x.p:Int)=p)) c.sl=k/\∃h:k<c.sl.length,0<c.sl[k].n:=by
 unfold Ca.own Ca.find at h;rw[hp]at h;unfold dH;cases hf:c.sl.findIdx? (fun x=>decide ((x.p:Int)=p))with
 | none=>rw[hf]at h;cases h
 | some j=>
  rw[hf]at h;simp only at h;have hj:j<c.sl.length:=by
   rw[List.findIdx?_eq_some_iff_getElem]at hf;exact hf.1
  rw[gJ hj]at h;simp only at h;split at h
  ·obtain rfl:j=k:=by simpa using h
   exact⟨rfl,hj,by assumption⟩
  ·cases h
theorem Ws {c:Ca}{cpu:Nat}{p:Int}(hp:c.ac.getD cpu (-1)=p)(h:c.own cpu=none):dH (fun x:Sl=>decide ((x.p:Int)=p)) c.sl= -1∨∃k:Nat,dH (fun x:Sl=>decide ((x.p:Int)=p)) c.sl=k/\∃h:k<c.sl.length,c.sl[k].n=0:=by
 unfold Ca.own Ca.find at h;rw[hp]at h;unfold dH;cases hf:c.sl.findIdx? (fun x=>decide ((x.p:Int)=p))with
 | none=>exact .inl rfl
 | some j=>
  rw[hf]at h;simp only at h;have hj:j<c.sl.length:=by
   rw[List.findIdx?_eq_some_iff_getElem]at hf;exact hf.1
  rw[gJ hj]at h;simp only at h;split at h
  ·cases h
  ·exact .inr ⟨j,rfl,hj,by omega⟩
theorem Ld {c:Ca}{k:Nat}(h:c.nobody=some k):dH (fun x:Sl=>decide (0<x.n)&& !c.ac.contains (x.p:Int)) c.sl=k/\k<c.sl.length:=by
 unfold Ca.nobody at h;unfold dH;rw[h];rw[List.findIdx?_eq_some_iff_getElem]at h;exact⟨rfl,h.1⟩
theorem Le {c:Ca}(h:c.nobody=none):dH (fun x:Sl=>decide (0<x.n)&& !c.ac.contains (x.p:Int)) c.sl= -1:=by
 unfold Ca.nobody at h;unfold dH;rw[h]
theorem Lh (l:List Sl)(x:Sl):(kP l x).length=l.length+1/\Ji l x.p<=l.length:=by
 have h:Ji l x.p<=l.length:=(List.takeWhile_sublist _).length_le;unfold kP;constructor
 ·simp;omega
 ·exact h
theorem Ad {s s2:Sy}{i cpu k:Nat}{c:Ca}(h:s.grow i cpu c=some (s2,k)):∃h' a,s.h.alloc cpu c.o 0 false false=some (h',a)/\s2={w:=chainTo s.w (16*a) c.z c.r c.r,h:=h',cs:=s.cs.set i {c with sl:=kP c.sl ⟨a,c.r,((16*a:Nat):Int)⟩}}/\k=Ji c.sl a:=by
 unfold Sy.grow at h;cases hal:s.h.alloc cpu c.o 0 false false with
 | none=>rw[hal]at h;cases h
 | some r=>
  obtain⟨h',a⟩:=r;rw[hal]at h;have h1:=gP h;rw[Prod.mk.injEq]at h1;exact⟨h',a,rfl,h1.1.symm,h1.2.symm⟩
theorem OT {s s2:Sy}{i cpu k:Nat}{c:Ca}(hi:i<s.cs.length)(h:s.grow i cpu c=some (s2,k)):s2.cs.length=s.cs.length/\∃c2,s2.cs[i]? =some c2/\c2.ac=c.ac/\k<c2.sl.length:=by
 obtain⟨h',a,_,rfl,rfl⟩:=Ad h;have h3:=Lh c.sl ⟨a,c.r,((16*a:Nat):Int)⟩;refine⟨by simp,{c with sl:=kP c.sl ⟨a,c.r,((16*a:Nat):Int)⟩},by rw[List.getElem?_set_self hi],rfl,?_⟩;show Ji c.sl a<(kP c.sl ⟨a,c.r,((16*a:Nat):Int)⟩).length;rw[h3.1];exact Nat.lt_succ_of_le h3.2
def YF (v:Sc)(s:Sy)(i cpu:Nat)(G:Nat)(X:Nat->Prop)(w:World)(ev:Ending)(w':World):Prop:=(s.choose i cpu=none/\ev= .returned (.tuple #[.int .i64 0,.int .i64 6])/\Below w.heap.size w w')∨(∃(s':Sy) (k:Nat) (v':Sc),s.choose i cpu=some (s',k)/\ev= .returned (.tuple #[.int .i64 k,.int .i64 0])/\SS w' G X s' v'/\Safe X w w'/\v'.a2=v.a2)
set_option maxHeartbeats 8000000 in
set_option maxRecDepth 100000 in
theorem OU (v:Sc)(s:Sy)(G i cpu:Nat)(X:Nat->Prop)(w:World)(hs:SS w G X s v)(hk:bK s)(hi:i<v.ys.length)(bJ:cpu<s.h.aC)(ho:vT w)(hX0:X 1):
 Calls Tryz.prog 123 #[.pointer (some ⟨G,0,none⟩),.int .i64 i,.int .i64 cpu] w (YF v s i cpu G X w):=by
 obtain⟨gc,ha2,o9,OO,Wj,hcc⟩:=hs.r.XD hi;have hcm:v.ys[i].c∈s.cs:=by rw[<- hs.r.cy];exact List.mem_map_of_mem (gL hi)
 have hic:i<s.cs.length:=by rw[<- hs.r.cy,List.length_map];exact hi
 have hci:s.cs[i]? =some v.ys[i].c:=by
  rw[<- hs.r.cy,List.getElem?_map,gJ hi];rfl
 have hck:=hk.ck _ hcm;have hym:=gL hi;have hcy:=hs.r.at.ca _ hym;have hii:(i:Int)<v.ys.length:=by omega
 have hvl:v.ys.length<=20:=by have:=congrArg List.length hs.r.cy;rw[List.length_map]at this;rw[this];exact hk.cl
 obtain⟨y,hy⟩:∃y,v.ys[i]=y:=⟨_,rfl⟩
 have HY:=gO hy;rw[hy]at hcc hck hcy hci hym;have hl1:=hcy.l1;have hl2:=hcy.l2;have hl3:=hcy.l3;have hsl:=hck.mP hk.hk;have hac:=hck.ac;have hcp:=hk.hk.cp.2;have hcl:cpu<y.c.ac.length:=by omega
 have hcn:(cpu:Int)<y.n3:=by omega
 obtain⟨ga,hga,_,aGs,hca,hfa⟩:=oI (hs.r.y hym).2.2 cpu (by simpa[rC]using hcl);obtain⟨p,hp⟩:∃p,y.c.ac[cpu]=p:=⟨_,rfl⟩
 have pa:w.cell? ⟨ga,cpu,none⟩=some (.int .i64 p):=by
  rw[hca];simp[rC,vI,hp]
 have hpb: -1<=p/\p<=256:=by
  rcases hck.aw p (by rw[<- hp];exact gL hcl)with h | ⟨x,hx,h⟩
  ·omega
  ·have:=(hck.sk x hx).zH hk.hk;omega
 obtain⟨b0,_⟩:=hcc 0 (by decide);obtain⟨b1,_⟩:=hcc 1 (by decide);obtain⟨b2,_⟩:=hcc 2 (by decide);obtain⟨b3,_⟩:=hcc 3 (by decide);obtain⟨b4,_⟩:=hcc 4 (by decide);obtain⟨b5,_⟩:=hcc 5 (by decide);simp only[dX,vI,gC,gD,Nat.add_zero]at b0 b1 b2 b3 b4 b5;have g6:=hs.k 6;unfold Sc.vals at g6;simp only[gB,gC,gD]at g6;rw[ha2]at g6;have hn1:y.c.ac.getD cpu (-1)=p:=by
  rw[<- hp];simp[List.getD,gJ hcl]
 obtain⟨T0,TF,hT1,hTb⟩:=boxes1 w #[.pointer (some ⟨gc,i*6,none⟩)] 129;have t0:=T0 0;simp only[gB,gC,gD]at t0;have HS:=gO hs;have HK:=gO hk;have rP:=gO hck;have Eo:=gO hci;have Ir:=gO hcy;have HB1:=gO hTb;have HS1:=gO (hs.new hTb);have Ik:=hs.r.hr.gs;clear hs hk hcc hy hck hcm hci hcy hca hTb T0 TF hp;go_enter Tryz.func123,Tryz.ntmps123
 go_upto_region 2 with fail
 generalize w.alloc _=w1 at*;have L0:∀W,Below w1.heap.size w1 W->W.cell? ⟨gc,i*6,none⟩=some (.slice y.a1 y.n1 y.c1):=fun W h=>((Below.trans HB1.out (h.mono HB1.out.size)).cell (p:=⟨gc,i*6,none⟩) o9).trans b0
 have L1:∀W,Below w1.heap.size w1 W->W.cell? ⟨gc,i*6+1,none⟩=some (.int .i64 (y.c.z:Int)):=fun W h=>((Below.trans HB1.out (h.mono HB1.out.size)).cell (p:=⟨gc,i*6+1,none⟩) o9).trans b1
 have L2:∀W,Below w1.heap.size w1 W->W.cell? ⟨gc,i*6+2,none⟩=some (.int .i64 (y.c.r:Int)):=fun W h=>((Below.trans HB1.out (h.mono HB1.out.size)).cell (p:=⟨gc,i*6+2,none⟩) o9).trans b2
 have L3:∀W,Below w1.heap.size w1 W->W.cell? ⟨gc,i*6+3,none⟩=some (.int .i64 (y.c.o:Int)):=fun W h=>((Below.trans HB1.out (h.mono HB1.out.size)).cell (p:=⟨gc,i*6+3,none⟩) o9).trans b3
 have L4:∀W,Below w1.heap.size w1 W->W.cell? ⟨gc,i*6+4,none⟩=some (.slice y.a2 y.n2 y.c2):=fun W h=>((Below.trans HB1.out (h.mono HB1.out.size)).cell (p:=⟨gc,i*6+4,none⟩) o9).trans b4
 have L5:∀W,Below w1.heap.size w1 W->W.cell? ⟨gc,i*6+5,none⟩=some (.slice y.a3 y.n3 y.c3):=fun W h=>((Below.trans HB1.out (h.mono HB1.out.size)).cell (p:=⟨gc,i*6+5,none⟩) o9).trans b5
 have L6:∀W,Below w1.heap.size w1 W->W.cell? ⟨w.heap.size,0,none⟩=some (.pointer (some ⟨gc,i*6,none⟩)):=fun W h=>(h.cell (p:=⟨w.heap.size,0,none⟩) hT1).trans t0
 have L7:∀W,Below w1.heap.size w1 W->W.cell? ⟨ga,cpu,none⟩=some (.int .i64 p):=fun W h=>((Below.trans HB1.out (h.mono HB1.out.size)).cell (p:=⟨ga,cpu,none⟩) aGs).trans pa
 have Uf:Hid (∀W,Below w1.heap.size w1 W->Calls Tryz.prog 131 #[.agg #[.slice y.a1 y.n1 y.c1,.int .i64 y.c.z,.int .i64 y.c.r,.int .i64 y.c.o,.slice y.a2 y.n2 y.c2,.slice y.a3 y.n3 y.c3],.int .i64 p] W fun ev w'=>ev= .returned (.int .i64 (dH (fun x=>decide ((x.p:Int)=p)) y.c.sl))/\Below W.heap.size W w'):=fun W hW=>Qp y p W ((Ir.out.below HB1.out).below hW) (by omega) (fun x hx=>by have:=(rP.out.sk x hx).zH HK.out.hk;omega) (by omega)
 have HL5:=gO L5;simp only[hga]at L5 Uf;have HGA:=gO hga;clear hga;clear b0 b1 b2 b3 b4 b5 t0 pa hl1 hl2 hl3 hsl hac hcp;go_cut [9] (fun s9 wx=>s9= .int .i64 (dH (fun x=>decide ((x.p:Int)=p)) y.c.sl)/\Hid (Below w1.heap.size w1 wx))
 case first=>
  go_region_held3 (fun W=>Below w1.heap.size w1 W) ((repeat (first | with_reducible assumption | with_reducible exact Below.refl _ _ | with_reducible refine Below.setCell ?_ ?_ _ | with_reducible apply Below.drew | with_reducible refine Below.step ?_ (aF _ _) | with_reducible refine Below.step ?_ (by with_reducible assumption) | (simp only;omega))))(first | (go_at_call 131;refine(Uf.out _ (by with_reducible assumption)).mono ?_;rintro ev w2 ⟨rfl,hb2⟩))
  all_goals
   go_wp2_with fail
   go_meet
   exact⟨by first | rfl | trivial,by assumption⟩
 case rest=>
  obtain⟨rfl,HB2⟩:=hcut;obtain⟨w2,rfl⟩:∃w2,w2=wc:=⟨_,rfl⟩
  have b4:=L4 w2 HB2.out;have t0:=L6 w2 HB2.out;clear L0 L1 L2 L3 L4 L5 L6 L7 Uf;have hT2:=gI hT1 HB2.out.size;have YG:=(Ir.out.below HB1.out).below HB2.out;have HS2:=gO (HS1.out.below HB2.out);have HR2:=gO YG.r2;have hl2:=YG.l2;have YH:=gO YG;have HB12:=gO (Below.trans HB1.out (HB2.out.mono HB1.out.size));have hsl:=rP.out.mP HK.out.hk;have hn2:y.n2<=256:=by omega
  clear YG hsl;cases hown:y.c.own cpu with
  | some k=>
   obtain⟨hfi,hks,hkn⟩:=La hn1 hown;rw[hfi];have Ue:Hid (s.choose i cpu=some (s,k)):=by
    unfold Hid Sy.choose;rw[Eo.out];simp only[hown]
   have hki:(k:Int)<y.n2:=by omega
   obtain⟨sb,so,hsb,Iz,tZ⟩:=aN aK (by decide) HR2.out hks;obtain⟨e0,e1,e2⟩:=fC tZ;have aGu:(0:Int)<y.c.sl[k].n:=by omega
   generalize y.c.sl[k]=x at*;rw[hsb]at b4;have hk0:(0:Int)<=k:=by omega
   clear tZ hown hfi hkn hks hsb;go_wp2_with fail
   exact bodyPost_ret (v:= .tuple #[.int .i64 (k:Int),.int .i64 0]) (by simp[results,Tryz.results123,go_sem]) rfl (.inr ⟨s,k,v,Ue.out,rfl,HS2.out.sub (fun _ h=> .inl h),Safe.iM HB12.out,rfl⟩)
  | none=>
   have hcase:=Ws hn1 hown;generalize dH (fun x:Sl=>decide ((x.p:Int)=p)) y.c.sl=kf at*;have HOWN:=gO hown;clear hown;go_upto_region 3 with fail
   go_cut [41] (fun s41 wx=>s41= .bool false/\wx=w2)
   case first=>
    rcases hcase with hm | ⟨k,hm,hks,hz⟩
    ·obtain rfl:=hm;go_wp2_with fail
     go_meet
     exact⟨by first | rfl | trivial,by first | rfl | trivial⟩
    ·obtain rfl:=hm;have hki:(k:Int)<y.n2:=by omega
     obtain⟨sb,so,hsb,Iz,tZ⟩:=aN aK (by decide) HR2.out hks;obtain⟨e0,e1,e2⟩:=fC tZ;have hk0:(0:Int)<=k:=by omega
     have aGu:¬(0:Int)<y.c.sl[k].n:=by omega
     generalize y.c.sl[k]=x at*;rw[hsb]at b4;clear tZ hks hsb hz;go_wp2_with fail
     go_meet
     exact⟨by first | rfl | trivial | (rw[decide_eq_false (by omega)]),by first | rfl | trivial⟩
   case rest=>
    obtain⟨rfl,hwz⟩:=hcut;obtain rfl:w2=wc:=hwz.symm;have eg:∀args w,(callFunc 160 args).run Tryz.prog w= .ok (.enter 160 args) w:=enters_of Tryz.func160 (by kernel_rfl) rfl;have hac:=rP.out.ac;have hcp:=HK.out.hk.cp.2;have hl3:=YH.out.l3;have HIX:=gO (uT y.a2 y.n2 y.c2 y.c.sl 160 #[.pointer (some ⟨w.heap.size,0,none⟩)] (fun x=>decide (0<x.n)&& !y.c.ac.contains (x.p:Int)) w2 YH.out.l2 (by omega) HR2.out eg (fun W hW x hx=>OQ x y w.heap.size gc (i*6) W (gI hT2 hW.size) (gI o9 (gQ HB12.out.size hW.size)) hl3 (by omega) (YH.out.r3.below hW) ((hW.cell (p:=⟨w.heap.size,0,none⟩) hT2).trans t0) (HL5.out W (Below.trans HB2.out (hW.mono HB2.out.size)))));obtain⟨kn,hkn⟩:∃kn,dH (fun x:Sl=>decide (0<x.n)&& !y.c.ac.contains (x.p:Int)) y.c.sl=kn:=⟨_,rfl⟩
    rw[hkn]at HIX;have ND:=gO hkn;clear hkn eg
    go_upto_if 50 with (go_at_call 125;refine HIX.out.mono ?_;rintro ev w3 ⟨rfl,hb3⟩)
    have HS3:=gO (HS2.out.below hb3);have HB3:=gO (Below.step HB12.out hb3);have t3:=(hb3.cell (p:=⟨w.heap.size,0,none⟩) hT2).trans t0;have hT3:=gI hT2 hb3.size;clear b4 t0 hb3 HIX HR2 YH HS2 HB12;go_cut [10] (fun s10 wx=>∃(s2:Sy) (k:Nat) (v2:Sc) (hi2:i<v2.ys.length),s10= .int .i64 (k:Int)/\Hid (SS wx G (fun k=>X k∨w.heap.size<=k/\k<w1.heap.size) s2 v2)/\Hid (v2.a2=v.a2)/\wx.cell? ⟨w.heap.size,0,none⟩=some (.pointer (some ⟨gc,i*6,none⟩))/\Hid (Safe X w wx)/\Hid (s.choose i cpu=some (s2.mine i cpu k,k))/\k<v2.ys[i].c.sl.length/\v2.ys[i].c.ac.length=s.h.aC)
    case first=>
     cases qC:y.c.nobody with
     | some k=>
      obtain⟨h1,h2⟩:=Ld qC;have h3:=ND.out;rw[h1]at h3;obtain rfl:=h3;have hk0:¬(k:Int)<0:=by omega
      have Ue:Hid (s.choose i cpu=some (s.mine i cpu k,k)):=by
       unfold Hid Sy.choose;rw[Eo.out];simp only[HOWN.out,qC]
      clear h1 qC;go_wp2_with fail
      go_meet
      exact⟨s,k,v,hi,by first | rfl | trivial,HS3,rfl,t3,Safe.iM HB3.out,Ue,by rw[HY.out];exact h2,by rw[HY.out];exact hac⟩
     | none=>
      have h3:=ND.out;rw[Le qC]at h3;obtain rfl:=h3;have hG:=Wi v s G i cpu (fun k=>X k∨w.heap.size<=k/\k<w1.heap.size) w3 HS3.out HK.out hi bJ (ho.below HB3.out) (.inl hX0);rw[HY.out]at hG;cases hgr:s.grow i cpu y.c with
      | none=>
       have Ue:Hid (s.choose i cpu=none):=by
        unfold Hid Sy.choose;rw[Eo.out];simp only[HOWN.out,qC,hgr]
       have HG:Hid (Calls Tryz.prog 161 #[.pointer (some ⟨G,0,none⟩),.int .i64 i,.int .i64 cpu] w3 fun ev w'=>ev= .returned (.tuple #[.int .i64 0,.int .i64 6])/\Below w3.heap.size w3 w'):=by
        refine hG.mono ?_;rintro ev w' (⟨_,h,hb⟩ | ⟨s',k,v',h,_⟩)
        ·exact⟨h,hb⟩
        ·rw[hgr]at h;cases h
       clear hG hgr qC;go_wp2_with (go_at_call 161;refine HG.out.mono ?_;rintro ev w4 ⟨rfl,hb4⟩)
       exact bodyPost_ret (v:= .tuple #[.int .i64 0,.int .i64 6]) (by simp[results,Tryz.results123,go_sem]) rfl (.inl ⟨Ue.out,rfl,Below.step HB3.out hb4⟩)
      | some r=>
       obtain⟨s2,k⟩:=r;have Ue:Hid (s.choose i cpu=some (s2.mine i cpu k,k)):=by
        unfold Hid Sy.choose;rw[Eo.out];simp only[HOWN.out,qC,hgr]
       have HG:Hid (Calls Tryz.prog 161 #[.pointer (some ⟨G,0,none⟩),.int .i64 i,.int .i64 cpu] w3 fun ev w'=>∃v',ev= .returned (.tuple #[.int .i64 k,.int .i64 0])/\SS w' G (fun k=>X k∨w.heap.size<=k/\k<w1.heap.size) s2 v'/\Safe (fun k=>X k∨w.heap.size<=k/\k<w1.heap.size) w3 w'/\v'.a2=v.a2):=by
        refine hG.mono ?_;rintro ev w' (⟨h,_⟩ | ⟨s',k',v',h,h1,h2,h3,h4⟩)
        ·rw[hgr]at h;cases h
        ·rw[hgr]at h;obtain⟨rfl,rfl⟩:s2=s'/\k=k':=by simpa using h
         exact⟨v',h1,h2,h3,h4⟩
       have HGR:=gO hgr;clear hG hgr qC;go_wp2_with (go_at_call 161;refine HG.out.mono ?_;rintro ev w4 ⟨v2,rfl,hs4,hf4,hv4⟩)
       go_meet
       obtain⟨hg1,c2,hg2,hg3,hg4⟩:=OT hic HGR.out;have hv2:v2.ys.length=s2.cs.length:=by
        have h1:=congrArg List.length hs4.r.cy;simpa using h1
       have hi2:i<v2.ys.length:=by omega
       have hc2:v2.ys[i].c.ac=y.c.ac/\k<v2.ys[i].c.sl.length:=by
        have h1:=congrArg (·[i]?) hs4.r.cy;simp only[List.getElem?_map,gJ hi2,Option.map_some]at h1;rw[hg2]at h1;have h5:v2.ys[i].c=c2:=gP h1;rw[h5];exact⟨hg3,hg4⟩
       exact⟨s2,k,v2,hi2,by first | rfl | trivial,hs4,hv4,(hf4.cell (p:=⟨w.heap.size,0,none⟩) hT3 (.inr ⟨Nat.le_refl _,hT1⟩)).trans t3,(Safe.iM HB3.out).trans (hf4.sub fun _ _ h=> .inl h),Ue,hc2.2,by rw[hc2.1];exact hac⟩
    case rest=>
     obtain⟨s2,k,v2,hi2,rfl,HS4,HV2,t4,HF4,Ue,hk2,aGv⟩:=hcut;obtain⟨gc2,OV,Dz,aIE,aIF,qH⟩:=HS4.out.r.XD hi2;obtain rfl:gc=gc2:=by rw[HV2.out,ha2]at OV;simpa using OV
     have aGw:=gL hi2;obtain⟨hr1,hr2,hr3⟩:=HS4.out.r.y aGw;obtain⟨y2,hy2⟩:∃y2,v2.ys[i]=y2:=⟨_,rfl⟩
     have HY2:=gO hy2;rw[hy2]at qH hk2 aGv hr1 hr2 hr3;have aGx:cpu<y2.c.ac.length:=by omega
     obtain⟨ga2,aBs,_,ZW,aDB,aDC⟩:=oI hr3 cpu (by simpa[rC]using aGx);obtain⟨gs2,EK,_,aIG,hcs2,aGy⟩:=oI hr2 (k*3) (by show k*3<(flat aX y2.c.sl).length;rw[flat_length aK];omega);have b4:=(qH 4 (by decide)).1;have b5:=(qH 5 (by decide)).1;simp only[dX,vI,gC,gD]at b4 b5;have HA:=gO aBs;rw[aBs]at b5;rw[EK]at b4;have pa:∃u,wc.cell? ⟨ga2,cpu,none⟩=some u:=⟨_,aDB⟩
     have ps:wc.cell? ⟨gs2,k*3,none⟩=some (.int .i64 (y2.c.sl[k].p:Int)):=by
      have h1:=flat_get aK y2.c.sl k hk2 0 (by decide);have h2:k*3<(flat aX y2.c.sl).length:=by rw[flat_length aK];omega
      rw[hcs2];have h3:(flat aX y2.c.sl)[k*3]? =some (vI (y2.c.sl[k].p:Int)):=by simpa[aX]using h1
      rw[gJ h2]at h3;exact h3
     obtain⟨ua,pa⟩:=pa;have hl2:y2.c.sl.length=y2.n2:=bC aK (by decide) hr2;have hl3:y2.c.ac.length=y2.n3:=by
      have:=hr3.1;unfold rC at this;simpa using this
     have hki:(k:Int)<y2.n2:=by omega
     have aKK:(cpu:Int)<y2.n3:=by omega
     have hd:=(Below.refl wc.heap.size wc).drew;have pad:=(hd.cell (p:=⟨ga2,cpu,none⟩) ZW).trans pa;have fad:=(hd.frozen (p:=⟨ga2,cpu,none⟩) ZW).trans aDC;have HF5:=gO (HF4.out.then hd);have hset:=(HS4.out.below hd).aAU hi2 HY2.out HA.out cpu (y2.c.sl[k].p:Int);have ZX:s2.mine i cpu k=s2.fH i {y2.c with ac:=y2.c.ac.set cpu (y2.c.sl[k].p:Int)}:=by
      unfold Sy.mine;have h1:s2.cs[i]? =some y2.c:=by
       rw[<- HS4.out.r.cy,List.getElem?_map,gJ hi2,HY2.out];rfl
      rw[h1];simp only[gJ hk2]
     have aDD:=gO hset;have Lj:=gO ZX;generalize y2.c.sl[k]=x at*;clear hd qH hr1 hr2 hr3 aBs EK aDB hcs2 aGy hy2 hset ZX hl2 hl3 OV;go_upto_region 11 with fail
     go_still_tail 14,(by kernel_rfl)
     change wpList _ _ _ _ _ wc.drew;clear b4 b5 pa ps t4 aDC;generalize wc.drew=wd at*;obtain⟨v',t1,t2,t3⟩:=aDD.out;have HT1:Hid (SS (wd.setCell ⟨ga2,cpu,none⟩ (.int .i64 (x.p:Int))) G X (s2.mine i cpu k) v'):=by
      unfold Hid;rw[Lj.out];exact t1.sub (fun _ h=> .inl h)
     have HT2:Hid (Safe X w (wd.setCell ⟨ga2,cpu,none⟩ (.int .i64 (x.p:Int)))):=HF5.out.trans (t2.sub fun _ _ h=> .inl h);have HT3:Hid (v'.a2=v.a2):=t3.trans HV2.out;clear t1 t2 t3 aDD Lj HF5 HF4 HS4 HV2;go_wp2_with fail
     exact bodyPost_ret (v:= .tuple #[.int .i64 (k:Int),.int .i64 0]) (by simp[results,Tryz.results123,go_sem]) rfl (.inr ⟨_,k,v',Ue.out,rfl,HT1.out,HT2.out,HT3.out⟩)
end
section
open Go.RowKit
def aGz (v:Sc)(s:Sy)(i cpu:Nat)(G:Nat)(X:Nat->Prop)(w:World)(ev:Ending)(w':World):Prop:=(s.one i cpu=none/\ev= .returned (.tuple #[.int .i64 0,.int .i64 6])/\Below w.heap.size w w')∨(∃(s':Sy) (a:Int) (v':Sc),s.one i cpu=some (s',a)/\ev= .returned (.tuple #[.int .i64 a,.int .i64 0])/\SS w' G X s' v'/\Safe X w w'/\v'.a2=v.a2)
def Wx (s':Sy)(i k:Nat):Prop:=∃c x,s'.cs[i]? =some c/\c.sl[k]? =some x/\0<x.n/\x.n<=64/\0<=x.h/\x.h<4096/\s'.w.length=4096/\s'.cs.length<=20/\c.sl.length<=256
set_option maxHeartbeats 8000000 in
set_option maxRecDepth 100000 in
theorem YI (v:Sc)(s:Sy)(G i cpu:Nat)(X:Nat->Prop)(w:World)(hs:SS w G X s v)(hk:bK s)(hi:i<v.ys.length)(bJ:cpu<s.h.aC)(ho:vT w)(hX0:X 1)(hch:∀s' k,s.choose i cpu=some (s',k)->Wx s' i k):
 Calls Tryz.prog 72 #[.pointer (some ⟨G,0,none⟩),.int .i64 i,.int .i64 cpu] w (aGz v s i cpu G X w):=by
 have hC:=OU v s G i cpu X w hs hk hi bJ ho hX0;cases hco:s.choose i cpu with
 | none=>
  have HO:Hid (s.one i cpu=none):=by
   unfold Hid Sy.one;rw[hco]
  have HC:Hid (Calls Tryz.prog 123 #[.pointer (some ⟨G,0,none⟩),.int .i64 i,.int .i64 cpu] w fun ev w'=>ev= .returned (.tuple #[.int .i64 0,.int .i64 6])/\Below w.heap.size w w'):=by
   refine hC.mono ?_;rintro ev w' (⟨_,h,hb⟩ | ⟨s',k,v',h,_⟩)
   ·exact⟨h,hb⟩
   ·rw[hco]at h;cases h
  clear hC hco hch hs hk;go_enter Tryz.func72,Tryz.ntmps72
  go_wp2_with (go_at_call 123;refine HC.out.mono ?_;rintro ev w4 ⟨rfl,hb4⟩)
  exact bodyPost_ret (v:= .tuple #[.int .i64 0,.int .i64 6]) (by simp[results,Tryz.results72,go_sem]) rfl (.inl ⟨HO.out,rfl,hb4⟩)
 | some r=>
  obtain⟨s2,k⟩:=r;obtain⟨c,x,hc1,hc2,hxn,hxm,hx0,hx4,hwl,hcl,hsl⟩:=hch s2 k hco;have HC:Hid (Calls Tryz.prog 123 #[.pointer (some ⟨G,0,none⟩),.int .i64 i,.int .i64 cpu] w fun ev w'=>∃v',ev= .returned (.tuple #[.int .i64 k,.int .i64 0])/\SS w' G X s2 v'/\Safe X w w'/\v'.a2=v.a2):=by
   refine hC.mono ?_;rintro ev w' (⟨h,_⟩ | ⟨s',k',v',h,h1,h2,h3,h4⟩)
   ·rw[hco]at h;cases h
   ·rw[hco]at h;obtain⟨rfl,rfl⟩:s2=s'/\k=k':=by simpa using h
    exact⟨v',h1,h2,h3,h4⟩
  have HO:Hid (s.one i cpu=some (s2.fH i {c with sl:=c.sl.set k ⟨x.p,x.n-1,s2.w.getD x.h.toNat 0⟩},x.h)):=by
   unfold Hid Sy.one;rw[hco];simp only[Sy.pop,hc1,hc2]
  have HC1:=gO hc1;have HC2:=gO hc2;clear hC hco hch hs hk hc1 hc2;go_enter Tryz.func72,Tryz.ntmps72
  go_upto_region 4 with (go_at_call 123;refine HC.out.mono ?_;rintro ev w2 ⟨v2,rfl,hs2,hf2,hv2⟩)
  have hi2:i<v2.ys.length:=by
   have h1:=congrArg List.length hs2.r.cy;simp only[List.length_map]at h1;have h2:=(List.getElem?_eq_some_iff.1 HC1.out).1;omega
  have aKL:v2.ys.length<=20:=by
   have h1:=congrArg List.length hs2.r.cy;simp only[List.length_map]at h1;omega
  have Wy:v2.ys[i].c=c:=by
   have h1:=congrArg (·[i]?) hs2.r.cy;simp only[List.getElem?_map,gJ hi2,Option.map_some]at h1;rw[HC1.out]at h1;exact gP h1
  obtain⟨gc,ha2,o9,OO,Wj,hcc⟩:=hs2.r.XD hi2;obtain⟨hr1,hr2,hr3⟩:=hs2.r.y (gL hi2);obtain⟨y,hy⟩:∃y,v2.ys[i]=y:=⟨_,rfl⟩
  rw[hy]at hcc hr2 Wy;subst Wy;obtain⟨hks,hkx⟩:=List.getElem?_eq_some_iff.1 HC2.out;have hcell:∀j,j<3->∃g,y.a2=some ⟨g,0,none⟩/\g<w2.heap.size/\w2.cell? ⟨g,k*3+j,none⟩=(aX x)[j]? /\w2.frozen? ⟨g,k*3+j,none⟩=false:=fun j hj=>by
   have hlen:k*3+j<(flat aX y.c.sl).length:=by rw[flat_length aK];omega
   obtain⟨g,h1,_,h2,h3,h4⟩:=oI hr2 (k*3+j) hlen;refine⟨g,h1,h2,?_,h4⟩;rw[h3,<- hkx,<- flat_get aK y.c.sl k hks j hj];exact(gJ hlen).symm
  obtain⟨gs,hgs,OW,s1,hq4⟩:=hcell 1 (by decide);obtain⟨gs2,EK,hq2,s2',f2⟩:=hcell 2 (by decide);obtain⟨gs1,KF,hq1,hq3,f1⟩:=hcell 1 (by decide);obtain rfl:gs=gs2:=by rw[hgs]at EK;simpa using EK
  obtain rfl:gs=gs1:=by rw[hgs]at KF;simpa using KF
  simp only[aX,vI,gC,gD]at s1 s2';have b4:=(hcc 4 (by decide)).1;simp only[dX,vI,gC,gD]at b4;rw[hgs]at b4;have g6:=hs2.k 6;have g0:=hs2.k 0;unfold Sc.vals at g0 g6;simp only[gB,gC,gD]at g0 g6;rw[ha2]at g6;have hsy:=hs2.r.at
  have YE:=hsy.lw;have hxl:x.h.toNat<s2.w.length:=by omega
  obtain⟨wb,wo,hwb,aKM,aDE⟩:=hsy.rw x.h.toNat (vI s2.w[x.h.toNat]) (by rw[List.getElem?_map,gJ hxl];rfl)
  have hwd:s2.w.getD x.h.toNat 0=s2.w[x.h.toNat]:=by simp[List.getD,gJ hxl]
  rw[hwb]at g0;have hl2:y.c.sl.length=y.n2:=bC aK (by decide) hr2;have hkn:(k:Int)<y.n2:=by omega
  have hii:(i:Int)<v2.ys.length:=by omega
  have aKN:x.h<v2.n1:=by omega
  have hxn:(x.n:Int)-1=((x.n-1:Nat):Int):=by omega
  have hpop:=hs2.aFE hi2 hy hgs hks (s2.w[x.h.toNat]) (n':=x.n-1);rw[hkx]at hpop;rw[hwd]at HO;obtain⟨u,hu⟩:∃u,s2.w[x.h.toNat]=u:=⟨_,rfl⟩
  rw[hu]at hpop HO aDE;unfold vI at aDE hpop;have HP:=gO hpop;have HF2:=gO hf2;have HV2:=gO hv2;clear hq1 hq2 hq3 hq4 hpop hf2 hv2 hcell hgs KF EK hcc hy hwb hsy YE hwd hu hkx hl2 ha2 hr1 hr2 hr3 hwl hcl hsl hks HC1 HC2 HC hxl;go_wp2_with fail
  obtain⟨v',t1,t2,t3⟩:=HP.out;exact bodyPost_ret (v:= .tuple #[.int .i64 x.h,.int .i64 0]) (by simp[results,Tryz.results72,go_sem]) rfl (.inr ⟨_,x.h,v',HO.out,rfl,t1,HF2.out.trans t2,t3.trans HV2.out⟩)
end
section
open Go.RowKit
section
variable {W W':World}{G:Nat}{X:Nat->Prop}{s:Sy}{v:Sc}
theorem SS.out (hs:SS W G X s v){row:Option Nat}(hg:W.grownBy W' row)(hrow:∀k,row=some k->X k){Z:Nat->Prop}(hZ:∀k,Z k->X k∨(W.heap.size<=k/\k<W'.heap.size)):SS W' G Z s v:=by
 have hG:some G≠row:=fun e=>hs.r.hr.xg (hrow G e.symm)
 have h1:SS W' G X s v:=⟨⟨⟨fun r hr=>yL (hs.r.own.each r hr) fun k hk hlt=>hg.block k hlt fun e=>(hs.r.og r hr k hk).2 (hrow k e.symm),hs.r.own.FP⟩,hs.r.og,
  hs.r.hr.kept (Y:=fun k=>¬X k) (Safe.nI hg fun k hk e=>hk (hrow k e.symm)) (fun q hq k hk e=>by
   rcases List.mem_append.1 hq with hq | hq
   ·exact(hs.r.hr.og q hq k hk).2 e
   ·exact hs.r.hr.rx q hq k hk e),hs.r.hd,hs.r.cy⟩,bT hs.k hs.r.hr.gs hg hG,bU hs.fz hs.r.hr.gs hg hG⟩
 refine h1.more fun k hk=> ?_
 rcases hZ k hk with h | ⟨h2,h3⟩
 ·refine⟨h1.r.hr.xs k h,h1.r.Vs h,fun q hq e=> ?_⟩;rcases List.mem_append.1 hq with hq | hq
  ·exact(h1.r.hr.og q hq k e).2 h
  ·exact h1.r.hr.rx q hq k e h
 ·refine⟨h3,?_,fun q hq e=> ?_⟩
  ·rintro(rfl | ⟨r,hr,e⟩)
   ·have:=hs.r.hr.gs;omega
   ·have:=hs.r.lt r hr k e;omega
  ·have:=hs.r.hr.lt q hq k e;omega
end
theorem bK.chosen {s:Sy}(hk:bK s){i cpu:Nat}{c:Ca}(hi:s.cs[i]? =some c)(bJ:cpu<s.h.aC):∀s' k,s.choose i cpu=some (s',k)->Wx s' i k:=fun s' k hc=>by
 obtain⟨h1,h2,c',x,h3,h4,h5⟩:=hk.choose hi bJ hc;have hcm:=gM h3;have hxm:=gM h4;obtain⟨m,_,h6,_,h7,h8,_⟩:=h1.first hcm hxm h5;exact⟨c',x,h3,h4,h5,gQ ((h1.ck c' hcm).sk x hxm).Ro (h1.ck c' hcm).r64,h7,h8,h1.wl,h1.cl,(h1.ck c' hcm).mP h1.hk⟩
end
end Go.Proofs.YtcmpmobhongkiaaGreatDoor
