/- joined. -/
import Derived.Test.YtcmpmobhongkiaaGreatDoorRK0
import Derived.Test.YtcmpmobhongkiaaGreatDoorRK18
import Derived.Test.YtcmpmobhongkiaaGreatDoorRK24
import Derived.Test.YtcmpmobhongkiaaGreatDoorRK27
set_option linter.unusedVariables false
set_option linter.unusedSimpArgs false
namespace Go.Proofs.YtcmpmobhongkiaaGreatDoor
section
open Go.RowKit
theorem VQ (y z:Cc)(B:Nat)(W:World)(hB:B<W.heap.size)(hc:W.cell? ⟨B,1,none⟩=some (.int .i64 z.c.z)):
 Calls Tryz.prog 84 (#[.agg (dX y).toArray]++#[.pointer (some ⟨B,0,none⟩)]) W fun ev w'=>ev= .returned (.bool (decide (y.c.z=z.c.z)))/\Below W.heap.size W w':=by
 show Calls Tryz.prog 84 #[.agg #[.slice y.a1 y.n1 y.c1,.int .i64 y.c.z,.int .i64 y.c.r,.int .i64 y.c.o,.slice y.a2 y.n2 y.c2,.slice y.a3 y.n3 y.c3],.pointer (some ⟨B,0,none⟩)] W _;have hb:=aF W (.cells #[.slice y.a1 y.n1 y.c1,.int .i64 (y.c.z:Int),.int .i64 (y.c.r:Int),.int .i64 (y.c.o:Int),.slice y.a2 y.n2 y.c2,.slice y.a3 y.n3 y.c3] 94);have K:=aW W #[.slice y.a1 y.n1 y.c1,.int .i64 (y.c.z:Int),.int .i64 (y.c.r:Int),.int .i64 (y.c.o:Int),.slice y.a2 y.n2 y.c2,.slice y.a3 y.n3 y.c3] 94;have k1:=K 1;simp only[gB,gC,gD]at k1;have hc2:=(hb.cell (p:=⟨B,1,none⟩) hB).trans hc;have HB:=gO hb;clear hb K hc;go_enter Tryz.func84,Tryz.ntmps84
 go_wp2
 go_ret
 exact⟨aV (by rw[Bool.eq_iff_iff];simp only[beq_iff_eq,decide_eq_true_eq];omega),HB.out⟩
theorem VR {α:Type}{enc:α->List Value}{k:Nat}(hk:∀x,(enc x).length=k){w:World}{a:Option Addr}{l:List α}(h:Row w a (flat enc l))(i:Nat):Row w a (flat enc (l.take i)):=fun j v hj=>h j v (by
 rw[<- eH hk,List.getElem?_take]at hj;split at hj
 ·exact hj
 ·cases hj)
def Dq (s:Sy)(i:Nat)(x:Lit):Prop:=∃c∈s.cs.take i,∃n∈c.ns,x= .string n
def Dt (s:Sy)(i:Nat)(x:Lit):Prop:=∃c∈s.cs.take i,∃q∈c.sl,x= .int .i64 (q.p:Int)
set_option maxHeartbeats 8000000 in
set_option maxRecDepth 100000 in
theorem lJ (v:Sc)(s:Sy)(w:World)(hs:nV w v s)(hk:bK s)(hf:∀c∈s.cs,c.ns.length<=1000):
 Calls Tryz.prog 38 #[.agg #[.slice v.a1 v.n1 v.c1,.slice v.hc.az 2 v.hc.cz,.slice v.hc.am 2 v.hc.cm,.int .i64 s.h.aC,.slice v.hc.al v.hc.lc.length v.hc.cl,.slice v.hc.av s.h.live.length v.hc.cv,.slice v.a2 v.ys.length v.c2]] w fun ev w'=>ev= .returned (.int .i64 0)/\Below w.heap.size w w':=by
 obtain⟨K0,F0,hsz,hbw⟩:=boxes1 w #[.slice v.a1 v.n1 v.c1,.slice v.hc.az 2 v.hc.cz,.slice v.hc.am 2 v.hc.cm,.int .i64 (s.h.aC:Int),.slice v.hc.al v.hc.lc.length v.hc.cl,.slice v.hc.av s.h.live.length v.hc.cv,.slice v.a2 v.ys.length v.c2] 47;have HS:=gO (hs.below hbw);have HB:=gO hbw;have HK:=gO hk;have HK0:=gO K0;have hn1:(v.n1:Int)=4096:=by rw[<- hs.lw,hk.wl];rfl
 have q1:((v.n1:Int) != 4096)=false:=by rw[hn1];rfl
 have hyl:v.ys.length<=20:=by have:=congrArg List.length hs.cy;rw[List.length_map]at this;rw[this];exact hk.cl
 have hyi:¬(20:Int)<v.ys.length:=by omega
 have Ij:s.h.live.length<=1000:=gQ hk.hk.iZ (by decide);have VT:v.hc.lc.length<=1000:=by
  have h1:=congrArg List.length hs.hh.ll;rw[List.length_map]at h1;rw[h1];exact gQ hk.hk.oW (by decide)
 have Ue:=gO (fun(W:World) (hW:Below (w.alloc (.cells #[.slice v.a1 v.n1 v.c1,.slice v.hc.az 2 v.hc.cz,.slice v.hc.am 2 v.hc.cm,.int .i64 (s.h.aC:Int),.slice v.hc.al v.hc.lc.length v.hc.cl,.slice v.hc.av s.h.live.length v.hc.cv,.slice v.a2 v.ys.length v.c2] 47)).heap.size (w.alloc (.cells #[.slice v.a1 v.n1 v.c1,.slice v.hc.az 2 v.hc.cz,.slice v.hc.am 2 v.hc.cm,.int .i64 (s.h.aC:Int),.slice v.hc.al v.hc.lc.length v.hc.cl,.slice v.hc.av s.h.live.length v.hc.cv,.slice v.a2 v.ys.length v.c2] 47)) W)=>vX _ _ _ _ v.hc.cz v.hc.cm v.hc.cl v.hc.cv _ _ _ _ _ s.h W ((hs.below hbw).hh.below hW) hk.hk VT Ij);obtain⟨c0,c1,c2,c3,c4,c5,c6⟩:=gA7 K0;have hmm:=@run_makeMap Tryz.prog;clear hs hbw K0 F0 hk;go_enter Tryz.func38,Tryz.ntmps38
 go_upto_region 4 with (go_at_call 81;refine(Ue.out _ (Below.refl _ _)).mono ?_;rintro ev w2 ⟨rfl,hb2⟩;have HB2:=gO hb2;have c6a:=(hb2.cell (p:=⟨w.heap.size,6,none⟩) hsz).trans c6)
 have hba:=aF w2 (.map #[] 0);have hbb:=aF (w2.alloc (.map #[] 0)) (.map #[] 0);have S1:=(eX.made w2 Tryz.prog 9 4).below hbb;have S2:=eX.made (w2.alloc (.map #[] 0)) Tryz.prog 3 4;have HB24:=gO (Below.step hba hbb);have hM2:(w2.alloc (.map #[] 0)).heap.size=w2.heap.size+1:=by simp
 rw[hM2]at S2;have HS1:Hid (eX _ Tryz.prog 9 4 w2.heap.size 0 (Dq s 0)):=S1.imp fun x=>⟨fun h=>h.elim,fun⟨c,hc,_⟩=>by simp at hc⟩
 have HS2:Hid (eX _ Tryz.prog 3 4 (w2.heap.size+1) 0 (Dt s 0)):=S2.imp fun x=>⟨fun h=>h.elim,fun⟨c,hc,_⟩=>by simp at hc⟩
 clear S1 S2 hba hbb hM2 hmm c0 c1 c2 c3 c4 c5 Ue q1;generalize (w2.alloc _).alloc _=w4 at*;have hs2:=HB2.out.size;have hs4:=HB24.out.size;have hBs:w.heap.size<w2.heap.size:=gI hsz hs2;have c6b:=(HB24.out.cell (p:=⟨w.heap.size,6,none⟩) hBs).trans c6a;clear c6 c6a;go_wp2_with fail
 clear c6b;go_loopw [32] (fun s32 wr=>∃(i n m:Nat),i<=v.ys.length/\s32= .int .i64 (i:Int)/\n<=1000*i/\m<=256*i/\Hid (eX wr Tryz.prog 9 4 w2.heap.size n (Dq s i))/\Hid (eX wr Tryz.prog 3 4 (w2.heap.size+1) m (Dt s i))/\Hid (Below w2.heap.size w2 wr)) (fun s32 _=>v.ys.length-(intOf s32).toNat)
 case atStart=>exact⟨0,0,0,Nat.zero_le _,rfl,Nat.zero_le _,Nat.zero_le _,HS1,HS2,HB24⟩
 case round=>
  obtain⟨i,n,m,hi,rfl,hn,hm,HN,HM,mG⟩:=hrel;by_cases hlt:i<v.ys.length
  ·have EC:(i:Int)<v.ys.length:=by omega
   have hic:i<s.cs.length:=by rw[<- HS.out.cy,List.length_map];exact hlt
   have hel:v.ys[i].c=s.cs[i]:=by
    have h1:=congrArg (·[i]?) HS.out.cy;simp[hlt,hic]at h1;exact h1
   have lM:=gO (HS.out.below (HB2.out.trans (mG.out.mono hs2)));obtain⟨bb,off,hba,hbb,hbc⟩:=aN dU (by decide) lM.out.rc hlt;have hcy:=lM.out.ca _ (gL hlt);have hck:o8 s v.ys[i].c:=by rw[hel];exact HK.out.ck _ (gL hic)
   have hfy:v.ys[i].c.ns.length<=1000:=by rw[hel];exact hf _ (gL hic)
   have hzd:((v.ys.take i).any fun z=>decide (z.c.z=v.ys[i].c.z))=false:=by
    rw[List.any_eq_false];intro z hz;obtain⟨m,hm,e⟩:=List.mem_take_iff_getElem.1 hz;have hmc:m<s.cs.length:=by omega
    have h1:v.ys[m].c=s.cs[m]:=by
     have h2:=congrArg (·[m]?) HS.out.cy;simp[show m<v.ys.length by omega,hmc]at h2;exact h2
    have h2:=List.pairwise_iff_getElem.1 HK.out.zd m i hmc hic (by omega);rw[<- e,h1,hel];simpa using h2
   have hSS:∀x,Dq s (i+1) x↔(Dq s i x∨∃n∈v.ys[i].c.ns,x= .string n):=fun x=>by
    unfold Dq;rw[List.take_succ_eq_append_getElem hic,<- hel];simp only[List.mem_append,List.mem_singleton];constructor
    ·rintro⟨c,hc | rfl,h⟩
     ·exact .inl ⟨c,hc,h⟩
     ·exact .inr h
    ·rintro(⟨c,hc,h⟩ | h)
     ·exact⟨c,.inl hc,h⟩
     ·exact⟨_,.inr rfl,h⟩
   have ZP:∀x,Dt s (i+1) x↔(Dt s i x∨∃q∈v.ys[i].c.sl,x= .int .i64 (q.p:Int)):=fun x=>by
    unfold Dt;rw[List.take_succ_eq_append_getElem hic,<- hel];simp only[List.mem_append,List.mem_singleton];constructor
    ·rintro⟨c,hc | rfl,h⟩
     ·exact .inl ⟨c,hc,h⟩
     ·exact .inr h
    ·rintro(⟨c,hc,h⟩ | h)
     ·exact⟨c,.inl hc,h⟩
     ·exact⟨_,.inr rfl,h⟩
   have Nz:=gO hSS;have HPP:=gO ZP;obtain⟨e0,e1,e2,e3,e4,e5⟩:=jY hbc;have HTK:Hid ((v.ys.take i).length=i):=by unfold Hid;rw[List.length_take];omega
   obtain⟨y,hy⟩:∃y,v.ys[i]=y:=⟨_,rfl⟩
   rw[hy]at e0 e1 e2 e3 e4 e5 hcy hck hfy hzd;have HA:=gO hba;have HYI:=gO hy;rw[hba];clear hbc hba hel hSS ZP hy;go_upto_region 7 with fail
   have hb5:=aF wr (.cells #[.slice y.a1 y.n1 y.c1,.int .i64 (y.c.z:Int),.int .i64 (y.c.r:Int),.int .i64 (y.c.o:Int),.slice y.a2 y.n2 y.c2,.slice y.a3 y.n3 y.c3] 94);have K6:=aW wr #[.slice y.a1 y.n1 y.c1,.int .i64 (y.c.z:Int),.int .i64 (y.c.r:Int),.int .i64 (y.c.o:Int),.slice y.a2 y.n2 y.c2,.slice y.a3 y.n3 y.c3] 94;have hs6:=QC wr (.cells #[.slice y.a1 y.n1 y.c1,.int .i64 (y.c.z:Int),.int .i64 (y.c.r:Int),.int .i64 (y.c.o:Int),.slice y.a2 y.n2 y.c2,.slice y.a3 y.n3 y.c3] 94);have aGa:=HM.out.lt;have HN5:=gO (HN.out.below hb5);have HM5:=gO (HM.out.below hb5);have HB5:=gO (Below.step mG.out hb5);have HS5:=gO (lM.out.below hb5);have HY5:=gO (hcy.below hb5);clear hb5 HN HM mG lM hcy e0 e1 e2 e3 e4 e5 hbb;obtain⟨we,rfl⟩:∃we,we=wr:=⟨_,rfl⟩
   generalize we.alloc _=w5 at*;obtain⟨BC,ZQ⟩:∃B,we.heap.size=B:=⟨_,rfl⟩
   rw[ZQ]at K6 hs6 aGa ⊢;clear ZQ;have aBf:=HB2.out.trans (HB5.out.mono hs2);have k0:=aB HK0.out hsz aBf;have c0:=k0 0;have c1:=k0 1;have c2:=k0 2;have c3:=k0 3;have c4:=k0 4;have c5:=k0 5;have c6:=k0 6;have g0:=K6 0;have g1:=K6 1;have g2:=K6 2;have g3:=K6 3;have g4:=K6 4;have g5:=K6 5;simp only[gB,gC,gD]at c0 c1 c2 c3 c4 c5 c6 g0 g1 g2 g3 g4 g5;have hcall:=VP v s y w5 HS5.out HK.out.hk HK.out.wl HY5.out hck;have HC1:=gO hcall;have eg:∀args w,(callFunc 84 args).run Tryz.prog w= .ok (.enter 84 args) w:=enters_of Tryz.func84 (by kernel_rfl) rfl;have hkc:=HS5.out.kc;have HC2:Hid (∀W,Below w5.heap.size w5 W->Calls Tryz.prog 83 #[.slice (some ⟨bb,off,none⟩) i v.c2,.func (.func 84) #[] #[.pointer (some ⟨BC,0,none⟩)]] W fun ev w'=>ev= .returned (.bool false)/\Below W.heap.size W w'):=fun W hW=>by
    have h9:=uS v.a2 i v.c2 (v.ys.take i) 84 #[.pointer (some ⟨BC,0,none⟩)] (fun z=>decide (z.c.z=y.c.z)) W HTK.out (by omega) (VR dU (HS5.out.rc.below hW) i) eg (fun W2 hW2 z hz=>VQ z y BC W2 (gI (gI hs6 hW.size) hW2.size) ((hW2.cell (p:=⟨BC,1,none⟩) (gI hs6 hW.size)).trans ((hW.cell (p:=⟨BC,1,none⟩) hs6).trans g1)));rw[hzd,HA.out]at h9;exact h9
   have aKt:(i:Int)<=v.c2:=by omega
   have aKu:i<=v.c2:=by omega
   have aGb:w.heap.size<w5.heap.size:=gI hsz aBf.size;rw[HA.out]at c6 HC1;clear hcall eg hzd k0;go_upto_region 9 with (first | (go_at_call 82;refine HC1.out.mono ?_;rintro ev w6 ⟨rfl,hb6⟩;have c6b:=(hb6.cell (p:=⟨w.heap.size,6,none⟩) aGb).trans c6) | (go_at_call 83;refine(HC2.out _ hb6).mono ?_;rintro ev w7 ⟨rfl,hb7⟩))
   have OM:=Below.step hb6 hb7;have HN7:=gO (HN5.out.below OM);have HM7:=gO (HM5.out.below OM);have HB7:=gO (Below.step HB5.out OM);have HY7:=gO (HY5.out.below OM);have K7:=aB K6 hs6 OM;have hs7:=gI hs6 OM.size;clear HC1 HC2 hb6 hb7 OM c0 c1 c2 c3 c4 c5 c6 c6b g0 g1 g2 g3 g4 g5 HN5 HM5 HB5 HS5 HY5 K6 hs6 aBf;have HK7:=gO K7;have k0:=K7 0;simp only[gB,gC,gD]at k0;have hn1:y.n1<=1000:=by rw[<- HY7.out.l1];exact hfy
   clear K7;go_wp2_with fail
   clear k0;obtain⟨wo,rfl⟩:∃wo,wo=w7:=⟨_,rfl⟩
   go_loopw [52] (fun s52 wr=>∃(j k:Nat),j<=y.n1/\s52= .int .i64 (j:Int)/\k<=1000*i+j/\Hid (eX wr Tryz.prog 9 4 w2.heap.size k (fun x=>Dq s i x∨∃n∈y.c.ns.take j,x= .string n))/\Hid (eX wr Tryz.prog 3 4 (w2.heap.size+1) m (Dt s i))/\Hid (∀o,wr.cell? ⟨BC,o,none⟩=(#[.slice y.a1 y.n1 y.c1,.int .i64 (y.c.z:Int),.int .i64 (y.c.r:Int),.int .i64 (y.c.o:Int),.slice y.a2 y.n2 y.c2,.slice y.a3 y.n3 y.c3]:Array Value)[o]?)/\BC<wr.heap.size/\Hid (Below w2.heap.size w2 wr)) (fun s52 _=>y.n1-(intOf s52).toNat)
   case atStart=>exact⟨0,n,Nat.zero_le _,rfl,by omega,HN7.out.imp fun x=>⟨.inl,fun h=>h.resolve_right (by rintro⟨n,hn,_⟩;simp at hn)⟩,HM7,HK7,hs7,HB7⟩
   case round=>
    obtain⟨j,k,hj,rfl,hkn,Tj,VU,En,hsj,uD⟩:=hrel;have KQ:=HB2.out.trans (uD.out.mono hs2);have wG:=(HS.out.below KQ).ca _ (gL hlt);rw[HYI.out]at wG;by_cases hjl:j<y.n1
    ·have hji:(j:Int)<y.n1:=by omega
     have hjn:j<y.c.ns.length:=by rw[wG.l1];exact hjl
     obtain⟨b1,o1,hb1,YA,Tm⟩:=aN aZ (by decide) wG.r1 hjn;have n0:=oO Tm;have hnm:nameB y.c.ns[j]=true:=hck.nm _ (gL hjn);have hl8:y.c.ns[j].length<=8:=by
      unfold nameB at hnm;simp only[Bool.and_eq_true,decide_eq_true_eq]at hnm;exact hnm.1.2
     have hfresh:¬(Dq s i (.string y.c.ns[j])∨∃n∈y.c.ns.take j,(Lit.string y.c.ns[j])= .string n):=by
      rintro(⟨c,hc,n,hn,e⟩ | ⟨n,hn,e⟩)
      ·obtain⟨m,hm,e2⟩:=List.mem_take_iff_getElem.1 hc;have hmc:m<s.cs.length:=by omega
       have h2:=List.pairwise_iff_getElem.1 HK.out.nd m i hmc hic (by omega);have e3:y.c=s.cs[i]:=by
        have h1:=congrArg (·[i]?) HS.out.cy;simp[hlt,hic]at h1;rw[<- h1,HYI.out]
       refine h2 n (by rw[e2];exact hn) ?_;rw[<- e3];obtain rfl:y.c.ns[j]=n:=by simpa using e
       exact gL hjn
      ·obtain⟨m,hm,e2⟩:=List.mem_take_iff_getElem.1 hn;have h2:=List.pairwise_iff_getElem.1 hck.nr m j (by omega) hjn (by omega);obtain e3:y.c.ns[j]=n:=by simpa using e
       rw[e3,e2,UU]at h2;cases h2
     have HIM:Hid (∀x,(x=Lit.string y.c.ns[j]∨(Dq s i x∨∃n∈y.c.ns.take j,x= .string n))↔(Dq s i x∨∃n∈y.c.ns.take (j+1),x= .string n)):=fun x=>by
      rw[List.take_succ_eq_append_getElem hjn];simp only[List.mem_append,List.mem_singleton];constructor
      ·rintro(h | h | ⟨n,hn,h⟩)
       ·exact .inr ⟨_,.inr rfl,h⟩
       ·exact .inl h
       ·exact .inr ⟨n,.inl hn,h⟩
      ·rintro(h | ⟨n,hn | rfl,h⟩)
       ·exact .inr (.inl h)
       ·exact .inr (.inr ⟨n,hn,h⟩)
       ·exact .inl h
     have hname:Hid (∀W,Calls Tryz.prog 64 #[.string ⟨y.c.ns[j].toArray⟩] W fun ev w'=>ev= .returned (.bool true)/\Below W.heap.size W w'):=fun W=>by
      have h:=JM y.c.ns[j] W (by omega);rw[hnm]at h;exact h
     have g0:=En.out 0;simp only[gB,gC,gD]at g0;have wX:=gO hfresh;by_cases hj0:0<j
     ·have hjp:j-1<y.c.ns.length:=by omega
      obtain⟨b2,o2,hb2,_,aDm⟩:=aN aZ (by decide) wG.r1 hjp;have n1:=oO aDm;rw[hb1]at hb2;obtain⟨rfl,rfl⟩:b1=b2/\o1=o2:=by simpa using hb2
      have hlt1:=List.pairwise_iff_getElem.1 hck.nr (j-1) j hjp hjn (by omega);have q1:=XY hlt1;have e1:((j-1:Nat):Int)=(j:Int)-1:=by omega
      generalize y.c.ns[j-1]=l1 at*;generalize y.c.ns[j]=l at*;rw[hb1]at g0 ⊢;clear Tm aDm hb2 wG hfresh YA KQ;rw[Nat.mul_one]at n0 n1;have hj1:((j:Int)-1).toNat=j-1:=by omega
      have hj2:(0:Int)<=(j:Int)-1:=by omega
      have hj3:(j:Int)-1<y.n1:=by omega
      have hzj:(0:Int)<j:=by omega
      have aDn:=World.block_lt_of_cell? _ _ n1;clear hnm hjn hjp q1;go_upto_region 12 with fail
      go_upto_region 14 with (go_at_call 64;refine(hname.out _).mono ?_;rintro ev w8 ⟨rfl,hb8⟩;have hlk:=JH (Tj.out.below hb8) l (by omega) wX.out;unfold sV at hlk;have g8:=(hb8.cell (p:=⟨BC,0,none⟩) hsj).trans g0;have n8:=(hb8.cell (p:=⟨b1,o1+(j-1),none⟩) aDn).trans n1;have hge:=RD w8 hlt1)
      clear hlk g8 n8 g0 n0 n1 hge hlt1;obtain⟨w9,hup,HS9,hg9⟩:=JI (Tj.out.below hb8) (by omega) l (by omega);unfold sV at hup;have VW:=gO (HS9.imp HIM.out);have HM9:=gO ((VU.out.below hb8).kept hg9 (by simp));have hs8:w2.heap.size<=w8.heap.size:=gQ uD.out.size hb8.size;have HK9:=gO (Ql (aB En.out hsj hb8) hg9 (gI hsj hb8.size) (by omega));have hs9:=gI (gI hsj hb8.size) hg9.size;have HB9:=gO ((uD.out.trans (hb8.mono uD.out.size)).trans (zK hg9 (Nat.le_refl _) hs8));clear hg9 HS9 Tj VU En uD hb8 hsj;go_wp2
      go_roundw
      case rel=>exact⟨j+1,k+1,by omega,by go_num,by omega,VW,HM9,(by rw[hb1]at HK9;exact HK9),hs9,HB9⟩
      case measure=>simp[intOf];omega
     ·obtain rfl:j=0:=by omega
      generalize y.c.ns[0]=l at*;rw[hb1]at g0 ⊢;simp only[Nat.zero_mul,Nat.add_zero]at n0;have aDn:=World.block_lt_of_cell? _ _ n0;clear Tm wG hfresh YA KQ hnm hjn hj0;go_upto_region 12 with fail
      go_upto_region 14 with (go_at_call 64;refine(hname.out _).mono ?_;rintro ev w8 ⟨rfl,hb8⟩;have hlk:=JH (Tj.out.below hb8) l (by omega) wX.out;unfold sV at hlk;have g8:=(hb8.cell (p:=⟨BC,0,none⟩) hsj).trans g0)
      clear hlk g8 g0 n0;obtain⟨w9,hup,HS9,hg9⟩:=JI (Tj.out.below hb8) (by omega) l (by omega);unfold sV at hup;have VW:=gO (HS9.imp HIM.out);have HM9:=gO ((VU.out.below hb8).kept hg9 (by simp));have hs8:w2.heap.size<=w8.heap.size:=gQ uD.out.size hb8.size;have HK9:=gO (Ql (aB En.out hsj hb8) hg9 (gI hsj hb8.size) (by omega));have hs9:=gI (gI hsj hb8.size) hg9.size;have HB9:=gO ((uD.out.trans (hb8.mono uD.out.size)).trans (zK hg9 (Nat.le_refl _) hs8));clear hg9 HS9 Tj VU En uD hb8 hsj;go_wp2
      go_roundw
      case rel=>exact⟨0+1,k+1,by omega,by go_num,by omega,VW,HM9,(by rw[hb1]at HK9;exact HK9),hs9,HB9⟩
      case measure=>simp[intOf];omega
    ·obtain rfl:j=y.n1:=by omega
     have k4:=En.out 4;simp only[gB,gC,gD]at k4;have hn2:y.n2<=256:=by rw[<- wG.l2];exact hck.mP HK.out.hk
     have HNa:Hid (eX wr Tryz.prog 9 4 w2.heap.size k (Dq s (i+1))):=Tj.out.imp fun x=>by
      rw[Nz.out x,HYI.out,List.take_of_length_le (by rw[wG.l1];omega)]
     obtain⟨wn,rfl⟩:∃wn,wn=wr:=⟨_,rfl⟩
     clear KQ wG Tj hj hjl;go_wp2_with fail
     clear k4;go_loopw [85] (fun s85 wr=>∃(j q:Nat),j<=y.n2/\s85= .int .i64 (j:Int)/\q<=256*i+j/\Hid (eX wr Tryz.prog 9 4 w2.heap.size k (Dq s (i+1)))/\Hid (eX wr Tryz.prog 3 4 (w2.heap.size+1) q (fun x=>Dt s i x∨∃z∈y.c.sl.take j,x= .int .i64 (z.p:Int)))/\Hid (Below w2.heap.size w2 wr)) (fun s85 _=>y.n2-(intOf s85).toNat)
     case atStart=>exact⟨0,m,Nat.zero_le _,rfl,by omega,HNa,VU.out.imp fun x=>⟨.inl,fun h=>h.resolve_right (by rintro⟨n,hn,_⟩;simp at hn)⟩,uD⟩
     case round=>
      clear VU En uD HNa;obtain⟨j,q,hj,rfl,hq,HNq,Qx,pR⟩:=hrel;have KQ:=HB2.out.trans (pR.out.mono hs2);have wG:=(HS.out.below KQ).ca _ (gL hlt);rw[HYI.out]at wG;by_cases hjl:j<y.n2
      ·have hji:(j:Int)<y.n2:=by omega
       have hjn:j<y.c.sl.length:=by rw[wG.l2];exact hjl
       obtain⟨b1,o1,hb1,YA,Tm⟩:=aN aK (by decide) wG.r2 hjn;obtain⟨n0,n1,n2⟩:=fC Tm;have hp:=(hck.sk _ (gL hjn)).zH HK.out.hk;have e3:y.c=s.cs[i]:=by
        have h1:=congrArg (·[i]?) HS.out.cy;simp[hlt,hic]at h1;rw[<- h1,HYI.out]
       have hfresh:¬(Dt s i (.int .i64 (y.c.sl[j].p:Int))∨∃z∈y.c.sl.take j,(Lit.int .i64 (y.c.sl[j].p:Int))= .int .i64 (z.p:Int)):=by
        rintro(⟨c,hc,n,hn,e⟩ | ⟨n,hn,e⟩)
        ·obtain⟨m,hm,e2⟩:=List.mem_take_iff_getElem.1 hc;have hmc:m<s.cs.length:=by omega
         have h2:=List.pairwise_iff_getElem.1 HK.out.pd m i hmc hic (by omega);refine h2 n (by rw[e2];exact hn) y.c.sl[j] (by rw[<- e3];exact gL hjn) ?_;have e4:(y.c.sl[j].p:Int)=n.p:=by simpa using e
         omega
        ·obtain⟨m,hm,e2⟩:=List.mem_take_iff_getElem.1 hn;have h2:=List.pairwise_iff_getElem.1 hck.sr m j (by omega) hjn (by omega);have e4:(y.c.sl[j].p:Int)=n.p:=by simpa using e
         rw[e2]at h2;omega
       have HIM:Hid (∀x,(x=Lit.int .i64 (y.c.sl[j].p:Int)∨(Dt s i x∨∃z∈y.c.sl.take j,x= .int .i64 (z.p:Int)))↔(Dt s i x∨∃z∈y.c.sl.take (j+1),x= .int .i64 (z.p:Int))):=fun x=>by
        rw[List.take_succ_eq_append_getElem hjn];simp only[List.mem_append,List.mem_singleton];constructor
        ·rintro(h | h | ⟨n,hn,h⟩)
         ·exact .inr ⟨_,.inr rfl,h⟩
         ·exact .inl h
         ·exact .inr ⟨n,.inl hn,h⟩
        ·rintro(h | ⟨n,hn | rfl,h⟩)
         ·exact .inr (.inl h)
         ·exact .inr (.inr ⟨n,hn,h⟩)
         ·exact .inl h
       have wX:=gO hfresh;generalize y.c.sl[j]=x at*;rw[hb1];clear Tm hfresh YA KQ wG hjn e3;go_upto_region 19 with fail
       have hb8:=aF wr (.cells #[.int .i64 (x.p:Int),.int .i64 (x.n:Int),.int .i64 x.h] 137);have c0:=aW wr #[.int .i64 (x.p:Int),.int .i64 (x.n:Int),.int .i64 x.h] 137 0;simp only[gB,gC,gD]at c0;have hss:wr.heap.size<(wr.alloc (.cells #[.int .i64 (x.p:Int),.int .i64 (x.n:Int),.int .i64 x.h] 137)).heap.size:=by simp
       have aKv:=Qx.out.lt;clear n0 n1 n2;generalize wr.alloc _=w8 at*;have hlk:=UW (Qx.out.below hb8) x.p (by omega) wX.out;obtain⟨w9,hup,HS9,hg9⟩:=UY (Qx.out.below hb8) (by omega) x.p (by omega);have VW:=gO (HS9.imp HIM.out);have HN9:=gO ((HNq.out.below hb8).kept hg9 (by simp));have HB9:=gO ((pR.out.trans (hb8.mono pR.out.size)).trans (zK hg9 (Nat.le_succ _) (gQ pR.out.size hb8.size)));clear hg9 HS9 HNq Qx pR hb8;go_wp2
       go_roundw
       case rel=>exact⟨j+1,q+1,by omega,by go_num,by omega,HN9,VW,HB9⟩
       case measure=>simp[intOf];omega
      ·obtain rfl:j=y.n2:=by omega
       have HPa:Hid (eX wr Tryz.prog 3 4 (w2.heap.size+1) q (Dt s (i+1))):=Qx.out.imp fun x=>by
        rw[HPP.out x,HYI.out,List.take_of_length_le (by rw[wG.l2];omega)]
       clear wG KQ;go_wp2
       go_roundw
       case rel=>exact⟨i+1,k,q,by omega,by go_num,by omega,by omega,HNq,HPa,pR⟩
       case measure=>simp[intOf];omega
  ·obtain rfl:i=v.ys.length:=by omega
   have HBE:=gO (Below.step HB.out (Below.step HB2.out mG.out));go_wp2
   go_ret
   exact⟨rfl,HBE.out⟩
end
end Go.Proofs.YtcmpmobhongkiaaGreatDoor
