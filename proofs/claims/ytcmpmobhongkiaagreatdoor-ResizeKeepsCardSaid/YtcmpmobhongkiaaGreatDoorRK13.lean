/- joined. -/
import Derived.Test.YtcmpmobhongkiaaGreatDoorRK0
import Derived.Test.YtcmpmobhongkiaaGreatDoorRK1
import Derived.Test.YtcmpmobhongkiaaGreatDoorRK12
import Derived.Test.YtcmpmobhongkiaaGreatDoorRK5
import Derived.Test.YtcmpmobhongkiaaGreatDoorRK6
import Derived.Test.YtcmpmobhongkiaaGreatDoorRK7
import Derived.Lib.ConvBytes
set_option linter.unusedVariables false
set_option linter.unusedSimpArgs false
namespace Go.Proofs.YtcmpmobhongkiaaGreatDoor
section
open Go.RowKit
def sV (l:List UInt8):Value:= .string ⟨l.toArray⟩
def encS (l:List UInt8):List Value:=[sV l]
theorem aZ (l:List UInt8):(encS l).length=1:=rfl
theorem oO {w:World}{g o:Nat}{r:List UInt8}(hc:∀i v,(encS r)[i]? =some v->w.cell? ⟨g,o+i,none⟩=some v):w.cell? ⟨g,o,none⟩=some (.string ⟨r.toArray⟩):=hc 0 _ rfl
def aX (x:Sl):List Value:=[vI x.p,vI x.n,vI x.h]
theorem aK (x:Sl):(aX x).length=3:=rfl
theorem fC {w:World}{b o:Nat}{r:Sl}(hc:∀i v,(aX r)[i]? =some v->w.cell? ⟨b,o+i,none⟩=some v):w.cell? ⟨b,o,none⟩=some (.int .i64 r.p)/\w.cell? ⟨b,o+1,none⟩=some (.int .i64 r.n)/\w.cell? ⟨b,o+2,none⟩=some (.int .i64 r.h):=⟨hc 0 _ rfl,hc 1 _ rfl,hc 2 _ rfl⟩
structure Cc where
 a1:Option Addr
 n1:Nat
 c1:Nat
 a2:Option Addr
 n2:Nat
 c2:Nat
 a3:Option Addr
 n3:Nat
 c3:Nat
 c:Ca
def dX (y:Cc):List Value:=[.slice y.a1 y.n1 y.c1,vI y.c.z,vI y.c.r,vI y.c.o,.slice y.a2 y.n2 y.c2,.slice y.a3 y.n3 y.c3]
theorem dU (y:Cc):(dX y).length=6:=rfl
theorem jY {w:World}{b o:Nat}{y:Cc}(hc:∀i v,(dX y)[i]? =some v->w.cell? ⟨b,o+i,none⟩=some v):w.cell? ⟨b,o,none⟩=some (.slice y.a1 y.n1 y.c1)/\w.cell? ⟨b,o+1,none⟩=some (.int .i64 y.c.z)/\w.cell? ⟨b,o+2,none⟩=some (.int .i64 y.c.r)/\w.cell? ⟨b,o+3,none⟩=some (.int .i64 y.c.o)/\w.cell? ⟨b,o+4,none⟩=some (.slice y.a2 y.n2 y.c2)/\w.cell? ⟨b,o+5,none⟩=some (.slice y.a3 y.n3 y.c3):=⟨hc 0 _ rfl,hc 1 _ rfl,hc 2 _ rfl,hc 3 _ rfl,hc 4 _ rfl,hc 5 _ rfl⟩
structure Ht (w:World)(y:Cc):Prop where
 l1:y.c.ns.length=y.n1
 l2:y.c.sl.length=y.n2
 l3:y.c.ac.length=y.n3
 r1:Row w y.a1 (flat encS y.c.ns)
 r2:Row w y.a2 (flat aX y.c.sl)
 r3:Row w y.a3 (y.c.ac.map vI)
 k1:y.n1<=y.c1
 k2:y.n2<=y.c2
 k3:y.n3<=y.c3
theorem Ht.below {w w':World}{y:Cc}(h:Ht w y)(hb:Below w.heap.size w w'):Ht w' y:=⟨h.l1,h.l2,h.l3,h.r1.below hb,h.r2.below hb,h.r3.below hb,h.k1,h.k2,h.k3⟩
set_option maxHeartbeats 4000000 in
set_option maxRecDepth 100000 in
theorem wS (c:Ca)(a1 a2 a3:Option Addr)(n1 c1 n2 c2 n3 c3 p:Nat)(a:Int)(w:World)(hz:1<=c.z)(hrz:c.r*c.z<=100000)(hp:p<=1000)(ha1: -1000000000000<=a)(ha2:a<=1000000000000):
 Calls Tryz.prog 90 #[.agg #[.slice a1 n1 c1,.int .i64 c.z,.int .i64 c.r,.int .i64 c.o,.slice a2 n2 c2,.slice a3 n3 c3],.int .i64 p,.int .i64 a] w fun ev w'=>ev= .returned (.bool (fU c p a))/\Below w.heap.size w w':=by
 have hb:=aF w (.cells #[.slice a1 n1 c1,.int .i64 (c.z:Int),.int .i64 (c.r:Int),.int .i64 (c.o:Int),.slice a2 n2 c2,.slice a3 n3 c3] 94);have K:=aW w #[.slice a1 n1 c1,.int .i64 (c.z:Int),.int .i64 (c.r:Int),.int .i64 (c.o:Int),.slice a2 n2 c2,.slice a3 n3 c3] 94;have k1:=K 1;have k2:=K 2;simp only[gB,gC,gD]at k1 k2;have hmul:((c.r:Int)*(c.z:Int))=((c.r*c.z:Nat):Int):=by rw[Int.natCast_mul]
 have hnn:0<=(c.r:Int)*(c.z:Int):=by rw[hmul];omega
 have hub:(c.r:Int)*(c.z:Int)<=100000:=by rw[hmul];omega
 clear hmul;have HB:=gO hb;clear hb K;have hzi:((c.z:Int) == 0)=false:=by rw[beq_eq_false_iff_ne];omega
 by_cases h1:0<=a-p*16
 ·by_cases h2:a-p*16<(c.r:Int)*c.z
  ·have d1:decide (0<=a-(p:Int)*16)=true:=decide_eq_true h1;go_enter Tryz.func90,Tryz.ntmps90
   go_wp2_with fail
   go_ret
   refine⟨aV ?_,HB.out⟩;unfold fU;rw[Int.mul_comm 16 (p:Int)];by_cases h3:(a-(p:Int)*16)%(c.z:Int)=0
   ·rw[h3,decide_eq_true ⟨h1,h2,rfl⟩];rfl
   ·rw[decide_eq_false (fun h=>h3 h.2.2)];exact beq_eq_false_iff_ne.2 h3
  ·have d1:decide (0<=a-(p:Int)*16)=true:=decide_eq_true h1;go_enter Tryz.func90,Tryz.ntmps90
   go_wp2_with fail
   go_ret
   refine⟨aV ?_,HB.out⟩;unfold fU;rw[Int.mul_comm 16 (p:Int)];symm;exact decide_eq_false (fun h=>absurd h.2.1 (Int.not_lt.2 h2))
 ·have d1:decide (0<=a-(p:Int)*16)=false:=decide_eq_false h1;go_enter Tryz.func90,Tryz.ntmps90
  go_wp2_with fail
  go_ret
  refine⟨aV ?_,HB.out⟩;unfold fU;rw[Int.mul_comm 16 (p:Int)];symm;exact decide_eq_false (fun h=>absurd h.1 (Int.not_le.2 h1))
end
section
open Go.RowKit
structure Hc where
 az:Option Addr
 cz:Nat
 am:Option Addr
 cm:Nat
 al:Option Addr
 cl:Nat
 av:Option Addr
 cv:Nat
 y0:Zc
 y1:Zc
 lc:List Lc
def y7 (c:Hc):Rs:=⟨102,4,.slice c.az 2 c.cz,2,flat mF [c.y0,c.y1]⟩
def qM (c:Hc):Rs:=⟨207,4,.slice c.al c.lc.length c.cl,c.lc.length,flat bH c.lc⟩
def yH (c:Hc)(h:Hp):Rs:=⟨63,3,.slice c.av h.live.length c.cv,h.live.length,flat aO h.live⟩
def jZ (r:Lc):Rs:=⟨3,1,.slice r.a r.n r.c,r.n,flat gV r.l.p⟩
def Ye (c:Hc)(h:Hp):Rs:=⟨3,1,.slice c.am 2 c.cm,2,flat gV [h.m0,h.m1]⟩
def Si (y:Zc):Rs:=⟨63,3,.slice y.a1 y.n1 y.c1,y.n1,flat aO y.z.l⟩
def Sj (y:Zc):Rs:=⟨3,1,.slice y.a2 y.n2 y.c2,y.n2,flat gV y.z.y⟩
def Hc.rows (c:Hc)(h:Hp):List Rs:=y7 c::qM c::yH c h::c.lc.map jZ
def Hc.reads (c:Hc)(h:Hp):List Rs:=[Ye c h,Si c.y0,Sj c.y0,Si c.y1,Sj c.y1]
def Hc.vals (c:Hc)(h:Hp):Array Value:=#[.slice c.az 2 c.cz,.slice c.am 2 c.cm,.int .i64 (h.aC:Int),.slice c.al c.lc.length c.cl,.slice c.av h.live.length c.cv]
structure HR (W:World)(G:Nat)(X:Nat->Prop)(h:Hp)(c:Hc):Prop where
 own:dJ W 0 (c.rows h)
 ro:∀r∈c.reads h,r.on W 0
 ds:∀r∈c.reads h,∀s∈c.rows h,r.off s
 og:∀r∈c.rows h,∀g,r.v.ownBlock=some g->g≠G/\¬X g
 rg:∀r∈c.reads h,r.v.ownBlock≠some G
 rx:∀r∈c.reads h,∀g,r.v.ownBlock=some g->¬X g
 gs:G<W.heap.size
 xg:¬X G
 xs:∀k,X k->k<W.heap.size
 e0:c.y0.z=h.z0
 e1:c.y1.z=h.z1
 ll:c.lc.map Lc.l=h.ls
structure HS (W:World)(G:Nat)(X:Nat->Prop)(h:Hp)(c:Hc):Prop where
 r:HR W G X h c
 k:∀o,W.cell? ⟨G,o,none⟩=(c.vals h)[o]?
 fz:∀o,W.frozen? ⟨G,o,none⟩=false
theorem Vm {W:World}{b:Nat}{y:Zc}(h:(Si y).on W b):y.z.l.length=y.n1:=by
 have h1:=h.1;unfold Si at h1;simp only at h1;rw[flat_length aJ]at h1;omega
theorem Vo {W:World}{b:Nat}{y:Zc}(h:(Sj y).on W b):y.z.y.length=y.n2:=by
 have h1:=h.1;unfold Sj at h1;simp only at h1;rw[flat_length bQ]at h1;omega
theorem wZ {W:World}{b:Nat}{y:Lc}(h:(jZ y).on W b):y.l.p.length=y.n:=by
 have h1:=h.1;unfold jZ at h1;simp only at h1;rw[flat_length bQ]at h1;omega
section
variable {W W':World}{G:Nat}{X Y:Nat->Prop}{h:Hp}{c:Hc}
theorem HR.kR (hs:HR W G X h c):∀r∈c.lc,(jZ r).on W 0:=fun r hr=>hs.own.each _ (by
 unfold Hc.rows;exact List.mem_cons_of_mem _ (List.mem_cons_of_mem _ (List.mem_cons_of_mem _ (List.mem_map_of_mem hr))))
theorem HR.zs (hs:HR W G X h c):(y7 c).on W 0:=hs.own.each _ (by simp[Hc.rows])
theorem HR.lsr (hs:HR W G X h c):(qM c).on W 0:=hs.own.each _ (by simp[Hc.rows])
theorem HR.lv (hs:HR W G X h c):(yH c h).on W 0:=hs.own.each _ (by simp[Hc.rows])
theorem HR.mn (hs:HR W G X h c):(Ye c h).on W 0:=hs.ro _ (by simp[Hc.reads])
theorem HR.l0 (hs:HR W G X h c):(Si c.y0).on W 0:=hs.ro _ (by simp[Hc.reads])
theorem HR.t0 (hs:HR W G X h c):(Sj c.y0).on W 0:=hs.ro _ (by simp[Hc.reads])
theorem HR.l1 (hs:HR W G X h c):(Si c.y1).on W 0:=hs.ro _ (by simp[Hc.reads])
theorem HR.t1 (hs:HR W G X h c):(Sj c.y1).on W 0:=hs.ro _ (by simp[Hc.reads])
theorem HR.z0 (hs:HR W G X h c):Hf W c.y0.a1 c.y0.a2 c.y0.n1 c.y0.n2 h.z0:=by
 rw[<- hs.e0];exact⟨Vm hs.l0,Vo hs.t0,aY hs.l0,aY hs.t0⟩
theorem HR.z1 (hs:HR W G X h c):Hf W c.y1.a1 c.y1.a2 c.y1.n1 c.y1.n2 h.z1:=by
 rw[<- hs.e1];exact⟨Vm hs.l1,Vo hs.t1,aY hs.l1,aY hs.t1⟩
theorem HR.at (hs:HR W G X h c):HAt W c.az c.am c.al c.av c.lc.length h.live.length c.y0 c.y1 c.lc h:=
 ⟨aY hs.zs,aY hs.mn,aY hs.lsr,aY hs.lv,hs.e0,hs.e1,hs.z0,hs.z1,hs.ll,rfl,rfl,fun r hr=>⟨wZ (hs.kR r hr),aY (hs.kR r hr)⟩⟩
theorem HR.below (hs:HR W G X h c)(hb:Below W.heap.size W W'):HR W' G X h c:=
 ⟨hs.own.below hb,fun r hr=>own_below (hs.ro r hr) hb (Nat.le_refl _),hs.ds,hs.og,hs.rg,hs.rx,gI hs.gs hb.size,hs.xg,fun k hk=>gI (hs.xs k hk) hb.size,hs.e0,hs.e1,hs.ll⟩
theorem HS.below (hs:HS W G X h c)(hb:Below W.heap.size W W'):HS W' G X h c:=
 ⟨hs.r.below hb,aB hs.k hs.r.gs hb,aH hs.fz hs.r.gs hb⟩
theorem HR.sub (hs:HR W G X h c)(hy:∀k,Y k->X k):HR W G Y h c:=
 ⟨hs.own,hs.ro,hs.ds,fun r hr g hg=>⟨(hs.og r hr g hg).1,fun e=>(hs.og r hr g hg).2 (hy g e)⟩,hs.rg,fun r hr g hg e=>hs.rx r hr g hg (hy g e),hs.gs,fun e=>hs.xg (hy _ e),fun k hk=>hs.xs k (hy k hk),hs.e0,hs.e1,hs.ll⟩
theorem HS.sub (hs:HS W G X h c)(hy:∀k,Y k->X k):HS W G Y h c:=⟨hs.r.sub hy,hs.k,hs.fz⟩
theorem HR.more (hs:HR W G X h c)(hy:∀k,Y k->k<W.heap.size/\k≠G/\(∀r∈c.rows h,r.v.ownBlock≠some k)/\∀r∈c.reads h,r.v.ownBlock≠some k):HR W G Y h c:=
 ⟨hs.own,hs.ro,hs.ds,fun r hr g hg=>⟨(hs.og r hr g hg).1,fun e=>(hy g e).2.2.1 r hr hg⟩,hs.rg,fun r hr g hg e=>(hy g e).2.2.2 r hr hg,hs.gs,fun e=>(hy _ e).2.1 rfl,fun k hk=>(hy k hk).1,hs.e0,hs.e1,hs.ll⟩
theorem HS.more (hs:HS W G X h c)(hy:∀k,Y k->k<W.heap.size/\k≠G/\(∀r∈c.rows h,r.v.ownBlock≠some k)/\∀r∈c.reads h,r.v.ownBlock≠some k):HS W G Y h c:=⟨hs.r.more hy,hs.k,hs.fz⟩
theorem HS.new (hs:HS W G X h c)(hb:Below W.heap.size W W'):HS W' G (fun k=>X k∨(W.heap.size<=k/\k<W'.heap.size)) h c:=
 (hs.below hb).more fun k hk=>by
  rcases hk with hk | ⟨h1,h2⟩
  ·have h3:=hs.r.xs k hk;exact⟨gI h3 hb.size,fun e=>hs.r.xg (e▸hk),fun r hr e=>(hs.r.og r hr k e).2 hk,fun r hr e=>hs.r.rx r hr k e hk⟩
  ·exact⟨h2,fun e=>by have:=hs.r.gs;omega,fun r hr e=>by have:=(hs.r.own.lt r hr k e).2;omega,fun r hr e=>by have:=((hs.r.ro r hr).lt k e).2;omega⟩
theorem HR.fO (hs:HR W G X h c)(i:Nat)(u:Value):HR (W.setCell ⟨G,i,none⟩ u) G X h c:=
 ⟨hs.own.far (fun r hr e=>(hs.og r hr G e).1 rfl) i u,fun r hr=>bI (hs.ro r hr) (hs.rg r hr) u,hs.ds,hs.og,hs.rg,hs.rx,by simpa using hs.gs,hs.xg,fun k hk=>by simpa using hs.xs k hk,hs.e0,hs.e1,hs.ll⟩
theorem HS.far (hs:HS W G X h c){g:Nat}(hx:X g)(i:Nat)(u:Value):HS (W.setCell ⟨g,i,none⟩ u) G X h c:=by
 have hne:G≠g:=fun e=>hs.r.xg (e▸hx)
 exact⟨⟨hs.r.own.far (fun r hr e=>(hs.r.og r hr g e).2 hx) i u,fun r hr=>bI (hs.r.ro r hr) (fun e=>hs.r.rx r hr g e hx) u,hs.r.ds,hs.r.og,hs.r.rg,hs.r.rx,by simpa using hs.r.gs,hs.r.xg,fun k hk=>by simpa using hs.r.xs k hk,hs.r.e0,hs.r.e1,hs.r.ll⟩,aA hs.k hne i u,aG hs.fz _ _⟩
end
end
section
open Go.RowKit
def put4 (W:World)(g o:Nat)(u0 u1 u2 u3:Value):World:=(((W.setCell ⟨g,o,none⟩ u0).setCell ⟨g,o+1,none⟩ u1).setCell ⟨g,o+2,none⟩ u2).setCell ⟨g,o+3,none⟩ u3
section
variable {W W1:World}{G:Nat}{X:Nat->Prop}{h:Hp}{c:Hc}
theorem CV {base:Nat}{e:TypeId}{size:Nat}{v:Value}{n:Nat}{xs:List Value}(h:W.ownsRow base e size v n xs){g:Nat}(hb:v.ownBlock≠some g)(o:Nat)(u0 u1 u2 u3:Value):(put4 W g o u0 u1 u2 u3).ownsRow base e size v n xs:=
 bI (bI (bI (bI h hb u0) hb u1) hb u2) hb u3
theorem Safe.put4 (g o:Nat)(u0 u1 u2 u3:Value)(hg:¬X g):Safe X W (put4 W g o u0 u1 u2 u3):=((((Safe.refl X W).set hg o u0).set hg (o+1) u1).set hg (o+2) u2).set hg (o+3) u3
theorem dJ.put4 {kQ:Nat}{r:Rs}{rs:List Rs}(h:dJ W kQ (r::rs)){g c:Nat}(hv:r.v= .slice (some ⟨g,0,none⟩) r.n c)(o:Nat)(u0 u1 u2 u3:Value)(h0:u0.oneCell'=true)(h1:u1.oneCell'=true)(h2:u2.oneCell'=true)(h3:u3.oneCell'=true):
 dJ (put4 W g o u0 u1 u2 u3) kQ ({r with xs:=(((r.xs.set o u0).set (o+1) u1).set (o+2) u2).set (o+3) u3}::rs):=by
 have k0:=h.cell (i:=0) (by simp) (g:=g) (c:=c) hv o u0 h0;have k1:=k0.cell (i:=0) (by simp) (g:=g) (c:=c) hv (o+1) u1 h1;have k2:=k1.cell (i:=0) (by simp) (g:=g) (c:=c) hv (o+2) u2 h2;have k3:=k2.cell (i:=0) (by simp) (g:=g) (c:=c) hv (o+3) u3 h3;exact k3
theorem Vp {b g:Nat}{A:Array Value}(h:∀o,W.cell? ⟨b,o,none⟩=A[o]?)(hne:b≠g)(p:Nat)(u0 u1 u2 u3:Value)(o:Nat):(put4 W g p u0 u1 u2 u3).cell? ⟨b,o,none⟩=A[o]? :=
 aA (aA (aA (aA h hne p u0) hne (p+1) u1) hne (p+2) u2) hne (p+3) u3 o
theorem Vq {b g:Nat}(h:∀o,W.frozen? ⟨b,o,none⟩=false)(p:Nat)(u0 u1 u2 u3:Value)(o:Nat):(put4 W g p u0 u1 u2 u3).frozen? ⟨b,o,none⟩=false:=
 aG (aG (aG (aG h _ u0) _ u1) _ u2) _ u3 o
theorem FQ (g p:Nat)(u0 u1 u2 u3:Value):(put4 W g p u0 u1 u2 u3).heap.size=W.heap.size:=by unfold put4;simp
def Hc.zone (c:Hc)(i:Nat):Zc:=if i=0 then c.y0 else c.y1
def Hc.dN (c:Hc)(i:Nat)(y:Zc):Hc:=if i=0 then{c with y0:=y}else{c with y1:=y}
theorem HR.CW (hs:HR W G X h c):∃g,c.az=some ⟨g,0,none⟩/\g<W.heap.size/\g≠G/\¬X g/\∀j,j<8->W.frozen? ⟨g,j,none⟩=false:=by
 obtain⟨g,v,h1,_,h2,_,_⟩:=fA hs.zs 0 (by simp[y7,flat,mF]);have h3:(y7 c).v.ownBlock=some g:=by unfold y7;rw[h1];rfl
 have h4:=hs.og (y7 c) (by simp[Hc.rows]) g h3;refine⟨g,h1,h2,h4.1,h4.2,fun j hj=> ?_⟩;obtain⟨g',v',h5,_,_,_,h6⟩:=fA hs.zs j (by simp[y7,flat,mF];omega);rw[h1]at h5;obtain rfl:g=g':=by simpa using h5
 exact h6
theorem HS.aCL (hs:HS W G X h c)(hb:Below W.heap.size W W1){i:Nat}(hi:i<2){z':Zn}{a1 a2:Option Addr}{n1 n2 c1 c2:Nat}(hz:gY W1 W.heap.size a1 a2 n1 n2 c1 c2 z'){g:Nat}(hg:c.az=some ⟨g,0,none⟩):
 HS (put4 W1 g (i*4) (vI z'.f) (vI z'.e) (.slice a1 n1 c1) (.slice a2 n2 c2)) G X (h.jD i z') (c.dN i ⟨z',a1,a2,n1,n2,c1,c2⟩)/\Safe X W (put4 W1 g (i*4) (vI z'.f) (vI z'.e) (.slice a1 n1 c1) (.slice a2 n2 c2)):=by
 have hs1:=hs.below hb;obtain⟨g',hg1,hgs,hgG,hgX,_⟩:=hs.r.CW;obtain rfl:g=g':=by rw[hg]at hg1;simpa using hg1
 have hzb:(y7 c).v.ownBlock=some g:=by unfold y7;rw[hg];rfl
 have hzm:y7 c∈c.rows h:=by simp[Hc.rows]
 have hne:=hz.ne (g:=g) (.inl hgs);have wF:=hz.ne (g:=G) (.inl hs.r.gs);have hlive:(h.jD i z').live=h.live:=by unfold Hp.jD;split <;> rfl
 have hls:(h.jD i z').ls=h.ls:=by unfold Hp.jD;split <;> rfl
 have hcp:(h.jD i z').aC=h.aC:=by unfold Hp.jD;split <;> rfl
 have hm0:(h.jD i z').m0=h.m0:=by unfold Hp.jD;split <;> rfl
 have hm1:(h.jD i z').m1=h.m1:=by unfold Hp.jD;split <;> rfl
 have hrows:(c.dN i ⟨z',a1,a2,n1,n2,c1,c2⟩).rows (h.jD i z')={y7 c with xs:=(((((y7 c).xs.set (i*4) (vI z'.f)).set (i*4+1) (vI z'.e)).set (i*4+2) (.slice a1 n1 c1)).set (i*4+3) (.slice a2 n2 c2))}::qM c::yH c h::c.lc.map jZ:=by
  unfold Hc.rows;have e1:yH (c.dN i ⟨z',a1,a2,n1,n2,c1,c2⟩) (h.jD i z')=yH c h:=by unfold yH;rw[hlive];unfold Hc.dN;split <;> rfl
  have e2:qM (c.dN i ⟨z',a1,a2,n1,n2,c1,c2⟩)=qM c:=by unfold Hc.dN;split <;> rfl
  have e3:(c.dN i ⟨z',a1,a2,n1,n2,c1,c2⟩).lc=c.lc:=by unfold Hc.dN;split <;> rfl
  rw[e1,e2,e3];congr 1;obtain rfl | rfl:i=0∨i=1:=by omega
  ·rfl
  ·rfl
 have hreads:∀r∈(c.dN i ⟨z',a1,a2,n1,n2,c1,c2⟩).reads (h.jD i z'),r∈c.reads h∨r=Si ⟨z',a1,a2,n1,n2,c1,c2⟩∨r=Sj ⟨z',a1,a2,n1,n2,c1,c2⟩:=fun r hr=>by
  have e1:Ye (c.dN i ⟨z',a1,a2,n1,n2,c1,c2⟩) (h.jD i z')=Ye c h:=by unfold Ye;rw[hm0,hm1];unfold Hc.dN;split <;> rfl
  unfold Hc.reads at hr ⊢;rw[e1]at hr;unfold Hc.dN at hr;obtain rfl | rfl:i=0∨i=1:=by omega
  ·simp only[if_true,List.mem_cons,List.not_mem_nil,or_false]at hr ⊢;rcases hr with h | h | h | h | h <;> simp[h]
  ·simp only[show ¬(1:Nat)=0 by omega,if_false,List.mem_cons,List.not_mem_nil,or_false]at hr ⊢;rcases hr with h | h | h | h | h <;> simp[h]
 have hmem:∀s∈(c.dN i ⟨z',a1,a2,n1,n2,c1,c2⟩).rows (h.jD i z'),∃s0∈c.rows h,s0.v=s.v:=fun s hs'=>by
  rw[hrows,List.mem_cons]at hs';rcases hs' with rfl | hs'
  ·exact⟨y7 c,hzm,rfl⟩
  ·exact⟨s,by unfold Hc.rows;exact List.mem_cons_of_mem _ hs',rfl⟩
 refine⟨⟨⟨?_,fun r hr=> ?_,fun r hr s hs'=> ?_,fun r hr g' hg'=> ?_,fun r hr=> ?_,fun r hr g' hg' hx=> ?_,by rw[FQ];exact hs1.r.gs,hs.r.xg,fun k hk=>by rw[FQ];exact hs1.r.xs k hk,?_,?_,?_⟩,?_,Vq hs1.fz _ _ _ _ _⟩,(Safe.iM hb).trans (.put4 _ _ _ _ _ _ hgX)⟩
 ·rw[hrows];have h1:=hs1.r.own;unfold Hc.rows at h1;exact h1.put4 (c:=c.cz) (by unfold y7;rw[hg]) (i*4) _ _ _ _ rfl rfl rfl rfl
 ·rcases hreads r hr with h1 | rfl | rfl
  ·exact CV (hs1.r.ro r h1) (fun e=>hs.r.ds r h1 _ hzm g e hzb) _ _ _ _ _
  ·exact CV (own_base hz.o1 (Nat.zero_le _)) hne.1 _ _ _ _ _
  ·exact CV (own_base hz.o2 (Nat.zero_le _)) hne.2 _ _ _ _ _
 ·obtain⟨s0,hs0,hv⟩:=hmem s hs';intro g' h1 h2;rw[<- hv]at h2;rcases hreads r hr with h3 | rfl | rfl
  ·exact hs.r.ds r h3 s0 hs0 g' h1 h2
  ·have h4:=(hz.o1.lt g' h1).1;have h5:=(hs.r.own.lt s0 hs0 g' h2).2;omega
  ·have h4:=(hz.o2.lt g' h1).1;have h5:=(hs.r.own.lt s0 hs0 g' h2).2;omega
 ·obtain⟨s0,hs0,hv⟩:=hmem r hr;rw[<- hv]at hg';exact hs.r.og s0 hs0 g' hg'
 ·rcases hreads r hr with h3 | rfl | rfl
  ·exact hs.r.rg r h3
  ·exact wF.1
  ·exact wF.2
 ·rcases hreads r hr with h3 | rfl | rfl
  ·exact hs.r.rx r h3 g' hg' hx
  ·have h4:=(hz.o1.lt g' hg').1;have h5:=hs.r.xs g' hx;omega
  ·have h4:=(hz.o2.lt g' hg').1;have h5:=hs.r.xs g' hx;omega
 ·have:=hs.r.e0;unfold Hc.dN Hp.jD;obtain rfl | rfl:i=0∨i=1:=by omega
  ·rfl
  ·exact this
 ·have:=hs.r.e1;unfold Hc.dN Hp.jD;obtain rfl | rfl:i=0∨i=1:=by omega
  ·exact this
  ·rfl
 ·have:=hs.r.ll;rw[hls,<- this];unfold Hc.dN;split <;> rfl
 ·have h1:=Vp hs1.k (fun e=>hgG e.symm) (i*4) (vI z'.f) (vI z'.e) (.slice a1 n1 c1) (.slice a2 n2 c2);have h2:(c.dN i ⟨z',a1,a2,n1,n2,c1,c2⟩).vals (h.jD i z')=c.vals h:=by
   unfold Hc.vals;rw[hlive,hcp];unfold Hc.dN;split <;> rfl
  rw[h2];exact h1
end
end
section
open Go.RowKit
section
variable {W W':World}{G:Nat}{X:Nat->Prop}{h:Hp}{c:Hc}
structure Dis (c:Hc)(h:Hp):Prop where
 zl:(y7 c).off (qM c)
 zv:(y7 c).off (yH c h)
 zp:∀r∈c.lc.map jZ,(y7 c).off r
 lv:(qM c).off (yH c h)
 lp:∀r∈c.lc.map jZ,(qM c).off r
 vp:∀r∈c.lc.map jZ,(yH c h).off r
theorem HR.FP (hs:HR W G X h c):Dis c h:=by
 have h1:=hs.own.FP;unfold Hc.rows at h1;rw[List.pairwise_cons,List.pairwise_cons,List.pairwise_cons]at h1;obtain⟨a,b,d,_⟩:=h1;exact⟨a _ (by simp),a _ (by simp),fun r hr=>a r (by simp only[List.mem_cons];exact .inr (.inr hr)),b _ (by simp),fun r hr=>b r (List.mem_cons_of_mem _ hr),fun r hr=>d r hr⟩
theorem lX {c:Hc}{h:Hp}{r:Rs}(hr:r∈c.lc.map jZ):r∈c.rows h:=by
 unfold Hc.rows;exact List.mem_cons_of_mem _ (List.mem_cons_of_mem _ (List.mem_cons_of_mem _ hr))
theorem yI (c:Hc)(h:Hp):y7 c∈c.rows h:=by simp[Hc.rows]
theorem iO (c:Hc)(h:Hp):qM c∈c.rows h:=by simp[Hc.rows]
theorem jM (c:Hc)(h:Hp):yH c h∈c.rows h:=by simp[Hc.rows]
structure JX (W:World)(G:Nat)(X:Nat->Prop)(h:Hp)(c:Hc)(g:Nat):Prop where
 rows:∀r∈c.rows h,r.v.ownBlock≠some g
 reads:∀r∈c.reads h,r.v.ownBlock≠some g
 ne:g≠G
 x:¬X g
theorem HR.fresh (hs:HR W G X h c){g:Nat}(hg:W.heap.size<=g):JX W' G X h c g:=
 ⟨fun r hr e=>by have:=(hs.own.lt r hr g e).2;omega,fun r hr e=>by have:=((hs.ro r hr).lt g e).2;omega,fun e=>by have:=hs.gs;omega,fun e=>by have:=hs.xs g e;omega⟩
theorem HR.lists (hs:HR W G X h c)(hg:W.grownBy W' (qM c).v.ownBlock){al':Option Addr}{cl':Nat}{sH:List Lc}(ho:W'.ownsRow 0 207 4 (.slice al' sH.length cl') sH.length (flat bH sH))
 (hb:∀k,(Value.slice al' sH.length cl').ownBlock=some k->(qM c).v.ownBlock=some k∨W.heap.size<=k) (hp:dJ W 0 (sH.map jZ)) (hq:∀r∈sH.map jZ,∀g,r.v.ownBlock=some g->(∃r0∈c.lc.map jZ,r0.v.ownBlock=some g)∨JX W G X h c g):
 HR W' G X {h with ls:=sH.map Lc.l} {c with al:=al',cl:=cl',lc:=sH}:=by
 have D:=hs.FP;have hlv:yH {c with al:=al',cl:=cl',lc:=sH} {h with ls:=sH.map Lc.l}=yH c h:=rfl;have hzs:y7 {c with al:=al',cl:=cl',lc:=sH}=y7 c:=rfl;have hnew:∀s∈c.rows h,s≠qM c->(qM c).off s->∀k,(Value.slice al' sH.length cl').ownBlock=some k->s.v.ownBlock≠some k:=fun s hs1 _ hoff k hk e=>by
  rcases hb k hk with h1 | h1
  ·exact hoff k h1 e
  ·have:=(hs.own.lt s hs1 k e).2;omega
 have hrows:({c with al:=al',cl:=cl',lc:=sH}:Hc).rows {h with ls:=sH.map Lc.l}=y7 c::qM {c with al:=al',cl:=cl',lc:=sH}::yH c h::sH.map jZ:=rfl;have hnl:∀s∈c.rows h,(qM c).off s->∀k,(Value.slice al' sH.length cl').ownBlock=some k->s.v.ownBlock≠some k:=fun s hs1 hoff k hk e=>by
  rcases hb k hk with h1 | h1
  ·exact hoff k h1 e
  ·have:=(hs.own.lt s hs1 k e).2;omega
 have hz1:(y7 c).on W' 0:=iW hs.zs hg (fun k hk e=>D.zl k hk e);have hv1:(yH c h).on W' 0:=iW hs.lv hg (fun k hk e=>D.lv k e hk);have hp1:∀r∈sH.map jZ,r.on W' 0:=fun r hr=>iW (hp.each r hr) hg (fun k hk e=>by
  rcases hq r hr k hk with ⟨r0,hr0,h1⟩ | h1
  ·exact D.lp r0 hr0 k e h1
  ·exact h1.rows _ (iO c h) e)
 have hmem:∀r∈sH.map jZ,∀s:Rs,(s∈c.rows h∨s∈c.reads h)->(∀r0∈c.lc.map jZ,s.off r0)->s.off r:=fun r hr s hsm hso g h1 h2=>by
  rcases hq r hr g h2 with ⟨r0,hr0,h3⟩ | h3
  ·exact hso r0 hr0 g h1 h3
  ·rcases hsm with h4 | h4
   ·exact h3.rows _ h4 h1
   ·exact h3.reads _ h4 h1
 refine⟨⟨fun r hr=> ?_,?_⟩,fun r hr=>iW (hs.ro r hr) hg (fun k hk e=>hs.ds r hr _ (iO c h) k hk e),fun r hr s hs'=> ?_,fun r hr g hg'=> ?_,hs.rg,hs.rx,gI hs.gs hg.size,hs.xg,fun k hk=>gI (hs.xs k hk) hg.size,hs.e0,hs.e1,rfl⟩
 ·rw[hrows,List.mem_cons,List.mem_cons,List.mem_cons]at hr;rcases hr with rfl | rfl | rfl | hr
  ·exact hz1
  ·exact ho
  ·exact hv1
  ·exact hp1 r hr
 ·rw[hrows,List.pairwise_cons,List.pairwise_cons,List.pairwise_cons];refine⟨fun r hr=> ?_,fun r hr=> ?_,fun r hr=>hmem r hr _ (.inl (jM c h)) D.vp,hp.FP⟩
  ·rw[List.mem_cons,List.mem_cons]at hr;rcases hr with rfl | rfl | hr
   ·exact fun g h1 h2=>hnl _ (yI c h) D.zl.symm g h2 h1
   ·exact D.zv
   ·exact hmem r hr _ (.inl (yI c h)) D.zp
  ·rw[List.mem_cons]at hr;rcases hr with rfl | hr
   ·exact fun g h1 h2=>hnl _ (jM c h) D.lv g h1 h2
   ·intro g h1 h2;rcases hq r hr g h2 with ⟨r0,hr0,h3⟩ | h3
    ·exact hnl r0 (lX hr0) (D.lp r0 hr0) g h1 h3
    ·rcases hb g h1 with h4 | h4
     ·exact h3.rows _ (iO c h) h4
     ·have:=((hp.each r hr).lt g h2).2;omega
 ·rw[hrows,List.mem_cons,List.mem_cons,List.mem_cons]at hs';have hr2:r∈c.reads h:=hr;rcases hs' with rfl | rfl | rfl | hs'
  ·exact hs.ds r hr2 _ (yI c h)
  ·intro g h1 h2;rcases hb g h2 with h3 | h3
   ·exact hs.ds r hr2 _ (iO c h) g h1 h3
   ·have:=((hs.ro r hr2).lt g h1).2;omega
  ·exact hs.ds r hr2 _ (jM c h)
  ·exact hmem s hs' r (.inr hr2) fun r0 hr0=>hs.ds r hr2 r0 (lX hr0)
 ·rw[hrows,List.mem_cons,List.mem_cons,List.mem_cons]at hr;rcases hr with rfl | rfl | rfl | hr
  ·exact hs.og _ (yI c h) g hg'
  ·rcases hb g hg' with h3 | h3
   ·exact hs.og _ (iO c h) g h3
   ·exact⟨fun e=>by have:=hs.gs;omega,fun e=>by have:=hs.xs g e;omega⟩
  ·exact hs.og _ (jM c h) g hg'
  ·rcases hq r hr g hg' with ⟨r0,hr0,h3⟩ | h3
   ·exact hs.og r0 (lX hr0) g h3
   ·exact⟨h3.ne,h3.x⟩
theorem HS.lists (hs:HS W G X h c)(hg:W.grownBy W' (qM c).v.ownBlock){al':Option Addr}{cl':Nat}{sH:List Lc}(ho:W'.ownsRow 0 207 4 (.slice al' sH.length cl') sH.length (flat bH sH))
 (hb:∀k,(Value.slice al' sH.length cl').ownBlock=some k->(qM c).v.ownBlock=some k∨W.heap.size<=k) (hp:dJ W 0 (sH.map jZ)) (hq:∀r∈sH.map jZ,∀g,r.v.ownBlock=some g->(∃r0∈c.lc.map jZ,r0.v.ownBlock=some g)∨JX W G X h c g):
 HS (W'.setCell ⟨G,3,none⟩ (.slice al' sH.length cl')) G X {h with ls:=sH.map Lc.l} {c with al:=al',cl:=cl',lc:=sH}/\Safe X W (W'.setCell ⟨G,3,none⟩ (.slice al' sH.length cl')):=by
 have hne:(qM c).v.ownBlock≠some G:=fun e=>(hs.r.og _ (iO c h) G e).1 rfl
 have h1:=bT hs.k hs.r.gs hg (fun e=>hne e.symm);refine⟨⟨(hs.r.lists hg ho hb hp hq).fO _ _,?_,aG (bU hs.fz hs.r.gs hg (fun e=>hne e.symm)) _ _⟩,(Safe.nI hg (fun k hk e=>(hs.r.og _ (iO c h) k e.symm).2 hk)).set hs.r.xg _ _⟩;exact aI h1 3 (.slice al' sH.length cl')
end
theorem Oy (l:List Lc)(i:Nat)(hi:i<l.length)(r:Lc)(h0:r.l.c=l[i].l.c/\r.l.z=l[i].l.z/\r.l.t=l[i].l.t):(flat bH l).set (i*4+3) (.slice r.a r.n r.c)=flat bH (l.set i r):=by
 apply List.ext_getElem?;intro j;by_cases hj:j<l.length*4
 ·have hd:j/4<l.length:=by omega
  have hm:j%4<4:=by omega
  have hjj:j=j/4*4+j%4:=by omega
  have g1:=flat_get aP (l.set i r) (j/4) (by simpa using hd) (j%4) hm;have g2:=flat_get aP l (j/4) hd (j%4) hm;rw[<- hjj]at g1 g2;rw[g1,List.getElem?_set];by_cases he:i*4+3=j
  ·have e1:j/4=i:=by omega
   have e2:j%4=3:=by omega
   rw[if_pos he,if_pos (by rw[flat_length aP];omega)];simp only[e1,e2,List.getElem_set_self];rfl
  ·rw[if_neg he,g2];by_cases e1:j/4=i
   ·subst e1;simp only[List.getElem_set_self];have e2:j%4=0∨j%4=1∨j%4=2:=by omega
    obtain⟨a0,a1,a2⟩:=h0;rcases e2 with e2 | e2 | e2 <;> rw[e2] <;> simp[bH,a0,a1,a2]
   ·rw[List.getElem_set_ne (fun e=>e1 e.symm)]
 ·rw[List.getElem?_eq_none (by rw[List.length_set,flat_length aP];omega),List.getElem?_eq_none (by rw[flat_length aP,List.length_set];omega)]
section
variable {W W':World}{G:Nat}{X:Nat->Prop}{h:Hp}{c:Hc}
theorem HR.sJ (hs:HR W G X h c)(hn:0<c.lc.length):∃g,c.al=some ⟨g,0,none⟩/\g<W.heap.size/\g≠G/\¬X g/\∀j,j<c.lc.length*4->W.frozen? ⟨g,j,none⟩=false:=by
 obtain⟨g,v,h1,_,h2,_,_⟩:=fA hs.lsr 0 (by show 0<(flat bH c.lc).length;rw[flat_length aP];omega);have h3:(qM c).v.ownBlock=some g:=by unfold qM;rw[h1];rfl
 have h4:=hs.og (qM c) (iO c h) g h3;refine⟨g,h1,h2,h4.1,h4.2,fun j hj=> ?_⟩;obtain⟨g',v',h5,_,_,_,h6⟩:=fA hs.lsr j (by show j<(flat bH c.lc).length;rw[flat_length aP];omega);rw[h1]at h5;obtain rfl:g=g':=by simpa using h5
 exact h6
theorem HS.page (hs:HS W G X h c){i:Nat}(hi:i<c.lc.length)(hg:W.grownBy W' (jZ c.lc[i]).v.ownBlock){r:Lc}(ho:(jZ r).on W' 0)(h0:r.l.c=c.lc[i].l.c/\r.l.z=c.lc[i].l.z/\r.l.t=c.lc[i].l.t)
 (hb:∀k,(jZ r).v.ownBlock=some k->(jZ c.lc[i]).v.ownBlock=some k∨W.heap.size<=k) {g:Nat} (hal:c.al=some ⟨g,0,none⟩):
 HS (W'.setCell ⟨g,i*4+3,none⟩ (.slice r.a r.n r.c)) G X {h with ls:=h.ls.set i r.l} {c with lc:=c.lc.set i r}/\Safe X W (W'.setCell ⟨g,i*4+3,none⟩ (.slice r.a r.n r.c)):=by
 have D:=hs.r.FP;have hpm:jZ c.lc[i]∈c.lc.map jZ:=List.mem_map_of_mem (gL hi);obtain⟨g',hg1,hgs,hgG,hgX,_⟩:=hs.r.sJ (by omega);obtain rfl:g=g':=by rw[hal]at hg1;simpa using hg1
 have hlb:(qM c).v.ownBlock=some g:=by unfold qM;rw[hal];rfl
 have hne:(jZ c.lc[i]).v.ownBlock≠some G:=fun e=>(hs.r.og _ (lX hpm) G e).1 rfl
 have hneg:(jZ c.lc[i]).v.ownBlock≠some g:=fun e=>D.lp _ hpm g hlb e
 have hi3:3+i<(c.rows h).length:=by simp[Hc.rows];omega
 have hri:(c.rows h)[3+i]=jZ c.lc[i]:=by
  have:(c.rows h)[3+i]? =some (jZ c.lc[i]):=by
   rw[show 3+i=i+3 by omega];simp[Hc.rows,hi]
  exact(List.getElem?_eq_some_iff.1 this).2
 have k1:=hs.r.own.grown hi3 (W':=W') (r':=jZ r) (by rw[hri];exact hg) ho (by rw[hri];exact hb);have e1:(c.rows h).set (3+i) (jZ r)=y7 c::qM c::yH c h::(c.lc.set i r).map jZ:=by
  rw[show 3+i=i+3 by omega,List.map_set];rfl
 rw[e1]at k1;have k2:=k1.cell (i:=1) (by simp) (g:=g) (c:=c.cl) (by show(qM c).v=_;unfold qM;rw[hal];rfl) (i*4+3) (.slice r.a r.n r.c) rfl;have e2:(y7 c::qM c::yH c h::(c.lc.set i r).map jZ).set 1 {(y7 c::qM c::yH c h::(c.lc.set i r).map jZ)[1]with xs:=((y7 c::qM c::yH c h::(c.lc.set i r).map jZ)[1]).xs.set (i*4+3) (.slice r.a r.n r.c)}=({c with lc:=c.lc.set i r}:Hc).rows {h with ls:=h.ls.set i r.l}:=by
  unfold Hc.rows;have e3:qM {c with lc:=c.lc.set i r}={qM c with xs:=(qM c).xs.set (i*4+3) (.slice r.a r.n r.c)}:=by
   unfold qM;simp only[List.length_set];rw[<- Oy c.lc i hi r h0]
  rw[e3];rfl
 rw[e2]at k2;have hmem:∀s∈({c with lc:=c.lc.set i r}:Hc).rows {h with ls:=h.ls.set i r.l},(∃s0∈c.rows h,s0.v=s.v)∨s=jZ r:=fun s hs'=>by
  rw[<- e2]at hs';rcases List.mem_or_eq_of_mem_set hs' with h1 | h1
  ·rw[List.mem_cons,List.mem_cons,List.mem_cons]at h1;rcases h1 with h1 | h1 | h1 | h1
   ·exact .inl ⟨_,yI c h,by rw[h1]⟩
   ·exact .inl ⟨_,iO c h,by rw[h1]⟩
   ·exact .inl ⟨_,jM c h,by rw[h1]⟩
   ·rw[List.map_set]at h1;rcases List.mem_or_eq_of_mem_set h1 with h2 | h2
    ·exact .inl ⟨s,lX h2,rfl⟩
    ·exact .inr h2
  ·exact .inl ⟨_,iO c h,by rw[h1];rfl⟩
 have h1:=bT hs.k hs.r.gs hg (fun e=>hne e.symm);refine⟨⟨⟨k2,fun r1 hr=>bI (iW (hs.r.ro r1 hr) hg (fun k hk e=>hs.r.ds r1 hr _ (lX hpm) k hk e)) (fun e=>hs.r.ds r1 hr _ (iO c h) g e hlb) _,fun r1 hr s hs' k hk1 hk2=> ?_,fun s hs' k hk=> ?_,hs.r.rg,hs.r.rx,by simpa using gI hs.r.gs hg.size,hs.r.xg,fun k hk=>by simpa using gI (hs.r.xs k hk) hg.size,hs.r.e0,hs.r.e1,?_⟩,?_,aG (bU hs.fz hs.r.gs hg (fun e=>hne e.symm)) _ _⟩,(Safe.nI hg (fun k hk e=>(hs.r.og _ (lX hpm) k e.symm).2 hk)).set hgX _ _⟩
 ·rcases hmem s hs' with ⟨s0,hs0,hv⟩ | rfl
  ·exact hs.r.ds r1 hr s0 hs0 k hk1 (by rw[hv];exact hk2)
  ·rcases hb k hk2 with h3 | h3
   ·exact hs.r.ds r1 hr _ (lX hpm) k hk1 h3
   ·have:=((hs.r.ro r1 hr).lt k hk1).2;omega
 ·rcases hmem s hs' with ⟨s0,hs0,hv⟩ | rfl
  ·exact hs.r.og s0 hs0 k (by rw[hv];exact hk)
  ·rcases hb k hk with h3 | h3
   ·exact hs.r.og _ (lX hpm) k h3
   ·exact⟨fun e=>by have:=hs.r.gs;omega,fun e=>by have:=hs.r.xs k e;omega⟩
 ·rw[List.map_set,hs.r.ll]
 ·have h2:({c with lc:=c.lc.set i r}:Hc).vals {h with ls:=h.ls.set i r.l}=c.vals h:=by
   unfold Hc.vals;simp only[List.length_set]
  rw[h2];exact aA h1 (fun e=>hgG e.symm) _ _
theorem HS.away (hs:HS W G X h c)(hg:W.grownBy W' (yH c h).v.ownBlock){rO:Option Addr}{cv':Nat}{v':List Bk}(ho:W'.ownsRow 0 63 3 (.slice rO v'.length cv') v'.length (flat aO v'))
 (hb:∀k,(Value.slice rO v'.length cv').ownBlock=some k->(yH c h).v.ownBlock=some k∨W.heap.size<=k):
 HS (W'.setCell ⟨G,4,none⟩ (.slice rO v'.length cv')) G X {h with live:=v'} {c with av:=rO,cv:=cv'}/\Safe X W (W'.setCell ⟨G,4,none⟩ (.slice rO v'.length cv')):=by
 have hne:(yH c h).v.ownBlock≠some G:=fun e=>(hs.r.og _ (jM c h) G e).1 rfl
 have h1:=bT hs.k hs.r.gs hg (fun e=>hne e.symm);have k1:=hs.r.own.grown (i:=2) (by simp[Hc.rows]) (W':=W') (r':=yH {c with av:=rO,cv:=cv'} {h with live:=v'}) hg ho hb;have hmem:∀s∈({c with av:=rO,cv:=cv'}:Hc).rows {h with live:=v'},s∈c.rows h∨s=yH {c with av:=rO,cv:=cv'} {h with live:=v'}:=fun s hs'=>List.mem_or_eq_of_mem_set (l:=c.rows h) (i:=2) hs'
 refine⟨⟨(⟨k1,fun r hr=>iW (hs.r.ro r hr) hg (fun k hk e=>hs.r.ds r hr _ (jM c h) k hk e),fun r1 hr s hs' k hk1 hk2=> ?_,fun s hs' k hk=> ?_,hs.r.rg,hs.r.rx,gI hs.r.gs hg.size,hs.r.xg,fun k hk=>gI (hs.r.xs k hk) hg.size,hs.r.e0,hs.r.e1,hs.r.ll⟩:HR W' G X {h with live:=v'} {c with av:=rO,cv:=cv'}).fO _ _,?_,aG (bU hs.fz hs.r.gs hg (fun e=>hne e.symm)) _ _⟩,(Safe.nI hg (fun k hk e=>(hs.r.og _ (jM c h) k e.symm).2 hk)).set hs.r.xg _ _⟩
 ·have hr2:r1∈c.reads h:=hr;rcases hmem s hs' with h3 | rfl
  ·exact hs.r.ds r1 hr2 s h3 k hk1 hk2
  ·rcases hb k hk2 with h3 | h3
   ·exact hs.r.ds r1 hr2 _ (jM c h) k hk1 h3
   ·have:=((hs.r.ro r1 hr2).lt k hk1).2;omega
 ·rcases hmem s hs' with h3 | rfl
  ·exact hs.r.og s h3 k hk
  ·rcases hb k hk with h3 | h3
   ·exact hs.r.og _ (jM c h) k h3
   ·exact⟨fun e=>by have:=hs.r.gs;omega,fun e=>by have:=hs.r.xs k e;omega⟩
 ·exact aI h1 4 (.slice rO v'.length cv')
end
end
section
open Go.RowKit
def Jk (az:Option Addr)(cz:Nat)(zs:List Zc):Rs:=⟨102,4,.slice az zs.length cz,zs.length,flat mF zs⟩
def bkR (av:Option Addr)(cv:Nat)(l:List Bk):Rs:=⟨63,3,.slice av l.length cv,l.length,flat aO l⟩
def inR (am:Option Addr)(cm:Nat)(l:List Nat):Rs:=⟨3,1,.slice am l.length cm,l.length,flat gV l⟩
structure CZ (W:World)(kQ g:Nat)(zs:List Zc)(az:Option Addr)(cz:Nat)(am:Option Addr)(cm:Nat)(m:List Nat)(av:Option Addr)(cv:Nat)(v:List Bk)(aC:Nat):Prop where
 oz:(Jk az cz zs).on W kQ
 ov:(bkR av cv v).on W kQ
 om:(inR am cm m).on W kQ
 rd:∀y∈zs,(Si y).on W kQ/\(Sj y).on W kQ
 zv:(Jk az cz zs).off (bkR av cv v)
 zm:(Jk az cz zs).off (inR am cm m)
 zy:∀y∈zs,(Jk az cz zs).off (Si y)/\(Jk az cz zs).off (Sj y)
 vm:(bkR av cv v).off (inR am cm m)
 vy:∀y∈zs,(bkR av cv v).off (Si y)/\(bkR av cv v).off (Sj y)
 gz:(Jk az cz zs).v.ownBlock≠some g
 gv:(bkR av cv v).v.ownBlock≠some g
 gm:(inR am cm m).v.ownBlock≠some g
 gy:∀y∈zs,(Si y).v.ownBlock≠some g/\(Sj y).v.ownBlock≠some g
 gs:kQ<=g/\g<W.heap.size
 k:∀o,W.cell? ⟨g,o,none⟩=(#[.slice az zs.length cz,.slice am m.length cm,.int .i64 (aC:Int),.slice none 0 0,.slice av v.length cv]:Array Value)[o]?
 fz:∀o,W.frozen? ⟨g,o,none⟩=false
section
variable {W W' W1:World}{kQ g:Nat}{zs:List Zc}{az:Option Addr}{cz:Nat}{am:Option Addr}{cm:Nat}{m:List Nat}{av:Option Addr}{cv:Nat}{v:List Bk}{aC:Nat}
theorem CZ.below (h:CZ W kQ g zs az cz am cm m av cv v aC)(hb:Below W.heap.size W W'):CZ W' kQ g zs az cz am cm m av cv v aC:=
 ⟨own_below h.oz hb (Nat.le_refl _),own_below h.ov hb (Nat.le_refl _),own_below h.om hb (Nat.le_refl _),fun y hy=>⟨own_below (h.rd y hy).1 hb (Nat.le_refl _),own_below (h.rd y hy).2 hb (Nat.le_refl _)⟩,h.zv,h.zm,h.zy,h.vm,h.vy,h.gz,h.gv,h.gm,h.gy,⟨h.gs.1,gI h.gs.2 hb.size⟩,aB h.k h.gs.2 hb,aH h.fz h.gs.2 hb⟩
theorem CZ.add (h:CZ W kQ g zs az cz am cm m av cv v aC)(hb:Below W.heap.size W W1){z':Zn}{a1 a2:Option Addr}{n1 n2 c1 c2:Nat}(hz:gY W1 W.heap.size a1 a2 n1 n2 c1 c2 z'){g6 cap6:Nat}
 (ho:W'.ownsRow kQ 102 4 (.slice (some ⟨g6,0,none⟩) (zs.length+1) cap6) (zs.length+1) (flat mF (zs++[⟨z',a1,a2,n1,n2,c1,c2⟩]))) (hg:W1.grownBy W' (Value.slice az zs.length cz).ownBlock) (hl:(Value.slice az zs.length cz).ownBlock=some g6∨g6=W1.heap.size):
 CZ (W'.setCell ⟨g,0,none⟩ (.slice (some ⟨g6,0,none⟩) (zs.length+1) cap6)) kQ g (zs++[⟨z',a1,a2,n1,n2,c1,c2⟩]) (some ⟨g6,0,none⟩) cap6 am cm m av cv v aC:=by
 have h1:=h.below hb;have hbs:kQ<=W.heap.size:=by have:=h.gs;omega
 have hzo:(Jk az cz zs).v.ownBlock=(Value.slice az zs.length cz).ownBlock:=rfl;have ZJ:∀k,(Value.slice az zs.length cz).ownBlock=some k->k<W.heap.size:=fun k hk=>(h.oz.lt k (by rw[hzo];exact hk)).2
 -- the row's new block is none of the others'
 have hnb:∀(r:Rs),(Jk az cz zs).off r->(∀k,r.v.ownBlock=some k->k<W1.heap.size)->r.v.ownBlock≠some g6:=fun r hoff hlt e=>by
  rcases hl with h2 | h2
  ·exact hoff g6 h2 e
  ·have:=hlt g6 e;omega
 have hzl:(Si ⟨z',a1,a2,n1,n2,c1,c2⟩).on W1 W.heap.size:=hz.o1;have hzy:(Sj ⟨z',a1,a2,n1,n2,c1,c2⟩).on W1 W.heap.size:=hz.o2;have hge:∀(r:Rs),r.on W1 W.heap.size->∀k,r.v.ownBlock=some k->W.heap.size<=k/\k<W1.heap.size:=fun r hr k hk=>hr.lt k hk
 have aCO:(Jk az cz zs).off (Si ⟨z',a1,a2,n1,n2,c1,c2⟩):=fun k h2 h3=>by have:=ZJ k h2;have:=(hge _ hzl k h3).1;omega
 have aCP:(Jk az cz zs).off (Sj ⟨z',a1,a2,n1,n2,c1,c2⟩):=fun k h2 h3=>by have:=ZJ k h2;have:=(hge _ hzy k h3).1;omega
 have aCQ:g6≠g:=fun e=>by
  rcases hl with h2 | h2
  ·exact h.gz (by rw[hzo,h2,e])
  ·have:=h1.gs.2;omega
 have hgw:(Value.slice az zs.length cz).ownBlock≠some g:=h.gz
 -- a row that is kept: own at W1, apart from the aFD row and from g
 have keep:∀(r:Rs) (b:Nat),r.on W1 b->(Jk az cz zs).off r->r.v.ownBlock≠some g->r.on (W'.setCell ⟨g,0,none⟩ (.slice (some ⟨g6,0,none⟩) (zs.length+1) cap6)) b:=fun r b hr hoff hne=>
  bI (iW hr hg (fun k hk e=>hoff k e hk)) hne _
 have hne2:∀(r:Rs),r.on W1 W.heap.size->r.v.ownBlock≠some g:=fun r hr e=>by have:=(hge r hr g e).1;have:=h.gs.2;omega
 have hlen:(zs++[(⟨z',a1,a2,n1,n2,c1,c2⟩:Zc)]).length=zs.length+1:=by simp
 have hv:(Jk (some ⟨g6,0,none⟩) cap6 (zs++[⟨z',a1,a2,n1,n2,c1,c2⟩])).v= .slice (some ⟨g6,0,none⟩) (zs.length+1) cap6:=by unfold Jk;simp only[hlen]
 have hvo:(Jk (some ⟨g6,0,none⟩) cap6 (zs++[⟨z',a1,a2,n1,n2,c1,c2⟩])).v.ownBlock=some g6:=by rw[hv];rfl
 have FU:∀(r:Rs),r.v.ownBlock≠some g6->(Jk (some ⟨g6,0,none⟩) cap6 (zs++[⟨z',a1,a2,n1,n2,c1,c2⟩])).off r:=fun r hr k h2 h3=>by
  rw[hvo]at h2;obtain rfl:=gP h2;exact hr h3
 have lt1:∀(r:Rs) (b:Nat),r.on W1 b->∀k,r.v.ownBlock=some k->k<W1.heap.size:=fun r b hr k hk=>(hr.lt k hk).2
 have hmem:∀y∈zs++[(⟨z',a1,a2,n1,n2,c1,c2⟩:Zc)],y∈zs∨y=⟨z',a1,a2,n1,n2,c1,c2⟩:=fun y hy=>by simpa using hy
 refine⟨?_,keep _ _ h1.ov h.zv h.gv,keep _ _ h1.om h.zm h.gm,fun y hy=> ?_,FU _ (hnb _ h.zv (lt1 _ _ h1.ov)),FU _ (hnb _ h.zm (lt1 _ _ h1.om)),fun y hy=> ?_,h.vm,fun y hy=> ?_,by rw[hvo];exact fun e=>aCQ (gP e),h.gv,h.gm,fun y hy=> ?_,⟨h.gs.1,by simpa using gI h1.gs.2 hg.size⟩,?_,aG (bU h1.fz h1.gs.2 hg (fun e=>hgw e.symm)) _ _⟩
 ·have h2:=bI ho (b:=g) (i:=0) (by intro e;exact aCQ (by simpa[Value.ownBlock]using e)) (.slice (some ⟨g6,0,none⟩) (zs.length+1) cap6);unfold Rs.on Jk;simp only[hlen];exact h2
 ·rcases hmem y hy with h2 | rfl
  ·exact⟨keep _ _ (h1.rd y h2).1 (h.zy y h2).1 (h.gy y h2).1,keep _ _ (h1.rd y h2).2 (h.zy y h2).2 (h.gy y h2).2⟩
  ·exact⟨own_base (keep _ _ hzl aCO (hne2 _ hzl)) hbs,own_base (keep _ _ hzy aCP (hne2 _ hzy)) hbs⟩
 ·rcases hmem y hy with h2 | rfl
  ·exact⟨FU _ (hnb _ (h.zy y h2).1 (lt1 _ _ (h1.rd y h2).1)),FU _ (hnb _ (h.zy y h2).2 (lt1 _ _ (h1.rd y h2).2))⟩
  ·exact⟨FU _ (hnb _ aCO (lt1 _ _ hzl)),FU _ (hnb _ aCP (lt1 _ _ hzy))⟩
 ·rcases hmem y hy with h2 | rfl
  ·exact h.vy y h2
  ·exact⟨fun k h3 h4=>by have:=(h.ov.lt k h3).2;have:=(hge _ hzl k h4).1;omega,fun k h3 h4=>by have:=(h.ov.lt k h3).2;have:=(hge _ hzy k h4).1;omega⟩
 ·rcases hmem y hy with h2 | rfl
  ·exact h.gy y h2
  ·exact⟨hne2 _ hzl,hne2 _ hzy⟩
 ·have h2:=aI (bT h1.k h1.gs.2 hg (fun e=>hgw e.symm)) 0 (.slice (some ⟨g6,0,none⟩) (zs.length+1) cap6);rw[hlen];exact h2
theorem CZ.done {y0 y1:Zc}{m0 m1:Nat}(h:CZ W kQ g [y0,y1] az cz am cm [m0,m1] av cv v aC){X:Nat->Prop}(hX:∀k,X k->k<kQ):
 HS W g X ⟨y0.z,y1.z,m0,m1,aC,[],v⟩ ⟨az,cz,am,cm,none,0,av,cv,y0,y1,[]⟩:=by
 have m0:y0∈[y0,y1]:=by simp
 have m1:y1∈[y0,y1]:=by simp
 have hl:(qM ⟨az,cz,am,cm,none,0,av,cv,y0,y1,[]⟩).v.ownBlock=none:=rfl;have base0:∀(r:Rs),r.on W kQ->r.on W 0:=fun r hr=>own_base hr (Nat.zero_le _)
 refine⟨⟨⟨fun r hr=> ?_,?_⟩,fun r hr=> ?_,fun r hr s hs=> ?_,fun r hr k hk=> ?_,fun r hr=> ?_,fun r hr k hk hx=> ?_,h.gs.2,fun e=>by have:=hX _ e;have:=h.gs.1;omega,fun k hk=>by have:=hX k hk;have:=h.gs;omega,rfl,rfl,rfl⟩,h.k,h.fz⟩
 ·simp only[Hc.rows,List.map_nil,List.mem_cons,List.not_mem_nil,or_false]at hr;rcases hr with rfl | rfl | rfl
  ·exact base0 _ h.oz
  ·exact⟨rfl,.inl ⟨rfl,rfl⟩⟩
  ·exact base0 _ h.ov
 ·unfold Hc.rows;refine List.pairwise_cons.2 ⟨fun r hr=> ?_,List.pairwise_cons.2 ⟨fun r hr k h2=>(by rw[hl]at h2;cases h2),List.pairwise_cons.2 ⟨fun r hr=>(by simp at hr),List.Pairwise.nil⟩⟩⟩;simp only[List.map_nil,List.mem_cons,List.not_mem_nil,or_false]at hr;rcases hr with rfl | rfl
  ·exact fun k _ h3=>by rw[hl]at h3;cases h3
  ·exact h.zv
 ·simp only[Hc.reads,List.mem_cons,List.not_mem_nil,or_false]at hr;rcases hr with rfl | rfl | rfl | rfl | rfl
  ·exact base0 _ h.om
  ·exact base0 _ (h.rd y0 m0).1
  ·exact base0 _ (h.rd y0 m0).2
  ·exact base0 _ (h.rd y1 m1).1
  ·exact base0 _ (h.rd y1 m1).2
 ·simp only[Hc.reads,List.mem_cons,List.not_mem_nil,or_false]at hr;simp only[Hc.rows,List.map_nil,List.mem_cons,List.not_mem_nil,or_false]at hs;rcases hs with rfl | rfl | rfl
  ·rcases hr with rfl | rfl | rfl | rfl | rfl
   ·exact h.zm.symm
   ·exact(h.zy y0 m0).1.symm
   ·exact(h.zy y0 m0).2.symm
   ·exact(h.zy y1 m1).1.symm
   ·exact(h.zy y1 m1).2.symm
  ·exact fun k _ h3=>by rw[hl]at h3;cases h3
  ·rcases hr with rfl | rfl | rfl | rfl | rfl
   ·exact h.vm.symm
   ·exact(h.vy y0 m0).1.symm
   ·exact(h.vy y0 m0).2.symm
   ·exact(h.vy y1 m1).1.symm
   ·exact(h.vy y1 m1).2.symm
 ·simp only[Hc.rows,List.map_nil,List.mem_cons,List.not_mem_nil,or_false]at hr;rcases hr with rfl | rfl | rfl
  ·exact⟨fun e=>h.gz (by rw[<- e];exact hk),fun e=>by have:=hX k e;have:=(h.oz.lt k hk).1;omega⟩
  ·rw[hl]at hk;cases hk
  ·exact⟨fun e=>h.gv (by rw[<- e];exact hk),fun e=>by have:=hX k e;have:=(h.ov.lt k hk).1;omega⟩
 ·simp only[Hc.reads,List.mem_cons,List.not_mem_nil,or_false]at hr;rcases hr with rfl | rfl | rfl | rfl | rfl
  ·exact h.gm
  ·exact(h.gy y0 m0).1
  ·exact(h.gy y0 m0).2
  ·exact(h.gy y1 m1).1
  ·exact(h.gy y1 m1).2
 ·have h5:=hX k hx;simp only[Hc.reads,List.mem_cons,List.not_mem_nil,or_false]at hr;rcases hr with rfl | rfl | rfl | rfl | rfl
  ·have:=(h.om.lt k hk).1;omega
  ·have:=((h.rd y0 m0).1.lt k hk).1;omega
  ·have:=((h.rd y0 m0).2.lt k hk).1;omega
  ·have:=((h.rd y1 m1).1.lt k hk).1;omega
  ·have:=((h.rd y1 m1).2.lt k hk).1;omega
end
end
section
open Go.RowKit
def put5 (W:World)(b:Nat)(u0 u1 u2 u3 u4:Value):World:=((((W.setCell ⟨b,0,none⟩ u0).setCell ⟨b,1,none⟩ u1).setCell ⟨b,2,none⟩ u2).setCell ⟨b,3,none⟩ u3).setCell ⟨b,4,none⟩ u4
theorem HS.move {W:World}{g B:Nat}{X:Nat->Prop}{h:Hp}{c:Hc}(hs:HS W g X h c)(hB:X B){a0 a1 a2 a3 a4:Value}(hk:∀o,W.cell? ⟨B,o,none⟩=(#[a0,a1,a2,a3,a4]:Array Value)[o]?)(hf:∀o,W.frozen? ⟨B,o,none⟩=false):
 HS (put5 W B (.slice c.az 2 c.cz) (.slice c.am 2 c.cm) (.int .i64 (h.aC:Int)) (.slice c.al c.lc.length c.cl) (.slice c.av h.live.length c.cv)) B (fun k=>X k/\k≠B) h c:=by
 have h1:=((((hs.far hB 0 (.slice c.az 2 c.cz)).far hB 1 (.slice c.am 2 c.cm)).far hB 2 (.int .i64 (h.aC:Int))).far hB 3 (.slice c.al c.lc.length c.cl)).far hB 4 (.slice c.av h.live.length c.cv);have h2:=aI (aI (aI (aI (aI hk 0 (.slice c.az 2 c.cz)) 1 (.slice c.am 2 c.cm)) 2 (.int .i64 (h.aC:Int))) 3 (.slice c.al c.lc.length c.cl)) 4 (.slice c.av h.live.length c.cv);refine⟨⟨h1.r.own,h1.r.ro,h1.r.ds,fun r hr k hk'=>⟨fun e=>(h1.r.og r hr k hk').2 (by rw[e];exact hB),fun e=>(h1.r.og r hr k hk').2 e.1⟩,fun r hr e=>h1.r.rx r hr B e hB,fun r hr k hk' e=>h1.r.rx r hr k hk' e.1,h1.r.xs B hB,fun e=>e.2 rfl,fun k hk'=>h1.r.xs k hk'.1,h1.r.e0,h1.r.e1,h1.r.ll⟩,h2,aG (aG (aG (aG (aG hf _ _) _ _) _ _) _ _) _ _⟩
end
section
open Go.RowKit
def kU (W:World)(B:Nat)(h:Hp)(c:Hc):Prop:=HR W B (fun k=>k<B) h c
theorem kU.at {W:World}{B:Nat}{h:Hp}{c:Hc}(hs:kU W B h c):HAt W c.az c.am c.al c.av c.lc.length h.live.length c.y0 c.y1 c.lc h:=HR.at hs
theorem ret5 {W0 W4 W:World}{B b G:Nat}{X:Nat->Prop}{h:Hp}{c:Hc}{a0 a1 a2 a3 a4:Value}(hb:Below B W0 W4)(sf:Safe X W4 W)(hs:HS W G X h c)(K2:∀o,W4.cell? ⟨b,o,none⟩=(#[a0,a1,a2,a3,a4]:Array Value)[o]?)(F2:∀o,W4.frozen? ⟨b,o,none⟩=false)(hsz:b<W4.heap.size)(hX:X b)(hXB:∀k,k<B->X k)(hB:B<=W4.heap.size)(hbB:B<=b)(u0 u1 u2 u3 u4:Value):
 (W.cell? ⟨b,0,none⟩=some a0/\W.cell? ⟨b,1,none⟩=some a1/\W.cell? ⟨b,2,none⟩=some a2/\W.cell? ⟨b,3,none⟩=some a3/\W.cell? ⟨b,4,none⟩=some a4)/\
 (W.frozen? ⟨b,0,none⟩=false/\W.frozen? ⟨b,1,none⟩=false/\W.frozen? ⟨b,2,none⟩=false/\W.frozen? ⟨b,3,none⟩=false/\W.frozen? ⟨b,4,none⟩=false)/\
 HS (put5 W b u0 u1 u2 u3 u4) G X h c/\Below B W0 (put5 W b u0 u1 u2 u3 u4)/\∀o,(put5 W b u0 u1 u2 u3 u4).cell? ⟨b,o,none⟩=(#[u0,u1,u2,u3,u4]:Array Value)[o]? :=by
 have K:=sf.box K2 hsz hX;have F:=sf.XC F2 hsz hX;exact⟨⟨K 0,K 1,K 2,K 3,K 4⟩,⟨F 0,F 1,F 2,F 3,F 4⟩,((((hs.far hX 0 u0).far hX 1 u1).far hX 2 u2).far hX 3 u3).far hX 4 u4,Below.setCell (Below.setCell (Below.setCell (Below.setCell (Below.setCell (Safe.after hb sf hXB hB) hbB u0) hbB u1) hbB u2) hbB u3) hbB u4,aI (aI (aI (aI (aI K 0 u0) 1 u1) 2 u2) 3 u3) 4 u4⟩
end
section
open Go.RowKit
def sK (f:Nat->Bool)(b:Bool):Array Value:=(((List.range 256).map fun p=>Value.bool (f p))++[Value.bool b]).toArray
theorem zT (f:Nat->Bool)(b:Bool):(sK f b).size=257:=by simp[sK]
theorem CY (f:Nat->Bool)(b:Bool)(p:Nat)(h:p<256):(sK f b)[p]? =some (.bool (f p)):=by
 unfold sK;rw[gB,List.getElem?_append_left (by simpa using h),List.getElem?_map,List.getElem?_range h];rfl
theorem yM (f:Nat->Bool)(b:Bool):(sK f b)[256]? =some (.bool b):=by
 unfold sK;rw[gB,List.getElem?_append_right (by simp)];simp
theorem Vw (f g:Nat->Bool)(b:Bool)(q:Nat)(hq:q<256)(v:Bool)(hv:g q=v)(h:∀p,p<256->p≠q->g p=f p):(sK f b).setIfInBounds q (.bool v)=sK g b:=by
 apply Array.ext_getElem?;intro i;rw[Array.getElem?_setIfInBounds];by_cases hi:i<256
 ·rw[CY g b i hi];by_cases hiq:q=i
  ·subst hiq;rw[if_pos rfl,if_pos (by rw[zT];omega),hv]
  ·rw[if_neg hiq,CY f b i hi,h i hi (fun e=>hiq e.symm)]
 ·by_cases hi6:i=256
  ·subst hi6;rw[if_neg (by omega),yM,yM]
  ·rw[Array.getElem?_eq_none (show(sK g b).size<=i by rw[zT];omega),if_neg (by omega),Array.getElem?_eq_none (show(sK f b).size<=i by rw[zT];omega)]
theorem OC {f g:Nat->Bool}{b:Bool}(h:∀p,p<256->f p=g p):sK f b=sK g b:=by
 unfold sK;congr 1;congr 1;exact List.map_congr_left fun p hp=>by rw[h p (List.mem_range.1 hp)]
def marked (f:Nat->Bool)(a q p:Nat):Bool:=f p||decide (a<=p/\p<q)
theorem OD (f:Nat->Bool)(a p:Nat):marked f a a p=f p:=by unfold marked;rw[decide_eq_false (by omega),Bool.or_false]
theorem Sz (f:Nat->Bool)(a q:Nat):marked f a q q=f q:=by unfold marked;rw[decide_eq_false (by omega),Bool.or_false]
theorem Kw (f:Nat->Bool)(a q:Nat)(h:a<=q)(hq:q<256)(b:Bool):(sK (marked f a q) b).setIfInBounds q (.bool true)=sK (marked f a (q+1)) b:=by
 refine Vw _ _ b q hq true ?_ fun p hp hne=> ?_
 ·unfold marked;rw[decide_eq_true (by omega),Bool.or_true]
 ·unfold marked;congr 1;exact decide_eq_decide.2 (by omega)
structure zU (W:World)(G:Nat)(f:Nat->Bool)(b:Bool):Prop where
 k:∀o,W.cell? ⟨G,o,none⟩=(sK f b)[o]?
 fz:∀o,W.frozen? ⟨G,o,none⟩=false
 hi:G<W.heap.size
theorem zU.below {W W':World}{G:Nat}{f:Nat->Bool}{b:Bool}(h:zU W G f b)(hb:Below W.heap.size W W'):zU W' G f b:=⟨aB h.k h.hi hb,aH h.fz h.hi hb,gI h.hi hb.size⟩
theorem zU.mark {W:World}{G:Nat}{f g:Nat->Bool}{b:Bool}(h:zU W G f b)(q:Nat)(v:Bool)(he:(sK f b).setIfInBounds q (.bool v)=sK g b):zU (W.setCell ⟨G,q,none⟩ (.bool v)) G g b:=⟨he▸aI h.k q _,aG h.fz _ _,by simpa using h.hi⟩
theorem zU.congr {W:World}{G:Nat}{f g:Nat->Bool}{b:Bool}(h:zU W G f b)(hfg:∀p,p<256->f p=g p):zU W G g b:=⟨by rw[<- OC hfg];exact h.k,h.fz,h.hi⟩
set_option maxHeartbeats 4000000 in
set_option maxRecDepth 100000 in
theorem Yk (G a n:Nat)(f:Nat->Bool)(b:Bool)(w:World)(hm:zU w G f b)(hn:a+n<=256)(h1:a<256)(hf:∀p,a<=p->p<a+n->f p=false):
 Calls Tryz.prog 128 #[.pointer (some ⟨G,0,none⟩),.int .i64 a,.int .i64 n] w fun ev w'=>ev= .returned (.tuple #[])/\zU w' G (marked f a (a+n)) b/\Safe (fun k=>k≠G) w w':=by
 have d1:decide ((256:Int)<=a)=false:=decide_eq_false (by omega);have d2:decide (256<=a)=false:=decide_eq_false (by omega);have d3:decide ((256:Int)-a<n)=false:=decide_eq_false (by omega);have HM:=gO hm;clear hm;go_enter Tryz.func128,Tryz.ntmps128
 go_wp2
 go_loopw [6] (fun s6 wr=>∃q:Nat,a<=q/\q<=a+n/\s6= .int .i64 (q:Int)/\Hid (zU wr G (marked f a q) b)/\Hid (Safe (fun k=>k≠G) w wr)) (fun s6 _=>a+n-(intOf s6).toNat)
 case atStart=>exact⟨a,Nat.le_refl _,by omega,rfl,HM.out.congr (fun p _=>(OD f a p).symm),Safe.refl _ _⟩
 case round=>
  obtain⟨q,hq1,hq2,rfl,HK,HB⟩:=hrel;clear HM;have hHi:=HK.out.hi;by_cases hlt:q<a+n
  ·have hlt2:(q:Int)<a+n:=by omega
   have aIm:(q:Int)<256:=by omega
   have Vx:q<256:=by omega
   have hcell:=(HK.out.k q).trans (CY _ b q Vx);rw[Sz,hf q hq1 hlt]at hcell;have hfz:=HK.out.fz q;have HK2:=gO (HK.out.mark q true (Kw f a q hq1 Vx b));have HB2:=gO (HB.out.set (g:=G) (fun e=>e rfl) q (.bool true));go_wp2
   go_roundw
   case rel=>exact⟨q+1,by omega,by omega,by go_num,HK2,HB2⟩
   case measure=>simp[intOf];omega
  ·obtain rfl:q=a+n:=by omega
   have d4:¬((a:Int)+n<a+n):=by omega
   go_wp2
   refine bodyPost_end (v:= .tuple #[]) (by simp[results,Tryz.results128,go_sem]) rfl ⟨rfl,HK.out,HB.out⟩
end
section
open Go.RowKit
def ED (done:List Bk)(p:Nat):Bool:=decide (0<cnt done p)
theorem Vy (done:List Bk)(b:Bk)(p:Nat):marked (ED done) b.a b.fin p=ED (done++[b]) p:=by
 unfold marked ED;rw[bP];have h1:cnt [b] p=hit b p:=by simp[cnt]
 rw[h1];unfold hit;by_cases h:b.a<=p/\p<b.fin
 ·rw[if_pos h,decide_eq_true h,Bool.or_true,decide_eq_true (by omega)]
 ·rw[if_neg h,decide_eq_false h,Bool.or_false,Nat.add_zero]
theorem Dc (G:Nat)(b:Bk)(done:List Bk)(w:World)(hm:zU w G (ED done) false)(h1:∀p,cnt (done++[b]) p<=1)(hb:b.fin<=256)(v:Int)(hv:v=((2^b.o:Nat):Int)):
 Calls Tryz.prog 128 #[.pointer (some ⟨G,0,none⟩),.int .i64 b.a,.int .i64 v] w fun ev w'=>ev= .returned (.tuple #[])/\zU w' G (ED (done++[b])) false/\Safe (fun k=>k≠G) w w':=by
 subst hv;have hpo:=dR b.o;have hfin:b.fin=b.a+2^b.o:=rfl;refine(Yk G b.a (2^b.o) (ED done) false w hm (by omega) (by omega) (fun p h2 h3=> ?_)).mono fun ev w' h=>⟨h.1,h.2.1.congr fun p _=>by rw[<- hfin];exact Vy done b p,h.2.2⟩
 have h4:=h1 p;rw[bP]at h4;have h5:cnt [b] p=1:=by
  simp only[cnt,Nat.add_zero];exact jI.2 ⟨h2,h3⟩
 unfold ED;exact decide_eq_false (by omega)
end
section
def Rg.lo (r:Rg)(split:Nat):Nat:=min (r.f.toNat+r.s.toNat) split-r.f.toNat
def newStep (split:Nat)(z:Zn×Zn)(r:Rg):Zn×Zn:=(dW z.1 r.f.toNat (r.lo split),dW z.2 (r.f.toNat+r.lo split) (r.s.toNat-r.lo split))
def fD (split:Nat)(l:List Rg):Zn×Zn:=l.foldl (newStep split) (⟨0,split,[],List.replicate (split/8) 1⟩,⟨split,256,[],List.replicate ((256-split)/8) 1⟩)
def newH (l:List Rg)(split least aC:Nat):Hp:=⟨(fD split l).1,(fD split l).2,least,least,aC,[],[]⟩
theorem DX:∀(l:List Rg) (q:Option Rg),dD q l=true->l.Pairwise fun a b=>a.f+a.s<b.f
 | [],_,_=>List.Pairwise.nil
 | r::l,q,h=>by
  simp only[dD,Bool.and_eq_true]at h;exact List.Pairwise.cons (sU l r h.2) (DX l _ h.2)
structure IV (split:Nat)(l:List Rg)(z:Zn×Zn):Prop where
 o0:z.1.ok
 o1:z.2.ok
 f0:z.1.f=0
 e0:z.1.e=split
 f1:z.2.f=split
 e1:z.2.e=256
 c0:∀q,fG z.1.l q↔(q<split/\dA l q=true)
 c1:∀q,fG z.2.l q↔(split<=q/\dA l q=true)
theorem MB {f e:Nat}(h1:f<=e)(h2:e<=256)(h3:f%16=0)(h4:e%16=0):(⟨f,e,[],List.replicate ((e-f)/8) 1⟩:Zn).ok:=
 ⟨(XQ _ _ _).2 ⟨h1,h2,h3,h4,by simp,fun t ht=>by rw[(List.mem_replicate.1 ht).2];omega⟩,(XP _ _ _).2 ⟨by simp,List.Pairwise.nil,by simp⟩⟩
theorem PD {split:Nat}(h1:split<=256)(h2:split%16=0):IV split [] (⟨0,split,[],List.replicate (split/8) 1⟩,⟨split,256,[],List.replicate ((256-split)/8) 1⟩):=
 ⟨MB (Nat.zero_le _) h1 rfl h2,MB h1 (Nat.le_refl _) h2 rfl,rfl,rfl,rfl,rfl,fun q=>by simp[fG,dA],fun q=>by simp[fG,dA]⟩
structure QM (split:Nat)(l:List Rg)(r:Rg)(z:Zn×Zn):Prop where
 f:r.f=(r.f.toNat:Int)
 s:r.s=(r.s.toNat:Int)
 fs:r.f.toNat+r.s.toNat<=256
 s1:1<=r.s.toNat
 lo:r.lo split<=r.s.toNat
 le:0<r.lo split->r.f.toNat+r.lo split<=split
 hi:r.lo split<r.s.toNat->split<=r.f.toNat+r.lo split
 d0:∀q,r.f.toNat<=q->q<r.f.toNat+r.lo split->¬fG z.1.l q
 d1:∀q,r.f.toNat+r.lo split<=q->q<r.f.toNat+r.lo split+(r.s.toNat-r.lo split)->¬fG z.2.l q
 next:IV split (l++[r]) (newStep split z r)
theorem Bh {split:Nat}{l:List Rg}{r:Rg}{z:Zn×Zn}(h:IV split l z)(hck:xH r=true)(hlt:∀x∈l,x.f+x.s<r.f)(hsp:split<=256):QM split l r z:=by
 have hc:=kV hck;have hf:r.f=(r.f.toNat:Int):=by omega
 have hs:r.s=(r.s.toNat:Int):=by omega
 obtain⟨F,hF⟩:∃F,r.f.toNat=F:=⟨_,rfl⟩
 obtain⟨S,hS⟩:∃S,r.s.toNat=S:=⟨_,rfl⟩
 have hno:∀q,F<=q->dA l q=false:=fun q hq=>by
  rw[Bool.eq_false_iff];intro hi;obtain⟨x,hx,h1,h2⟩:=(kD l q).1 hi;have:=hlt x hx;omega
 have hone:∀q,dA (l++[r]) q=true↔(dA l q=true∨(F<=q/\q<F+S)):=fun q=>by
  rw[vG,yS,Bool.or_eq_true];unfold pV;rw[decide_eq_true_eq];refine or_congr Iff.rfl ⟨fun h=> ?_,fun h=> ?_⟩ <;> omega
 have hlo:r.lo split=min (F+S) split-F:=by unfold Rg.lo;rw[hF,hS]
 have d0:∀q,F<=q->q<F+r.lo split->¬fG z.1.l q:=fun q h1 h2 hc=>by
  have:=((h.c0 q).1 hc).2;rw[hno q h1]at this;cases this
 have d1:∀q,F+r.lo split<=q->q<F+r.lo split+(S-r.lo split)->¬fG z.2.l q:=fun q h1 h2 hc=>by
  have:=((h.c1 q).1 hc).2;rw[hno q (by omega)]at this;cases this
 rw[<- hF]at d0 d1;rw[<- hS]at d1;have g0:(dW z.1 F (r.lo split)).ok/\(dW z.1 F (r.lo split)).f=z.1.f/\(dW z.1 F (r.lo split)).e=z.1.e/\∀q,fG (dW z.1 F (r.lo split)).l q↔(fG z.1.l q∨(F<=q/\q<F+r.lo split)):=by
  by_cases h0:r.lo split=0
  ·rw[h0];refine⟨h.o0,rfl,rfl,fun q=>⟨.inl,?_⟩⟩;rintro(h1 | h1)
   ·exact h1
   ·omega
  ·rw[hF]at d0;exact nM h.o0 d0 (by rw[h.f0];exact Nat.zero_le _) (by rw[h.e0];omega) _ (Nat.le_refl _)
 have g1:(dW z.2 (F+r.lo split) (S-r.lo split)).ok/\(dW z.2 (F+r.lo split) (S-r.lo split)).f=z.2.f/\(dW z.2 (F+r.lo split) (S-r.lo split)).e=z.2.e/\∀q,fG (dW z.2 (F+r.lo split) (S-r.lo split)).l q↔(fG z.2.l q∨(F+r.lo split<=q/\q<F+r.lo split+(S-r.lo split))):=by
  by_cases h0:S-r.lo split=0
  ·rw[h0];refine⟨h.o1,rfl,rfl,fun q=>⟨.inl,?_⟩⟩;rintro(h1 | h1)
   ·exact h1
   ·omega
  ·rw[hF,hS]at d1;exact nM h.o1 d1 (by rw[h.f1];omega) (by rw[h.e1];omega) _ (Nat.le_refl _)
 refine⟨hf,hs,by omega,by omega,by omega,by omega,by omega,d0,d1,?_⟩;unfold newStep;rw[hF,hS];refine⟨g0.1,g1.1,by rw[g0.2.1];exact h.f0,by rw[g0.2.2.1];exact h.e0,by rw[g1.2.1];exact h.f1,by rw[g1.2.2.1];exact h.e1,fun q=> ?_,fun q=> ?_⟩
 ·simp only;rw[g0.2.2.2,h.c0,hone];constructor
  ·rintro(⟨h1,h2⟩ | h1)
   ·exact⟨h1,.inl h2⟩
   ·exact⟨by omega,.inr (by omega)⟩
  ·rintro⟨h1,h2 | h2⟩
   ·exact .inl ⟨h1,h2⟩
   ·exact .inr (by omega)
 ·simp only;rw[g1.2.2.2,h.c1,hone];constructor
  ·rintro(⟨h1,h2⟩ | h1)
   ·exact⟨h1,.inl h2⟩
   ·exact⟨by omega,.inr (by omega)⟩
  ·rintro⟨h1,h2 | h2⟩
   ·exact .inl ⟨h1,h2⟩
   ·exact .inr (by omega)
theorem DY (split:Nat)(l:List Rg)(k:Nat)(hk:k<l.length):fD split (l.take (k+1))=newStep split (fD split (l.take k)) l[k]:=by
 unfold fD;rw[List.take_succ_eq_append_getElem hk,List.foldl_append];rfl
theorem pX {split:Nat}{l:List Rg}(hl:dF l=true)(h1:split<=256)(h2:split%16=0):∀k,k<=l.length->IV split (l.take k) (fD split (l.take k))
 | 0,_=>PD h1 h2
 | k+1,hk=>by
  rw[DY split l k hk,List.take_succ_eq_append_getElem hk];refine(Bh (pX hl h1 h2 k (by omega)) (mZ hl _ (gL hk)) (fun x hx=> ?_) h1).next;simp only[dF,Bool.and_eq_true]at hl;obtain⟨j,hj,rfl⟩:=List.mem_take_iff_getElem.1 hx;exact List.pairwise_iff_getElem.1 (DX l none hl.2) _ _ _ hk (by omega)
theorem TJ {split:Nat}{l:List Rg}(hl:dF l=true)(h1:split<=256)(h2:split%16=0){k:Nat}(hk:k<l.length):QM split (l.take k) l[k] (fD split (l.take k)):=by
 refine Bh (pX hl h1 h2 k (by omega)) (mZ hl _ (gL hk)) (fun x hx=> ?_) h1;simp only[dF,Bool.and_eq_true]at hl;obtain⟨j,hj,rfl⟩:=List.mem_take_iff_getElem.1 hx;exact List.pairwise_iff_getElem.1 (DX l none hl.2) _ _ _ hk (by omega)
theorem IW {l:List Rg}(hl:dF l=true){split least aC:Nat}(h1:split<=256)(h2:split%16=0)(h3:least<=256)(h4:1<=aC/\aC<=4):
 dZ (newH l split least aC)/\∀p,cnt (newH l split least aC).all p=if dA l p then 1 else 0:=by
 have hi:=pX hl h1 h2 l.length (Nat.le_refl _);rw[List.take_length]at hi;have hc:∀p,cnt (newH l split least aC).all p=if dA l p then 1 else 0:=fun p=>by
  rw[dI];show cnt (fD split l).1.l p+cnt (fD split l).2.l p+0+0=_;have a0:=mM (mO hi.o0.2.sep) p;have a1:=mM (mO hi.o1.2.sep) p;have b0:=(iL (l:=(fD split l).1.l) (p:=p)).trans (hi.c0 p);have b1:=(iL (l:=(fD split l).2.l) (p:=p)).trans (hi.c1 p);cases hp:dA l p with
  | true=>
   simp only[hp,and_true]at b0 b1;simp only[if_true];omega
  | false=>
   simp only[hp,Bool.false_eq_true,and_false,iff_false]at b0 b1;simp;omega
 refine⟨⟨hi.o0,hi.o1,hi.f0,hi.e0.trans hi.f1.symm,hi.e1,h3,h3,h4,List.Pairwise.nil,by simp[newH],by simp[newH],List.Pairwise.nil,fun p=> ?_⟩,hc⟩;rw[hc];split <;> omega
end
end Go.Proofs.YtcmpmobhongkiaaGreatDoor
