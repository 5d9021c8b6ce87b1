/- joined. -/
import Derived.Test.YtcmpmobhongkiaaGreatDoorRK0
import Derived.Test.YtcmpmobhongkiaaGreatDoorRK11
import Derived.Test.YtcmpmobhongkiaaGreatDoorRK6
import Derived.Test.YtcmpmobhongkiaaGreatDoorRK7
set_option linter.unusedVariables false
set_option linter.unusedSimpArgs false
namespace Go.Proofs.YtcmpmobhongkiaaGreatDoor
section
open Go.RowKit
structure Zc where
 z:Zn
 a1:Option Addr
 a2:Option Addr
 n1:Nat
 n2:Nat
 c1:Nat
 c2:Nat
def mF (r:Zc):List Value:=[vI r.z.f,vI r.z.e,.slice r.a1 r.n1 r.c1,.slice r.a2 r.n2 r.c2]
theorem iF (r:Zc):(mF r).length=4:=rfl
theorem lI {w:World}{b o:Nat}{r:Zc}(hc:∀i v,(mF r)[i]? =some v->w.cell? ⟨b,o+i,none⟩=some v):w.cell? ⟨b,o,none⟩=some (.int .i64 r.z.f)/\w.cell? ⟨b,o+1,none⟩=some (.int .i64 r.z.e)/\w.cell? ⟨b,o+2,none⟩=some (.slice r.a1 r.n1 r.c1)/\w.cell? ⟨b,o+3,none⟩=some (.slice r.a2 r.n2 r.c2):=⟨hc 0 _ rfl,hc 1 _ rfl,hc 2 _ rfl,hc 3 _ rfl⟩
structure Lc where
 l:Ls
 a:Option Addr
 n:Nat
 c:Nat
def bH (r:Lc):List Value:=[vI r.l.c,vI r.l.z,vI r.l.t,.slice r.a r.n r.c]
theorem aP (r:Lc):(bH r).length=4:=rfl
theorem nK {w:World}{b o:Nat}{r:Lc}(hc:∀i v,(bH r)[i]? =some v->w.cell? ⟨b,o+i,none⟩=some v):w.cell? ⟨b,o,none⟩=some (.int .i64 r.l.c)/\w.cell? ⟨b,o+1,none⟩=some (.int .i64 r.l.z)/\w.cell? ⟨b,o+2,none⟩=some (.int .i64 r.l.t)/\w.cell? ⟨b,o+3,none⟩=some (.slice r.a r.n r.c):=⟨hc 0 _ rfl,hc 1 _ rfl,hc 2 _ rfl,hc 3 _ rfl⟩
structure HAt (W:World)(az am al av:Option Addr)(nl nv:Nat)(y0 y1:Zc)(lc:List Lc)(h:Hp):Prop where
 zr:Row W az (flat mF [y0,y1])
 mr:Row W am (flat gV [h.m0,h.m1])
 lr:Row W al (flat bH lc)
 vr:Row W av (flat aO h.live)
 e0:y0.z=h.z0
 e1:y1.z=h.z1
 t0:Hf W y0.a1 y0.a2 y0.n1 y0.n2 h.z0
 t1:Hf W y1.a1 y1.a2 y1.n1 y1.n2 h.z1
 ll:lc.map Lc.l=h.ls
 nl:lc.length=nl
 nv:h.live.length=nv
 pr:∀r∈lc,r.l.p.length=r.n/\Row W r.a (flat gV r.l.p)
theorem HAt.below {W W':World}{az am al av:Option Addr}{nl nv:Nat}{y0 y1:Zc}{lc:List Lc}{h:Hp}(hh:HAt W az am al av nl nv y0 y1 lc h)(hb:Below W.heap.size W W'):HAt W' az am al av nl nv y0 y1 lc h:=
 ⟨hh.zr.below hb,hh.mr.below hb,hh.lr.below hb,hh.vr.below hb,hh.e0,hh.e1,hh.t0.below hb,hh.t1.below hb,hh.ll,hh.nl,hh.nv,fun r hr=>⟨(hh.pr r hr).1,(hh.pr r hr).2.below hb⟩⟩
theorem yG (a b:Ls)(x1 x2:Option Addr)(k1 k2 d1 d2:Nat)(w:World)(ha:a.z<2/\a.t<3)(hb:b.z<2/\b.t<3):
 Calls Tryz.prog 165 #[.agg #[.int .i64 a.c,.int .i64 a.z,.int .i64 a.t,.slice x1 k1 d1],.agg #[.int .i64 b.c,.int .i64 b.z,.int .i64 b.t,.slice x2 k2 d2]] w fun ev w'=>ev= .returned (.bool (decide (a.key<b.key)))/\Below w.heap.size w w':=by
 by_cases hc:a.c=b.c
 ·by_cases hz:a.z=b.z
  ·have g1:((a.c:Int) != (b.c:Int))=false:=by simp[hc]
   have g2:((a.z:Int) != (b.z:Int))=false:=by simp[hz]
   have hk:decide (a.key<b.key)=decide (a.t<b.t):=by
    unfold Ls.key;rw[hc,hz];exact decide_eq_decide.2 (by omega)
   go_enter Tryz.func165,Tryz.ntmps165
   go_wp2
   go_ret
   exact⟨aV hk.symm,Below.step (aF _ _) (aF _ _)⟩
  ·have g1:((a.c:Int) != (b.c:Int))=false:=by simp[hc]
   have g2:((a.z:Int) != (b.z:Int))=true:=by rw[bne_iff_ne];omega
   have hk:decide (a.key<b.key)=decide (a.z<b.z):=by
    unfold Ls.key;rw[hc];exact decide_eq_decide.2 (by omega)
   go_enter Tryz.func165,Tryz.ntmps165
   go_wp2
   go_ret
   exact⟨aV hk.symm,Below.step (aF _ _) (aF _ _)⟩
 ·have g1:((a.c:Int) != (b.c:Int))=true:=by rw[bne_iff_ne];omega
  have hk:decide (a.key<b.key)=decide (a.c<b.c):=by
   unfold Ls.key;exact decide_eq_decide.2 (by omega)
  go_enter Tryz.func165,Tryz.ntmps165
  go_wp2
  go_ret
  exact⟨aV hk.symm,Below.step (aF _ _) (aF _ _)⟩
theorem Ic (az am al av:Option Addr)(cz cm cl cv nl nv:Nat)(y0 y1:Zc)(lc:List Lc)(h:Hp)(p:Nat)(w:World)(hh:HAt w az am al av nl nv y0 y1 lc h):
 Calls Tryz.prog 136 #[.agg #[.slice az 2 cz,.slice am 2 cm,.int .i64 h.aC,.slice al nl cl,.slice av nv cv],.int .i64 p] w fun ev w'=>ev= .returned (.int .i64 (h.iR p:Nat))/\Below w.heap.size w w':=by
 have hb:=aF w (.cells #[.slice az 2 cz,.slice am 2 cm,.int .i64 (h.aC:Int),.slice al nl cl,.slice av nv cv] 44);obtain⟨bb,off,ha1,hbb,hc⟩:=aN iF (by decide) (hh.zr.below hb) (j:=0) (by simp);obtain rfl:=ha1;obtain⟨hc0,hc1,hc2,hc3⟩:=lI hc;have he:=hh.e0;simp only[List.getElem_cons_zero]at hc0 hc1 hc2 hc3;rw[he]at hc0 hc1;unfold Hp.iR;clear hh hc;by_cases hp:p<h.z0.e
 ·have d1:(p:Int)<h.z0.e:=by omega
  rw[if_pos hp];go_enter Tryz.func136,Tryz.ntmps136
  go_wp2
  go_ret
  exact⟨rfl,hb⟩
 ·have d1:¬(p:Int)<h.z0.e:=by omega
  rw[if_neg hp];go_enter Tryz.func136,Tryz.ntmps136
  go_wp2
  go_ret
  exact⟨rfl,hb⟩
def pO (flags:Nat):Nat:=if flags/2%2=1 then 1 else if flags/4%2=1 then 2 else 0
theorem RZ (flags:Nat)(w:World)(h1:flags<=15)(h2:¬(flags/2%2=1/\flags/4%2=1)):
 Calls Tryz.prog 106 #[.int .i64 flags] w fun ev w'=>ev= .returned (.tuple #[.int .i64 (pO flags:Nat),.bool true])/\w=w':=by
 have hall:flags=0∨flags=1∨flags=2∨flags=3∨flags=4∨flags=5∨flags=8∨flags=9∨flags=10∨flags=11∨flags=12∨flags=13:=by omega
 have b2:∀f:Nat,f<=15->bits .and .i64 (f:Int) 2=(if f/2%2=1 then 2 else 0)/\bits .and .i64 (f:Int) 4=(if f/4%2=1 then 4 else 0):=by decide+kernel
 rcases hall with rfl | rfl | rfl | rfl | rfl | rfl | rfl | rfl | rfl | rfl | rfl | rfl;all_goals
  go_enter Tryz.func106,Tryz.ntmps106
  go_wp2
  go_ret2
  exact⟨rfl,rfl⟩
end
end Go.Proofs.YtcmpmobhongkiaaGreatDoor
