/- texts of this claim, joined. -/
import Derived.Test.YtcmpmobhongkiaaGreatDoorCM0
import Derived.Test.YtcmpmobhongkiaaGreatDoorCM17
import Derived.Test.YtcmpmobhongkiaaGreatDoorCM19
import Derived.Test.YtcmpmobhongkiaaGreatDoorCM20
import Derived.Test.YtcmpmobhongkiaaGreatDoorCM38
import Derived.Test.YtcmpmobhongkiaaGreatDoorCM39
import Derived.Test.YtcmpmobhongkiaaGreatDoorCM45
import Derived.Test.YtcmpmobhongkiaaGreatDoorRows
import Derived.WalkKit
import Derived.ProofKit
import Derived.OpenShut
import Derived.Deep.DeepHandedRow
import Derived.Lib.LaidTab
set_option linter.unusedVariables false
set_option linter.unusedSimpArgs false
namespace Go.Proofs.YtcmpmobhongkiaaGreatDoor
section
theorem fC.aBo {s : Sy} (hk : fC s) {i : Nat} {c : Ca} (hi : s.cs[i]? = some c) {ns : List (List UInt8)} (hs : ns.Sublist c.ns) (hne : ns ≠ []) :
  fC (s.dU i { c with ns := ns }) ∧ (∀ j b, (s.dU i { c with ns := ns }).away j b ↔ s.away j b) ∧ (s.dU i { c with ns := ns }).nss = s.nss.set i ns ∧ (∀ b, (s.dU i { c with ns := ns }).whole b ↔ s.whole b) := by
 obtain ⟨hil, hic⟩ := List.getElem?_eq_some_iff.1 hi
 have hcm := gM hi
 have hck := hk.ck c hcm
 have hmv : ∀ d ∈ s.cs, nX (s.dU i { c with ns := ns }) d := fun d hd => (hk.ck d hd).move rfl fun x hx => ⟨((hk.ck d hd).sk x hx).live, ((hk.ck d hd).sk x hx).chain⟩
 refine ⟨⟨hk.wl, hk.hk, by show (s.cs.set i _).length ≤ 20; rw [List.length_set]; exact hk.cl, fun d hd => ?_, xE hk.zd (fun j hj hji => ?_) (fun j hj hij => ?_), xE hk.nd (fun j hj hji m hm hm2 => ?_) (fun j hj hij m hm => ?_), xE hk.pd (fun j hj hji => ?_) (fun j hj hij => ?_)⟩, fun j b => ?_, ?_, fun b => ?_⟩
 ·rcases List.mem_or_eq_of_mem_set hd with h1 | rfl
  ·exact hmv d h1
  ·exact ⟨hck.z, hck.o, hck.r, hne, fun m hm => hck.nm m (hs.subset hm), hck.nr.sublist hs, hck.ac, hck.sr, fun x hx => ⟨(hck.sk x hx).live, (hck.sk x hx).chain⟩, hck.aw, hck.ad⟩
 ·have := List.pairwise_iff_getElem.1 hk.zd j i hj hil hji
  rw [hic] at this
  exact this
 ·have := List.pairwise_iff_getElem.1 hk.zd i j hil hj hij
  rw [hic] at this
  exact this
 ·have := List.pairwise_iff_getElem.1 hk.nd j i hj hil hji m hm
  rw [hic] at this
  exact this (hs.subset hm2)
 ·have := List.pairwise_iff_getElem.1 hk.nd i j hil hj hij m
  rw [hic] at this
  exact this (hs.subset hm)
 ·have := List.pairwise_iff_getElem.1 hk.pd j i hj hil hji
  rw [hic] at this
  exact this
 ·have := List.pairwise_iff_getElem.1 hk.pd i j hil hj hij
  rw [hic] at this
  exact this
 ·have hst := mM (s' := s.dU i { c with ns := ns }) (c' := { c with ns := ns }) hi rfl b
  by_cases hj : j = i
  ·subst hj
   rw [hst.1, kY hi]
   exact Iff.rfl
  ·rw [hst.2 j hj]
   exact Iff.rfl
 ·show (s.cs.set i _).map (·.ns) = (s.cs.map (·.ns)).set i ns
  rw [List.map_set]
 ·rw [lW, lW]
  have h1 := Ig (s' := s.dU i { c with ns := ns }) hi rfl (fun _ => Iff.rfl) b.a
  rw [h1]
  exact Iff.rfl

def YB (h : Hp) (j : Nat) (ns : List (List UInt8)) : Sy := { dY h 6 with cs := (dY h 6).cs.set j ⟨ns, zz j, eY (zz j), dV (zz j), [], List.replicate h.aF (-1)⟩ }
def YC (h : Hp) (z : Nat) (ns : List (List UInt8)) : Sy := { dY h 6 with cs := (dY h 6).cs ++ [⟨ns, z, eY z, dV z, [], List.replicate h.aF (-1)⟩] }
structure Mg (h : Hp) (z : Nat) (s1 s2 : Sy) (i : Nat) (ns ns' : List (List UInt8)) : Prop where
 n0 : (dY h 6).named [120, 97] = none
 c1 : (dY h 6).create [120, 97] z = some s1
 n1 : s1.named [120, 98] = none
 c2 : s1.create [120, 98] z = some s2
 l1 : s1.cs.length = 6 ∨ s1.cs.length = 7
 l2 : s2.cs.length = s1.cs.length
 k1 : fC s1
 k2 : fC s2
 f1 : ∀ c ∈ s1.cs, c.ns.length ≤ 999
 f2 : ∀ c ∈ s2.cs, c.ns.length ≤ 999
 hh : s2.h = h
 i2 : s2.nss[i]? = some ns
 na : s2.nss.findIdx? (fun l => l.contains [120, 97]) = some i
 nb : s2.nss.findIdx? (fun l => l.contains [120, 98]) = some i
 er : ns.eraseIdx (uH ns [120, 97]) = ns'
 ln : 1 < ns.length
 nb' : (s2.nss.set i ns').findIdx? (fun l => l.contains [120, 98]) = some i
 alw : 1 < ns'.length ↔ z ∈ [1, 2, 4, 8, 16, 32]
 ne : ns' ≠ []
theorem nK {s : Sy} {N : Nat} (h : s.nss.all (fun l => decide (l.length ≤ N)) = true) : ∀ c ∈ s.cs, c.ns.length ≤ N := fun c hc => by
 rw [List.all_eq_true] at h
 exact of_decide_eq_true (h c.ns (List.mem_map_of_mem hc))
theorem Ya {h : Hp} (hk : dW h) {j : Nat} (hj : j < 6) : Mg h (zz j) (YB h j [kN (zz j), [120, 97]]) (YB h j [kN (zz j), [120, 97], [120, 98]]) j [kN (zz j), [120, 97], [120, 98]] [kN (zz j), [120, 98]] := by
 have k0 := uF hk 6 (Nat.le_refl _)
 have c1 : (dY h 6).create [120, 97] (zz j) = some (YB h j [kN (zz j), [120, 97]]) := by
  obtain rfl | rfl | rfl | rfl | rfl | rfl : j = 0 ∨ j = 1 ∨ j = 2 ∨ j = 3 ∨ j = 4 ∨ j = 5 := by omega
  all_goals rfl
 have c2 : (YB h j [kN (zz j), [120, 97]]).create [120, 98] (zz j) = some (YB h j [kN (zz j), [120, 97], [120, 98]]) := by
  obtain rfl | rfl | rfl | rfl | rfl | rfl : j = 0 ∨ j = 1 ∨ j = 2 ∨ j = 3 ∨ j = 4 ∨ j = 5 := by omega
  all_goals rfl
 have n1 : (YB h j [kN (zz j), [120, 97]]).named [120, 98] = none := by
  obtain rfl | rfl | rfl | rfl | rfl | rfl : j = 0 ∨ j = 1 ∨ j = 2 ∨ j = 3 ∨ j = 4 ∨ j = 5 := by omega
  all_goals rfl
 have hz : 1 ≤ zz j ∧ zz j ≤ 64 := by
  obtain rfl | rfl | rfl | rfl | rfl | rfl : j = 0 ∨ j = 1 ∨ j = 2 ∨ j = 3 ∨ j = 4 ∨ j = 5 := by omega
  all_goals decide
 have k1 := (k0.create (n := [120, 97]) (by decide) hz (rG h) c1).1
 have k2 := (k1.create (n := [120, 98]) (by decide) hz n1 c2).1
 obtain rfl | rfl | rfl | rfl | rfl | rfl : j = 0 ∨ j = 1 ∨ j = 2 ∨ j = 3 ∨ j = 4 ∨ j = 5 := by omega
 all_goals exact ⟨rG h, c1, n1, c2, .inl rfl, rfl, k1, k2, nK rfl, nK rfl, rfl, rfl, rfl, rfl, rfl, by decide, rfl, by decide, by decide⟩
theorem Yb {h : Hp} (hk : dW h) {z : Nat} (h1 : 1 ≤ z) (h2 : z ≤ 40) (hz : z ∉ [1, 2, 4, 8, 16, 32]) : Mg h z (YC h z [[120, 97]]) (YC h z [[120, 97], [120, 98]]) 6 [[120, 97], [120, 98]] [[120, 98]] := by
 have k0 := uF hk 6 (Nat.le_refl _)
 simp only [List.mem_cons, List.not_mem_nil, or_false, not_or] at hz
 obtain ⟨z1, z2, z3, z4, z5, z6⟩ := hz
 have hz' : z ∉ [1, 2, 4, 8, 16, 32] := by simp only [List.mem_cons, List.not_mem_nil, or_false, not_or]; exact ⟨z1, z2, z3, z4, z5, z6⟩
 have f0 : (dY h 6).cs.findIdx? (fun c => decide (c.z = z)) = none := by
  rw [List.findIdx?_eq_none_iff]
  intro c hc
  unfold dY at hc
  obtain ⟨k, hk', rfl⟩ := List.mem_map.1 hc
  have h3 : k ∈ [1, 2, 4, 8, 16, 32] := hk'
  refine decide_eq_false fun e => hz' ?_
  have e' : k = z := e
  rw [← e']
  exact h3
 have c1 : (dY h 6).create [120, 97] z = some (YC h z [[120, 97]]) := by
  unfold Sy.create
  rw [f0]
  rfl
 have f1 : (YC h z [[120, 97]]).cs.findIdx? (fun c => decide (c.z = z)) = some 6 := by
  show ((dY h 6).cs ++ [_]).findIdx? _ = _
  rw [List.findIdx?_append, f0]
  simp
  rfl
 have c2 : (YC h z [[120, 97]]).create [120, 98] z = some (YC h z [[120, 97], [120, 98]]) := by
  unfold Sy.create
  rw [f1]
  rfl
 have k1 := (k0.create (n := [120, 97]) (by decide) ⟨h1, by omega⟩ (rG h) c1).1
 have k2 := (k1.create (n := [120, 98]) (by decide) ⟨h1, by omega⟩ rfl c2).1
 exact ⟨rG h, c1, rfl, c2, .inr rfl, rfl, k1, k2, nK rfl, nK rfl, rfl, rfl, rfl, rfl, rfl, by decide, rfl, ⟨fun h => by simp at h, fun h => absurd h hz'⟩, by decide⟩
theorem Yc {h : Hp} (hk : dW h) {z : Nat} (h1 : 1 ≤ z) (h2 : z ≤ 40) : ∃ s1 s2 i ns ns', Mg h z s1 s2 i ns ns' := by
 by_cases hz : z ∈ [1, 2, 4, 8, 16, 32]
 ·have : ∃ j, j < 6 ∧ z = zz j := by
   simp only [List.mem_cons, List.not_mem_nil, or_false] at hz
   rcases hz with rfl | rfl | rfl | rfl | rfl | rfl
   ·exact ⟨0, by decide, rfl⟩
   ·exact ⟨1, by decide, rfl⟩
   ·exact ⟨2, by decide, rfl⟩
   ·exact ⟨3, by decide, rfl⟩
   ·exact ⟨4, by decide, rfl⟩
   ·exact ⟨5, by decide, rfl⟩
  obtain ⟨j, hj, rfl⟩ := this
  exact ⟨_, _, _, _, _, Ya hk hj⟩
 ·exact ⟨_, _, _, _, _, Yb hk h1 h2 hz⟩
theorem Mg.take {h : Hp} {z i : Nat} {s1 s2 t : Sy} {ns ns' : List (List UInt8)} (m : Mg h z s1 s2 i ns ns') {a : Int} (ho : s2.one i 0 = some (t, a)) :
  fC t ∧ (∀ c ∈ t.cs, c.ns.length ≤ 999) ∧ t.named [120, 97] = some i ∧ t.named [120, 98] = some i ∧ t.h.aF = h.aF ∧
  (∃ (c : Ca) (k : Nat) (x : Sl), t.cs[i]? = some c ∧ c.sl[k]? = some x ∧ lG t.w c x a ∧ 0 ≤ a) ∧
  ∃ t1, t.destroy i [120, 97] = some t1 ∧ fC t1 ∧ (∀ c ∈ t1.cs, c.ns.length ≤ 999) ∧ t1.named [120, 98] = some i ∧
   ((t1.destroy i [120, 98] = none ∧ z ∉ [1, 2, 4, 8, 16, 32]) ∨ (z ∈ [1, 2, 4, 8, 16, 32] ∧ ∃ t2, t1.destroy i [120, 98] = some t2)) := by
 have fH : 0 < s2.h.aF := by rw [m.hh]; have := m.k2.hk.cp.1; rw [m.hh] at this; exact this
 have hi2 : ∃ c, s2.cs[i]? = some c := by
  have h1 := m.i2
  unfold Sy.nss at h1
  rw [List.getElem?_map] at h1
  cases e : s2.cs[i]? with
  | none => rw [e] at h1; cases h1
  | some c => exact ⟨c, rfl⟩
 obtain ⟨c2, hc2⟩ := hi2
 obtain ⟨g1, g2, g3, c, hc⟩ := m.k2.one hc2 fH ho
 obtain ⟨g5, g6⟩ := m.k2.Rt hc2 fH ho
 have hn := UE ho
 have hcn : c.ns = ns := by
  have h1 := congrArg (·[i]?) hn
  simp only [m.i2] at h1
  unfold Sy.nss at h1
  rw [List.getElem?_map, hc] at h1
  exact gP h1
 have haw : t.away i a := (g6 i a).2 (.inr ⟨rfl, rfl⟩)
 have hsub : ns'.Sublist c.ns := by rw [hcn, ← m.er]; exact List.eraseIdx_sublist _ _
 obtain ⟨q1, q2, q3, _⟩ := g1.aBo hc hsub m.ne
 have hil := (List.getElem?_eq_some_iff.1 hc).1
 have hd : t.destroy i [120, 97] = some (t.dU i { c with ns := ns' }) := by
  unfold Sy.destroy
  rw [hc]
  simp only
  rw [hcn, if_pos m.ln, m.er]
 have hc1 : (t.dU i { c with ns := ns' }).cs[i]? = some { c with ns := ns' } := List.getElem?_set_self hil
 have hf : ∀ d ∈ t.cs, d.ns.length ≤ 999 := EF hn m.f2
 refine ⟨g1, hf, by rw [rF, hn]; exact m.na, by rw [rF, hn]; exact m.nb, by rw [g2, m.hh], ?_, _, hd, q1, fun d hd' => ?_, by rw [rF, q3, hn]; exact m.nb', ?_⟩
 ·obtain ⟨d, hd', x, hx, ho'⟩ := haw
  rw [hc] at hd'
  obtain rfl := gP hd'
  obtain ⟨k, hkl, e⟩ := List.mem_iff_getElem.1 hx
  exact ⟨c, k, x, hc, by rw [gJ hkl, e], ho', by have := (rC ho'.1).1; omega⟩
 ·rcases List.mem_or_eq_of_mem_set hd' with h1 | rfl
  ·exact hf d h1
  ·exact gQ hsub.length_le (hf c (gM hc))
 ·by_cases hz : z ∈ [1, 2, 4, 8, 16, 32]
  ·refine .inr ⟨hz, (t.dU i { c with ns := ns' }).dU i { c with ns := ns'.eraseIdx (uH ns' [120, 98]) }, ?_⟩
   unfold Sy.destroy
   rw [hc1]
   simp only
   rw [if_pos (m.alw.2 hz)]
  ·refine .inl ⟨?_, hz⟩
   unfold Sy.destroy
   rw [hc1]
   simp only
   rw [if_neg (fun h => hz (m.alw.1 h)), if_pos ((q1.RX hc1).2 ⟨a, (q2 i a).2 haw⟩)]
end
section
open Go.RowKit
section
variable {w W W' : World} {G B T U Bn : Nat} {X Y : Nat → Prop} {s s2 : Sy} {v v2 : Sc} {E : Array Value}
theorem SR.ge (hn : kH W Bn s v) : (∀ r ∈ v.rows s, ∀ g, r.v.ownBlock = some g → Bn ≤ g) ∧ ∀ q ∈ v.hc.rows s.h ++ v.hc.reads s.h, ∀ g, q.v.ownBlock = some g → Bn ≤ g := by
 refine ⟨fun r hr g hg => Nat.le_of_not_lt fun h => (hn.og r hr g hg).2 h, fun q hq g hg => Nat.le_of_not_lt fun h => ?_⟩
 rcases List.mem_append.1 hq with hq | hq
 ·exact (hn.hr.og q hq g hg).2 h
 ·exact hn.hr.rx q hq g hg h
theorem SR.box (hn : SR W G X s v) (hY : ∀ k, Y k → X k ∧ k < W.heap.size) : SS (W.alloc (.cells #[.slice v.a1 v.n1 v.c1, .slice v.hc.az 2 v.hc.cz, .slice v.hc.am 2 v.hc.cm, .int .i64 (s.h.aF : Int), .slice v.hc.al v.hc.lc.length v.hc.cl, .slice v.hc.av s.h.live.length v.hc.cv, .slice v.a2 v.ys.length v.c2] 47)) W.heap.size Y s v := by
 have hb := aB W (.cells #[.slice v.a1 v.n1 v.c1, .slice v.hc.az 2 v.hc.cz, .slice v.hc.am 2 v.hc.cm, .int .i64 (s.h.aF : Int), .slice v.hc.al v.hc.lc.length v.hc.cl, .slice v.hc.av s.h.live.length v.hc.cv, .slice v.a2 v.ys.length v.c2] 47)
 have h1 := hn.below hb
 have hsz : W.heap.size < (W.alloc (.cells #[.slice v.a1 v.n1 v.c1, .slice v.hc.az 2 v.hc.cz, .slice v.hc.am 2 v.hc.cm, .int .i64 (s.h.aF : Int), .slice v.hc.al v.hc.lc.length v.hc.cl, .slice v.hc.av s.h.live.length v.hc.cv, .slice v.a2 v.ys.length v.c2] 47)).heap.size := by simp
 refine ⟨⟨h1.own, fun r hr g hg => ⟨fun e => by have := hn.lt r hr g hg; omega, fun e => (hn.og r hr g hg).2 (hY g e).1⟩, h1.hr.any hsz (fun q hq k hk => ⟨fun e => by have := hn.hr.lt q hq k hk; omega, fun e => ?_⟩) (fun k hk => Nat.lt_trans (hY k hk).2 hsz) (fun e => by have := (hY _ e).2; omega), h1.hd, h1.cy⟩, bC W _ _, eH W _ _⟩
 have h2 := (hY k e).1
 rcases List.mem_append.1 hq with hq | hq
 ·exact (hn.hr.og q hq k hk).2 h2
 ·exact hn.hr.rx q hq k hk h2
theorem kH.box (hn : kH W Bn s v) : SS (W.alloc (.cells #[.slice v.a1 v.n1 v.c1, .slice v.hc.az 2 v.hc.cz, .slice v.hc.am 2 v.hc.cm, .int .i64 (s.h.aF : Int), .slice v.hc.al v.hc.lc.length v.hc.cl, .slice v.hc.av s.h.live.length v.hc.cv, .slice v.a2 v.ys.length v.c2] 47)) W.heap.size (fun k => k < Bn) s v := SR.box hn fun k hk => ⟨hk, Nat.lt_trans hk hn.hr.gs⟩
theorem kH.store {a0 a1 a2 a3 a4 a5 a6 : Value} (hn : kH W Bn s v) (hB : B < Bn) (K : ∀ o, W.cell? ⟨B, o, none⟩ = (#[a0, a1, a2, a3, a4, a5, a6] : Array Value)[o]?) (F : ∀ o, W.frozen? ⟨B, o, none⟩ = false) : SS (((((((W.setCell ⟨B, 0, none⟩ (.slice v.a1 v.n1 v.c1)).setCell ⟨B, 1, none⟩ (.slice v.hc.az 2 v.hc.cz)).setCell ⟨B, 2, none⟩ (.slice v.hc.am 2 v.hc.cm)).setCell ⟨B, 3, none⟩ (.int .i64 (s.h.aF : Int))).setCell ⟨B, 4, none⟩ (.slice v.hc.al v.hc.lc.length v.hc.cl)).setCell ⟨B, 5, none⟩ (.slice v.hc.av s.h.live.length v.hc.cv)).setCell ⟨B, 6, none⟩ (.slice v.a2 v.ys.length v.c2)) B (fun k => k < Bn ∧ k ≠ B) s v :=
 SS.put7 (SR.lift hn hB (fun k hk => hk.1) (fun h => h.2 rfl)) K F
end
end
section
open Go.RowKit

theorem own : ownKnob Tryz.prog.godebug = none := by kernel_rfl
theorem aBA : Tryz.prog.globalNamed "paddock/buddy.others" = some 1 := by kernel_rfl
theorem Sj : (Tryz.prog.globals[1]?).map (·.type) = some 251 := by kernel_rfl
theorem gSz : Tryz.prog.globalNamed "paddock/kmem.sizes" = some 0 := by kernel_rfl
theorem UM : (Tryz.prog.globals[0]?).map (·.type) = some 117 := by kernel_rfl
theorem cellsT3 : Tryz.prog.cellsOf 251 = 6 := by kernel_rfl
theorem cellsT2 : Tryz.prog.cellsOf 250 = 2 := by kernel_rfl
theorem cellsT6 : Tryz.prog.cellsOf 117 = 6 := by kernel_rfl
theorem Ij : Tryz.prog.cellsOf 3 = 1 := by kernel_rfl

theorem BG {H : Type} {enc : TypeId × Value → H} {P : Program} {w : World} {base : Nat} {sp : Nat → Bool} {held : Bool} {fuel : Nat} {t e f : TypeId} {n m : Nat} {k : IntKind} {cs : List Value} {zss : List (List Int)} {p : List MemPlace}
  (ht : P.underlying t = some (.array n e)) (he : P.underlying e = some (.array m f)) (hf : P.underlying f = some (.int k)) (hcf : P.cellsOf f = 1) (hce : P.cellsOf e = m) (hct : P.cellsOf t = n * m)
  (h : DataW.trod enc P w base sp held fuel t cs = some (.agg (zss.map fun zs => Lib.tabData k zs), p)) : ∀ i, i < n → ∃ zs, zss[i]? = some zs ∧ (cs.drop (i * m)).take m = zs.map fun z => Value.int k z := by
 cases fuel with
 | zero => simp [DataW.trod] at h
 | succ fuel =>
  simp only [DataW.trod, ht, hce, hct] at h
  split at h
  ·rename_i hl
   obtain ⟨xs, hm, hx⟩ := Option.map_eq_some_iff.1 h
   have hxs : xs.map (·.1) = zss.map fun zs => (Lib.tabData k zs : DataW H) := by
    have := congrArg Prod.fst hx
    simpa using this
   intro i hi
   obtain ⟨b, hb, hfi⟩ := Lib.mapM_at hm i i (by simp [hi])
   have h2 : (xs.map (·.1))[i]? = some b.1 := by simp [hb]
   rw [hxs] at h2
   simp only [List.getElem?_map, Option.map_eq_some_iff] at h2
   obtain ⟨zs, hz1, hz2⟩ := h2
   obtain ⟨b1, b2⟩ := b
   simp only at hz2
   subst hz2
   exact ⟨zs, hz1, Lib.cells_of_tab he hf hcf hce hfi⟩
  ·cases h

theorem Ik {W : World} (h : laidMetH Tryz.prog [("math/bits.deBruijn32tab", Rows.laid_math_bits_deBruijn32tab), ("math/bits.deBruijn64tab", Rows.laid_math_bits_deBruijn64tab), ("internal/strconv.uint64pow10", Rows.laid_internal_strconv_uint64pow10), ("paddock/buddy.others", Rows.laid_paddock_buddy_others), ("paddock/kmem.sizes", Rows.laid_paddock_kmem_sizes)] W) : yK W := by
 obtain ⟨ps, ⟨_, _, _, _, _, _, _, _, _, _, ⟨_, _, _, _, _, _, _, _, _, _, ⟨_, _, _, _, _, _, _, _, _, _, ⟨g', t', cs, fuel, p, q, hg', ht', hvar, hd, _, _⟩, _⟩, _⟩, _⟩, _⟩ := h
 obtain rfl := gP (aBA.symm.trans hg')
 obtain rfl := gP (Sj.symm.trans ht')
 have hT := BG (zss := [[2, 1], [2, 0], [0, 1]]) Tryz.underlying251 Tryz.underlying250 Tryz.underlying3 Ij cellsT2 cellsT3 hd
 have hc : ∀ i v, cs[i]? = some v → W.cell? ⟨1, i, none⟩ = some v := fun i v hv => (World.var?_cell aBA hvar i).trans hv
 obtain ⟨z0, h0, e0⟩ := hT 0 (by decide)
 obtain ⟨z1, h1, e1⟩ := hT 1 (by decide)
 obtain ⟨z2, h2, e2⟩ := hT 2 (by decide)
 simp only [gC, gD, Option.some.injEq] at h0 h1 h2
 subst h0 h1 h2
 have key : ∀ (l : List Value) (a b : Nat) (x y : Value), (l.drop a).take 2 = [x, y] → l[a]? = some x ∧ l[a + 1]? = some y := by
  intro l a b x y h
  have g0 := congrArg (·[0]?) h
  have g1 := congrArg (·[1]?) h
  simp [List.getElem?_drop] at g0 g1
  exact ⟨g0, g1⟩
 obtain ⟨a0, a1⟩ := key cs.toList 0 0 _ _ e0
 obtain ⟨a2, a3⟩ := key cs.toList 2 0 _ _ e1
 obtain ⟨a4, a5⟩ := key cs.toList 4 0 _ _ e2
 rw [Array.getElem?_toList] at a0 a1 a2 a3 a4 a5
 have hc0 := hc 0 _ a0
 refine ⟨by have := World.block_lt_of_cell? W _ hc0; exact this, fun i v hv => ?_⟩
 rcases i with _ | _ | _ | _ | _ | _ | i
 ·simp at hv; subst hv; exact hc0
 ·simp at hv; subst hv; exact hc 1 _ a1
 ·simp at hv; subst hv; exact hc 2 _ a2
 ·simp at hv; subst hv; exact hc 3 _ a3
 ·simp at hv; subst hv; exact hc 4 _ a4
 ·simp at hv; subst hv; exact hc 5 _ a5
 ·simp at hv

theorem Il {W : World} (h : laidMetH Tryz.prog [("math/bits.deBruijn32tab", Rows.laid_math_bits_deBruijn32tab), ("math/bits.deBruijn64tab", Rows.laid_math_bits_deBruijn64tab), ("internal/strconv.uint64pow10", Rows.laid_internal_strconv_uint64pow10), ("paddock/buddy.others", Rows.laid_paddock_buddy_others), ("paddock/kmem.sizes", Rows.laid_paddock_kmem_sizes)] W) : VG W := by
 obtain ⟨ps, ⟨_, _, _, _, _, _, _, _, _, _, ⟨_, _, _, _, _, _, _, _, _, _, ⟨_, _, _, _, _, _, _, _, _, _, ⟨_, _, _, _, _, _, _, _, _, _, ⟨g', t', cs, fuel, p, q, hg', ht', hvar, hd, _, _⟩, _⟩, _⟩, _⟩, _⟩, _⟩ := h
 obtain rfl := gP (gSz.symm.trans hg')
 obtain rfl := gP (UM.symm.trans ht')
 have hT := Lib.cells_of_tab (zs := [1, 2, 4, 8, 16, 32]) Tryz.underlying117 Tryz.underlying3 Ij cellsT6 hd
 have hc : ∀ i v, cs[i]? = some v → W.cell? ⟨0, i, none⟩ = some v := fun i v hv => (World.var?_cell gSz hvar i).trans hv
 have he : ∀ i : Nat, cs[i]? = ([1, 2, 4, 8, 16, 32].map fun z => Value.int .i64 z)[i]? := fun i => by rw [← Array.getElem?_toList, hT]
 have hc0 := hc 0 (.int .i64 1) (by rw [he]; rfl)
 refine ⟨World.block_lt_of_cell? W _ hc0, fun i v hv => hc i v ?_⟩
 rw [he, ← hv]
 rcases i with _ | _ | _ | _ | _ | _ | i
 all_goals rfl

def putCells (a : Array Value) : Obj → Obj
 | .cells _ t frozen => .cells a t frozen
 | o => o
noncomputable def laidWorld (os : Os) : World :=
 { World.holding Tryz.prog os ⟨#[], #[], []⟩ with heap := ((((((World.holding Tryz.prog os ⟨#[], #[], []⟩).heap.modify 0 (putCells #[.int .i64 1, .int .i64 2, .int .i64 4, .int .i64 8, .int .i64 16, .int .i64 32])).modify 1 (putCells #[.int .i64 2, .int .i64 1, .int .i64 2, .int .i64 0, .int .i64 0, .int .i64 1])).modify 2 (putCells #[.int .u64 1, .int .u64 10, .int .u64 100, .int .u64 1000, .int .u64 10000, .int .u64 100000, .int .u64 1000000, .int .u64 10000000, .int .u64 100000000, .int .u64 1000000000, .int .u64 10000000000, .int .u64 100000000000, .int .u64 1000000000000, .int .u64 10000000000000, .int .u64 100000000000000, .int .u64 1000000000000000, .int .u64 10000000000000000, .int .u64 100000000000000000, .int .u64 1000000000000000000, .int .u64 10000000000000000000])).modify 3 (putCells #[.int .u8 0, .int .u8 1, .int .u8 28, .int .u8 2, .int .u8 29, .int .u8 14, .int .u8 24, .int .u8 3, .int .u8 30, .int .u8 22, .int .u8 20, .int .u8 15, .int .u8 25, .int .u8 17, .int .u8 4, .int .u8 8, .int .u8 31, .int .u8 27, .int .u8 13, .int .u8 23, .int .u8 21, .int .u8 19, .int .u8 16, .int .u8 7, .int .u8 26, .int .u8 12, .int .u8 18, .int .u8 6, .int .u8 11, .int .u8 5, .int .u8 10, .int .u8 9])).modify 4 (putCells #[.int .u8 0, .int .u8 1, .int .u8 56, .int .u8 2, .int .u8 57, .int .u8 49, .int .u8 28, .int .u8 3, .int .u8 61, .int .u8 58, .int .u8 42, .int .u8 50, .int .u8 38, .int .u8 29, .int .u8 17, .int .u8 4, .int .u8 62, .int .u8 47, .int .u8 59, .int .u8 36, .int .u8 45, .int .u8 43, .int .u8 51, .int .u8 22, .int .u8 53, .int .u8 39, .int .u8 33, .int .u8 30, .int .u8 24, .int .u8 18, .int .u8 12, .int .u8 5, .int .u8 63, .int .u8 55, .int .u8 48, .int .u8 27, .int .u8 60, .int .u8 41, .int .u8 37, .int .u8 16, .int .u8 46, .int .u8 35, .int .u8 44, .int .u8 21, .int .u8 52, .int .u8 32, .int .u8 23, .int .u8 11, .int .u8 54, .int .u8 26, .int .u8 40, .int .u8 15, .int .u8 34, .int .u8 20, .int .u8 31, .int .u8 10, .int .u8 25, .int .u8 14, .int .u8 19, .int .u8 9, .int .u8 13, .int .u8 8, .int .u8 7, .int .u8 6])) }
end
end Go.Proofs.YtcmpmobhongkiaaGreatDoor
