/- texts of this claim, joined. -/
import Derived.Test.YtcmpmobhongkiaaGreatDoorCM0
import Derived.Test.YtcmpmobhongkiaaGreatDoorCM31
import Derived.Test.YtcmpmobhongkiaaGreatDoorCM35
import Derived.Test.YtcmpmobhongkiaaGreatDoorCM36
set_option linter.unusedVariables false
set_option linter.unusedSimpArgs false
namespace Go.Proofs.YtcmpmobhongkiaaGreatDoor
section
open Go.RowKit
section
variable {W W' W1 W2 : World} {G : Nat} {X Y : Nat → Prop} {s s' : Sy} {v v' : Sc}
theorem SR.wAt (hs : SR W G X s v) {a : Nat} (ha : a < s.w.length) : ∃ g, v.a1 = some ⟨g, 0, none⟩ ∧ g < W.heap.size ∧ g ≠ G ∧ ¬ X g ∧ W.cell? ⟨g, a, none⟩ = some (vI s.w[a]) ∧ W.frozen? ⟨g, a, none⟩ = false := by
 have hw : (vJ v s).on W 0 := hs.own.each _ (nC v s)
 have hx : a < (vJ v s).xs.length := by show a < (s.w.map vI).length; rw [List.length_map]; exact ha
 obtain ⟨g, h1, _, h2, h3, h4⟩ := lJ hw a hx
 have h5 := hs.og _ (nC v s) g (by show (vJ v s).v.ownBlock = _; unfold vJ; rw [h1]; rfl)
 refine ⟨g, h1, h2, h5.1, h5.2, ?_, h4⟩
 rw [h3]
 have h6 : (s.w.map vI)[a]? = some (vI s.w[a]) := by rw [List.getElem?_map, gJ ha]; rfl
 rw [← h6]
 exact (gJ hx).symm
theorem SS.setW (hs : SS W G X s v) {g : Nat} (hg : v.a1 = some ⟨g, 0, none⟩) (a : Nat) (u : Int) :
  SS (W.setCell ⟨g, a, none⟩ (vI u)) G X { s with w := s.w.set a u } v ∧ Safe X W (W.setCell ⟨g, a, none⟩ (vI u)) := by
 have hb : (vJ v s).v.ownBlock = some g := by unfold vJ; rw [hg]; rfl
 have h4 := hs.r.og _ (nC v s) g hb
 have k := hs.r.own.cell (i := 0) (by simp [Sc.rows]) (g := g) (c := v.c1) (by show (vJ v s).v = _; unfold vJ; rw [hg]; rfl) a (vI u) rfl
 have e1 : ({ vJ v s with xs := (vJ v s).xs.set a (vI u) } : Rs) = vJ v { s with w := s.w.set a u } := by
  unfold vJ
  simp only [List.map_set]
 have k2 : dA (W.setCell ⟨g, a, none⟩ (vI u)) 0 (v.rows { s with w := s.w.set a u }) := by
  have e2 : v.rows { s with w := s.w.set a u } = vJ v { s with w := s.w.set a u } :: jR v :: v.ys.flatMap eU := rfl
  rw [e2, ← e1]
  exact k
 have hr := hs.r.step (s' := { s with w := s.w.set a u }) (v' := v) (hs.r.DW (nC v s) hb a (vI u)) rfl rfl k2 (fun r hr' g' hg' => .inl (by
  rcases List.mem_cons.1 hr' with rfl | hr'
  ·exact ⟨vJ v s, nC v s, hg'⟩
  ·exact ⟨r, List.mem_cons_of_mem _ hr', hg'⟩)) hs.r.cy
 have hk := hs.PW h4.1 a (vI u)
 exact ⟨⟨hr, hk.1, hk.2⟩, (Safe.refl X W).set h4.2 a (vI u)⟩
theorem SS.aAQ (hs : SS W G X s v) {i : Nat} (hi : i < v.ys.length) {y : Cc} (hy : v.ys[i] = y) {g : Nat} (hg : y.a2 = some ⟨g, 0, none⟩) {k : Nat} (hk : k < y.c.sl.length) {gw : Nat} (hgw : v.a1 = some ⟨gw, 0, none⟩) (a : Nat) (u h' : Int) {n' : Nat} :
  SS (((W.setCell ⟨gw, a, none⟩ (vI u)).setCell ⟨g, k * 3 + 2, none⟩ (vI h')).setCell ⟨g, k * 3 + 1, none⟩ (vI n')) G X { s with w := s.w.set a u, cs := s.cs.set i { y.c with sl := y.c.sl.set k ⟨y.c.sl[k].p, n', h'⟩ } } (v.dI i { y with c := { y.c with sl := y.c.sl.set k ⟨y.c.sl[k].p, n', h'⟩ } }) ∧
  Safe X W (((W.setCell ⟨gw, a, none⟩ (vI u)).setCell ⟨g, k * 3 + 2, none⟩ (vI h')).setCell ⟨g, k * 3 + 1, none⟩ (vI n')) := by
 subst hy
 have h0 := hs.setW hgw a u
 have h1 := h0.1.KI hi hg hk (x' := ⟨v.ys[i].c.sl[k].p, v.ys[i].c.sl[k].n, h'⟩) (j := 2) (by decide) (u := vI h') rfl rfl
 have hi2 : i < (v.dI i { v.ys[i] with c := { v.ys[i].c with sl := v.ys[i].c.sl.set k ⟨v.ys[i].c.sl[k].p, v.ys[i].c.sl[k].n, h'⟩ } }).ys.length := by
  unfold Sc.dI
  simpa using hi
 have e1 : (v.dI i { v.ys[i] with c := { v.ys[i].c with sl := v.ys[i].c.sl.set k ⟨v.ys[i].c.sl[k].p, v.ys[i].c.sl[k].n, h'⟩ } }).ys[i] = { v.ys[i] with c := { v.ys[i].c with sl := v.ys[i].c.sl.set k ⟨v.ys[i].c.sl[k].p, v.ys[i].c.sl[k].n, h'⟩ } } := by simp [Sc.dI]
 have h2 := h1.1.KI hi2 (g := g) (by rw [e1]; exact hg) (k := k) (by rw [e1]; simpa using hk) (x' := ⟨v.ys[i].c.sl[k].p, n', h'⟩) (j := 1) (by decide) (u := vI n') (by
  simp only [e1, List.getElem_set_self]
  rfl) rfl
 have h3 := h2.1
 rw [e1] at h3
 have e2 : (({ s with w := s.w.set a u } : Sy).dU i { v.ys[i].c with sl := v.ys[i].c.sl.set k ⟨v.ys[i].c.sl[k].p, v.ys[i].c.sl[k].n, h'⟩ }).dU i { v.ys[i].c with sl := (v.ys[i].c.sl.set k ⟨v.ys[i].c.sl[k].p, v.ys[i].c.sl[k].n, h'⟩).set k ⟨v.ys[i].c.sl[k].p, n', h'⟩ } = { s with w := s.w.set a u, cs := s.cs.set i { v.ys[i].c with sl := v.ys[i].c.sl.set k ⟨v.ys[i].c.sl[k].p, n', h'⟩ } } := by
  unfold Sy.dU
  simp only [List.set_set]
 have e3 : (v.dI i { v.ys[i] with c := { v.ys[i].c with sl := v.ys[i].c.sl.set k ⟨v.ys[i].c.sl[k].p, v.ys[i].c.sl[k].n, h'⟩ } }).dI i { v.ys[i] with c := { v.ys[i].c with sl := (v.ys[i].c.sl.set k ⟨v.ys[i].c.sl[k].p, v.ys[i].c.sl[k].n, h'⟩).set k ⟨v.ys[i].c.sl[k].p, n', h'⟩ } } = v.dI i { v.ys[i] with c := { v.ys[i].c with sl := v.ys[i].c.sl.set k ⟨v.ys[i].c.sl[k].p, n', h'⟩ } } := by
  unfold Sc.dI
  simp only [List.set_set]
 have h3' := h3
 simp only at h3'
 rw [e2, e3] at h3'
 exact ⟨h3', (h0.2.trans h1.2).trans h2.2⟩
end
end
section
open Go.RowKit
section
variable {w w1 w2 : World} {s : Sy} {v : Sc} {T : Nat} {E : Array Value} {X : Nat → Prop}
theorem laid7 {a0 a1 a2 a3 a4 a5 a6 : Value} (hb1 : Below w.heap.size w w1) (hT : w.heap.size < T) (hT2 : T < w1.heap.size)
  (K1 : ∀ o, w1.cell? ⟨w.heap.size, o, none⟩ = (#[a0, a1, a2, a3, a4, a5, a6] : Array Value)[o]?) (F1 : ∀ o, w1.frozen? ⟨w.heap.size, o, none⟩ = false)
  (KT : ∀ o, w1.cell? ⟨T, o, none⟩ = E[o]?) (FT : ∀ o, w1.frozen? ⟨T, o, none⟩ = false) (hb2 : Below w1.heap.size w1 w2) (hn : kH w2 w1.heap.size s v) :
  SS (((((((w2.setCell ⟨w.heap.size, 0, none⟩ (.slice v.a1 v.n1 v.c1)).setCell ⟨w.heap.size, 1, none⟩ (.slice v.hc.az 2 v.hc.cz)).setCell ⟨w.heap.size, 2, none⟩ (.slice v.hc.am 2 v.hc.cm)).setCell ⟨w.heap.size, 3, none⟩ (.int .i64 (s.h.aF : Int))).setCell ⟨w.heap.size, 4, none⟩ (.slice v.hc.al v.hc.lc.length v.hc.cl)).setCell ⟨w.heap.size, 5, none⟩ (.slice v.hc.av s.h.live.length v.hc.cv)).setCell ⟨w.heap.size, 6, none⟩ (.slice v.a2 v.ys.length v.c2)) w.heap.size (fun k => k < w.heap.size ∨ k = T) s v ∧
  (∀ o, (((((((w2.setCell ⟨w.heap.size, 0, none⟩ (.slice v.a1 v.n1 v.c1)).setCell ⟨w.heap.size, 1, none⟩ (.slice v.hc.az 2 v.hc.cz)).setCell ⟨w.heap.size, 2, none⟩ (.slice v.hc.am 2 v.hc.cm)).setCell ⟨w.heap.size, 3, none⟩ (.int .i64 (s.h.aF : Int))).setCell ⟨w.heap.size, 4, none⟩ (.slice v.hc.al v.hc.lc.length v.hc.cl)).setCell ⟨w.heap.size, 5, none⟩ (.slice v.hc.av s.h.live.length v.hc.cv)).setCell ⟨w.heap.size, 6, none⟩ (.slice v.a2 v.ys.length v.c2)).cell? ⟨T, o, none⟩ = E[o]?) ∧
  (∀ o, (((((((w2.setCell ⟨w.heap.size, 0, none⟩ (.slice v.a1 v.n1 v.c1)).setCell ⟨w.heap.size, 1, none⟩ (.slice v.hc.az 2 v.hc.cz)).setCell ⟨w.heap.size, 2, none⟩ (.slice v.hc.am 2 v.hc.cm)).setCell ⟨w.heap.size, 3, none⟩ (.int .i64 (s.h.aF : Int))).setCell ⟨w.heap.size, 4, none⟩ (.slice v.hc.al v.hc.lc.length v.hc.cl)).setCell ⟨w.heap.size, 5, none⟩ (.slice v.hc.av s.h.live.length v.hc.cv)).setCell ⟨w.heap.size, 6, none⟩ (.slice v.a2 v.ys.length v.c2)).frozen? ⟨T, o, none⟩ = false) ∧
  Below w.heap.size w (((((((w2.setCell ⟨w.heap.size, 0, none⟩ (.slice v.a1 v.n1 v.c1)).setCell ⟨w.heap.size, 1, none⟩ (.slice v.hc.az 2 v.hc.cz)).setCell ⟨w.heap.size, 2, none⟩ (.slice v.hc.am 2 v.hc.cm)).setCell ⟨w.heap.size, 3, none⟩ (.int .i64 (s.h.aF : Int))).setCell ⟨w.heap.size, 4, none⟩ (.slice v.hc.al v.hc.lc.length v.hc.cl)).setCell ⟨w.heap.size, 5, none⟩ (.slice v.hc.av s.h.live.length v.hc.cv)).setCell ⟨w.heap.size, 6, none⟩ (.slice v.a2 v.ys.length v.c2)) := by
 have hw1 : w.heap.size < w1.heap.size := by omega
 have K12 := aC K1 hw1 hb2
 have F12 := aJ F1 hw1 hb2
 have Ai : SR w2 w.heap.size (fun k => k < w.heap.size ∨ k = T) s v := SR.lift hn hw1 (fun k hk => by omega) (by omega)
 have hne : T ≠ w.heap.size := by omega
 have K0 := aC KT hT2 hb2
 have F0 := aJ FT hT2 hb2
 have hle := Nat.le_refl w.heap.size
 refine ⟨SS.put7 Ai K12 F12, ?_, ?_, ?_⟩
 ·exact aA (aA (aA (aA (aA (aA (aA K0 hne 0 _) hne 1 _) hne 2 _) hne 3 _) hne 4 _) hne 5 _) hne 6 _
 ·exact aH (aH (aH (aH (aH (aH (aH F0 _ _) _ _) _ _) _ _) _ _) _ _) _ _
 ·exact Below.setCell (Below.setCell (Below.setCell (Below.setCell (Below.setCell (Below.setCell (Below.setCell (hb1.trans (hb2.mono hb1.size)) (show w.heap.size ≤ (⟨w.heap.size, 0, none⟩ : Addr).block from hle) _) (show w.heap.size ≤ (⟨w.heap.size, 1, none⟩ : Addr).block from hle) _) (show w.heap.size ≤ (⟨w.heap.size, 2, none⟩ : Addr).block from hle) _) (show w.heap.size ≤ (⟨w.heap.size, 3, none⟩ : Addr).block from hle) _) (show w.heap.size ≤ (⟨w.heap.size, 4, none⟩ : Addr).block from hle) _) (show w.heap.size ≤ (⟨w.heap.size, 5, none⟩ : Addr).block from hle) _) (show w.heap.size ≤ (⟨w.heap.size, 6, none⟩ : Addr).block from hle) _
theorem out7 {a0 a1 a2 a3 a4 a5 a6 : Value} (hs : SS w2 w.heap.size X s v) (hX : X T) (hB : ∀ k, k < w.heap.size → X k) (hT : w.heap.size < T) (KT : ∀ o, w2.cell? ⟨T, o, none⟩ = (#[a0, a1, a2, a3, a4, a5, a6] : Array Value)[o]?) (hb : Below w.heap.size w w2) :
  (∀ o, (((((((w2.setCell ⟨T, 0, none⟩ (.slice v.a1 v.n1 v.c1)).setCell ⟨T, 1, none⟩ (.slice v.hc.az 2 v.hc.cz)).setCell ⟨T, 2, none⟩ (.slice v.hc.am 2 v.hc.cm)).setCell ⟨T, 3, none⟩ (.int .i64 (s.h.aF : Int))).setCell ⟨T, 4, none⟩ (.slice v.hc.al v.hc.lc.length v.hc.cl)).setCell ⟨T, 5, none⟩ (.slice v.hc.av s.h.live.length v.hc.cv)).setCell ⟨T, 6, none⟩ (.slice v.a2 v.ys.length v.c2)).cell? ⟨T, o, none⟩ = (#[.slice v.a1 v.n1 v.c1, .slice v.hc.az 2 v.hc.cz, .slice v.hc.am 2 v.hc.cm, .int .i64 (s.h.aF : Int), .slice v.hc.al v.hc.lc.length v.hc.cl, .slice v.hc.av s.h.live.length v.hc.cv, .slice v.a2 v.ys.length v.c2] : Array Value)[o]?) ∧
  kH (((((((w2.setCell ⟨T, 0, none⟩ (.slice v.a1 v.n1 v.c1)).setCell ⟨T, 1, none⟩ (.slice v.hc.az 2 v.hc.cz)).setCell ⟨T, 2, none⟩ (.slice v.hc.am 2 v.hc.cm)).setCell ⟨T, 3, none⟩ (.int .i64 (s.h.aF : Int))).setCell ⟨T, 4, none⟩ (.slice v.hc.al v.hc.lc.length v.hc.cl)).setCell ⟨T, 5, none⟩ (.slice v.hc.av s.h.live.length v.hc.cv)).setCell ⟨T, 6, none⟩ (.slice v.a2 v.ys.length v.c2)) w.heap.size s v ∧
  Below w.heap.size w (((((((w2.setCell ⟨T, 0, none⟩ (.slice v.a1 v.n1 v.c1)).setCell ⟨T, 1, none⟩ (.slice v.hc.az 2 v.hc.cz)).setCell ⟨T, 2, none⟩ (.slice v.hc.am 2 v.hc.cm)).setCell ⟨T, 3, none⟩ (.int .i64 (s.h.aF : Int))).setCell ⟨T, 4, none⟩ (.slice v.hc.al v.hc.lc.length v.hc.cl)).setCell ⟨T, 5, none⟩ (.slice v.hc.av s.h.live.length v.hc.cv)).setCell ⟨T, 6, none⟩ (.slice v.a2 v.ys.length v.c2)) := by
 have KX := (aG (aG (aG (aG (aG (aG (aG KT 0 (.slice v.a1 v.n1 v.c1)) 1 (.slice v.hc.az 2 v.hc.cz)) 2 (.slice v.hc.am 2 v.hc.cm)) 3 (.int .i64 (s.h.aF : Int))) 4 (.slice v.hc.al v.hc.lc.length v.hc.cl)) 5 (.slice v.hc.av s.h.live.length v.hc.cv)) 6 (.slice v.a2 v.ys.length v.c2))
 simp only [gE, gG, gH] at KX
 have hle := gR hT
 refine ⟨KX, (SS.sub (((((((hs.dZ hX 0 _).dZ hX 1 _).dZ hX 2 _).dZ hX 3 _).dZ hX 4 _).dZ hX 5 _).dZ hX 6 _) hB).r, ?_⟩
 exact Below.setCell (Below.setCell (Below.setCell (Below.setCell (Below.setCell (Below.setCell (Below.setCell hb (show w.heap.size ≤ (⟨T, 0, none⟩ : Addr).block from hle) _) (show w.heap.size ≤ (⟨T, 1, none⟩ : Addr).block from hle) _) (show w.heap.size ≤ (⟨T, 2, none⟩ : Addr).block from hle) _) (show w.heap.size ≤ (⟨T, 3, none⟩ : Addr).block from hle) _) (show w.heap.size ≤ (⟨T, 4, none⟩ : Addr).block from hle) _) (show w.heap.size ≤ (⟨T, 5, none⟩ : Addr).block from hle) _) (show w.heap.size ≤ (⟨T, 6, none⟩ : Addr).block from hle) _
theorem SR.aAR {W : World} {G : Nat} (hs : SR W G X s v) {i : Nat} (hi : i < v.ys.length) {y : Cc} (hy : v.ys[i] = y) {gw : Nat} (hgw : v.a1 = some ⟨gw, 0, none⟩) : (kS y).v.ownBlock ≠ some gw := fun e => by
 subst hy
 have h := (hs.FN hi).off (i := 0) (j := 3) (by simp) (by simp) (by decide) gw (by show (vJ v s).v.ownBlock = _; unfold vJ; rw [hgw]; rfl)
 exact h e
end
end
section
open Go.RowKit

def Ca.idle (c : Ca) (x : Sl) : Bool := decide (x.n = c.r) && !c.ac.contains (x.p : Int)
set_option maxHeartbeats 4000000 in
set_option maxRecDepth 100000 in
theorem Rw (y : Cc) (x : Sl) (w : World) (hl : y.c.ac.length = y.n3) (hn : y.n3 ≤ 1000) (hr : Row w y.a3 (y.c.ac.map vI)) :
  Calls Tryz.prog 73 #[.agg #[.slice y.a1 y.n1 y.c1, .int .i64 y.c.z, .int .i64 y.c.r, .int .i64 y.c.o, .slice y.a2 y.n2 y.c2, .slice y.a3 y.n3 y.c3], .agg #[.int .i64 x.p, .int .i64 x.n, .int .i64 x.h]] w fun ev w' => ev = .returned (.bool (y.c.idle x)) ∧ Below w.heap.size w w' := by
 obtain ⟨K1, K2, F1, F2, hsz, hbw⟩ := boxes2 w #[.slice y.a1 y.n1 y.c1, .int .i64 (y.c.z : Int), .int .i64 (y.c.r : Int), .int .i64 (y.c.o : Int), .slice y.a2 y.n2 y.c2, .slice y.a3 y.n3 y.c3] 94 #[.int .i64 (x.p : Int), .int .i64 (x.n : Int), .int .i64 x.h] 137
 have k2 := K1 2
 have k5 := K1 5
 have m0 := K2 0
 have m1 := K2 1
 simp only [gB, gC, gD] at k2 k5 m0 m1
 have h := fM y.a3 y.c3 y.c.ac (x.p : Int) _ (by omega) (hr.below hbw)
 rw [hl] at h
 have HC := gO h
 have HB := gO hbw
 clear h hbw hr K1 K2 F1 F2
 by_cases hx : x.n = y.c.r
 ·have hxi : ((x.n : Int) == (y.c.r : Int)) = true := by rw [beq_iff_eq, hx]
  have HX := gO hx
  clear hx
  go_enter Tryz.func73, Tryz.ntmps73
  go_wp2_with (go_at_call 35; refine HC.out.mono ?_; rintro ev w2 ⟨rfl, rfl⟩)
  go_ret
  refine ⟨aW ?_, HB.out⟩
  unfold Ca.idle
  rw [decide_eq_true HX.out]
  rfl
 ·have hxi : ((x.n : Int) == (y.c.r : Int)) = false := by rw [beq_eq_false_iff_ne]; omega
  have HX := gO hx
  clear hx
  go_enter Tryz.func73, Tryz.ntmps73
  go_wp2_with fail
  go_ret
  refine ⟨aW ?_, HB.out⟩
  unfold Ca.idle
  rw [decide_eq_false HX.out]
  rfl
end
section
open Go.RowKit
section
variable {w W W' : World} {G B T U : Nat} {X : Nat → Prop} {s s2 : Sy} {v v2 : Sc} {E : Array Value}
theorem SR.put7 (hs : SR W G X s v) (hT : X T) (v2 : Sc) (s2 : Sy) : SR (((((((W.setCell ⟨T, 0, none⟩ (.slice v2.a1 v2.n1 v2.c1)).setCell ⟨T, 1, none⟩ (.slice v2.hc.az 2 v2.hc.cz)).setCell ⟨T, 2, none⟩ (.slice v2.hc.am 2 v2.hc.cm)).setCell ⟨T, 3, none⟩ (.int .i64 (s2.h.aF : Int))).setCell ⟨T, 4, none⟩ (.slice v2.hc.al v2.hc.lc.length v2.hc.cl)).setCell ⟨T, 5, none⟩ (.slice v2.hc.av s2.h.live.length v2.hc.cv)).setCell ⟨T, 6, none⟩ (.slice v2.a2 v2.ys.length v2.c2)) G X s v :=
 SR.dZ (SR.dZ (SR.dZ (SR.dZ (SR.dZ (SR.dZ (SR.dZ hs hT 0 _) hT 1 _) hT 2 _) hT 3 _) hT 4 _) hT 5 _) hT 6 _
theorem uG {b : Nat} (hb : Below b w W) (hT : b ≤ T) (v2 : Sc) (s2 : Sy) : Below b w (((((((W.setCell ⟨T, 0, none⟩ (.slice v2.a1 v2.n1 v2.c1)).setCell ⟨T, 1, none⟩ (.slice v2.hc.az 2 v2.hc.cz)).setCell ⟨T, 2, none⟩ (.slice v2.hc.am 2 v2.hc.cm)).setCell ⟨T, 3, none⟩ (.int .i64 (s2.h.aF : Int))).setCell ⟨T, 4, none⟩ (.slice v2.hc.al v2.hc.lc.length v2.hc.cl)).setCell ⟨T, 5, none⟩ (.slice v2.hc.av s2.h.live.length v2.hc.cv)).setCell ⟨T, 6, none⟩ (.slice v2.a2 v2.ys.length v2.c2)) :=
 Below.setCell (Below.setCell (Below.setCell (Below.setCell (Below.setCell (Below.setCell (Below.setCell hb (show b ≤ (⟨T, 0, none⟩ : Addr).block from hT) _) (show b ≤ (⟨T, 1, none⟩ : Addr).block from hT) _) (show b ≤ (⟨T, 2, none⟩ : Addr).block from hT) _) (show b ≤ (⟨T, 3, none⟩ : Addr).block from hT) _) (show b ≤ (⟨T, 4, none⟩ : Addr).block from hT) _) (show b ≤ (⟨T, 5, none⟩ : Addr).block from hT) _) (show b ≤ (⟨T, 6, none⟩ : Addr).block from hT) _
theorem kH.put7 (hn : kH W B s v) (hT : T < B) (hB : G < B) : kH (((((((W.setCell ⟨T, 0, none⟩ (.slice v.a1 v.n1 v.c1)).setCell ⟨T, 1, none⟩ (.slice v.hc.az 2 v.hc.cz)).setCell ⟨T, 2, none⟩ (.slice v.hc.am 2 v.hc.cm)).setCell ⟨T, 3, none⟩ (.int .i64 (s.h.aF : Int))).setCell ⟨T, 4, none⟩ (.slice v.hc.al v.hc.lc.length v.hc.cl)).setCell ⟨T, 5, none⟩ (.slice v.hc.av s.h.live.length v.hc.cv)).setCell ⟨T, 6, none⟩ (.slice v.a2 v.ys.length v.c2)) G s v :=
 (SR.put7 (X := fun k => k < B) hn hT v s).toX hB (fun k hk => Nat.lt_trans hk hB) (Nat.lt_irrefl _)
end
end
end Go.Proofs.YtcmpmobhongkiaaGreatDoor
