/- texts of this claim, joined. -/
import Derived.Test.YtcmpmobhongkiaaGreatDoorCG0
import Derived.Test.YtcmpmobhongkiaaGreatDoorCG11
import Derived.Test.YtcmpmobhongkiaaGreatDoorCG17
import Derived.Test.YtcmpmobhongkiaaGreatDoorCG28
import Derived.Test.YtcmpmobhongkiaaGreatDoorCG36
import Derived.Test.YtcmpmobhongkiaaGreatDoorCG38
set_option linter.unusedVariables false
set_option linter.unusedSimpArgs false
namespace Go.Proofs.YtcmpmobhongkiaaGreatDoor
section
open Go.RowKit
section
variable {W W' W1 W2 : World} {G : Nat} {X Y : Nat → Prop} {s s' : Sy} {v v' : Sc}
theorem SR.wAt (hs : SR W G X s v) {a : Nat} (ha : a < s.w.length) : ∃ g, v.a1 = some ⟨g, 0, none⟩ ∧ g < W.heap.size ∧ g ≠ G ∧ ¬ X g ∧ W.cell? ⟨g, a, none⟩ = some (vI s.w[a]) ∧ W.frozen? ⟨g, a, none⟩ = false := by
 have hw : (uX v s).on W 0 := hs.own.each _ (nD v s)
 have hx : a < (uX v s).xs.length := by show a < (s.w.map vI).length; rw [List.length_map]; exact ha
 obtain ⟨g, h1, _, h2, h3, h4⟩ := lI hw a hx
 have h5 := hs.og _ (nD v s) g (by show (uX v s).v.ownBlock = _; unfold uX; rw [h1]; rfl)
 refine ⟨g, h1, h2, h5.1, h5.2, ?_, h4⟩
 rw [h3]
 have h6 : (s.w.map vI)[a]? = some (vI s.w[a]) := by rw [List.getElem?_map, gJ ha]; rfl
 rw [← h6]
 exact (gJ hx).symm
theorem SS.setW (hs : SS W G X s v) {g : Nat} (hg : v.a1 = some ⟨g, 0, none⟩) (a : Nat) (u : Int) :
  SS (W.setCell ⟨g, a, none⟩ (vI u)) G X { s with w := s.w.set a u } v ∧ Safe X W (W.setCell ⟨g, a, none⟩ (vI u)) := by
 have hb : (uX v s).v.ownBlock = some g := by unfold uX; rw [hg]; rfl
 have h4 := hs.r.og _ (nD v s) g hb
 have k := hs.r.own.cell (i := 0) (by simp [Sc.rows]) (g := g) (c := v.c1) (by show (uX v s).v = _; unfold uX; rw [hg]; rfl) a (vI u) rfl
 have e1 : ({ uX v s with xs := (uX v s).xs.set a (vI u) } : Rs) = uX v { s with w := s.w.set a u } := by
  unfold uX
  simp only [List.map_set]
 have k2 : cZ (W.setCell ⟨g, a, none⟩ (vI u)) 0 (v.rows { s with w := s.w.set a u }) := by
  have e2 : v.rows { s with w := s.w.set a u } = uX v { s with w := s.w.set a u } :: jP v :: v.ys.flatMap eX := rfl
  rw [e2, ← e1]
  exact k
 have hr := hs.r.step (s' := { s with w := s.w.set a u }) (v' := v) (hs.r.Ef (nD v s) hb a (vI u)) rfl rfl k2 (fun r hr' g' hg' => .inl (by
  rcases List.mem_cons.1 hr' with rfl | hr'
  ·exact ⟨uX v s, nD v s, hg'⟩
  ·exact ⟨r, List.mem_cons_of_mem _ hr', hg'⟩)) hs.r.cy
 have hk := hs.QD h4.1 a (vI u)
 exact ⟨⟨hr, hk.1, hk.2⟩, (Safe.refl X W).set h4.2 a (vI u)⟩
theorem SS.aBD (hs : SS W G X s v) {i : Nat} (hi : i < v.ys.length) {y : Cc} (hy : v.ys[i] = y) {g : Nat} (hg : y.a2 = some ⟨g, 0, none⟩) {k : Nat} (hk : k < y.c.sl.length) {gw : Nat} (hgw : v.a1 = some ⟨gw, 0, none⟩) (a : Nat) (u h' : Int) {n' : Nat} :
  SS (((W.setCell ⟨gw, a, none⟩ (vI u)).setCell ⟨g, k * 3 + 2, none⟩ (vI h')).setCell ⟨g, k * 3 + 1, none⟩ (vI n')) G X { s with w := s.w.set a u, cs := s.cs.set i { y.c with sl := y.c.sl.set k ⟨y.c.sl[k].p, n', h'⟩ } } (v.dH i { y with c := { y.c with sl := y.c.sl.set k ⟨y.c.sl[k].p, n', h'⟩ } }) ∧
  Safe X W (((W.setCell ⟨gw, a, none⟩ (vI u)).setCell ⟨g, k * 3 + 2, none⟩ (vI h')).setCell ⟨g, k * 3 + 1, none⟩ (vI n')) := by
 subst hy
 have h0 := hs.setW hgw a u
 have h1 := h0.1.LH hi hg hk (x' := ⟨v.ys[i].c.sl[k].p, v.ys[i].c.sl[k].n, h'⟩) (j := 2) (by decide) (u := vI h') rfl rfl
 have hi2 : i < (v.dH i { v.ys[i] with c := { v.ys[i].c with sl := v.ys[i].c.sl.set k ⟨v.ys[i].c.sl[k].p, v.ys[i].c.sl[k].n, h'⟩ } }).ys.length := by
  unfold Sc.dH
  simpa using hi
 have e1 : (v.dH i { v.ys[i] with c := { v.ys[i].c with sl := v.ys[i].c.sl.set k ⟨v.ys[i].c.sl[k].p, v.ys[i].c.sl[k].n, h'⟩ } }).ys[i] = { v.ys[i] with c := { v.ys[i].c with sl := v.ys[i].c.sl.set k ⟨v.ys[i].c.sl[k].p, v.ys[i].c.sl[k].n, h'⟩ } } := by simp [Sc.dH]
 have h2 := h1.1.LH hi2 (g := g) (by rw [e1]; exact hg) (k := k) (by rw [e1]; simpa using hk) (x' := ⟨v.ys[i].c.sl[k].p, n', h'⟩) (j := 1) (by decide) (u := vI n') (by
  simp only [e1, List.getElem_set_self]
  rfl) rfl
 have h3 := h2.1
 rw [e1] at h3
 have e2 : (({ s with w := s.w.set a u } : Sy).eU i { v.ys[i].c with sl := v.ys[i].c.sl.set k ⟨v.ys[i].c.sl[k].p, v.ys[i].c.sl[k].n, h'⟩ }).eU i { v.ys[i].c with sl := (v.ys[i].c.sl.set k ⟨v.ys[i].c.sl[k].p, v.ys[i].c.sl[k].n, h'⟩).set k ⟨v.ys[i].c.sl[k].p, n', h'⟩ } = { s with w := s.w.set a u, cs := s.cs.set i { v.ys[i].c with sl := v.ys[i].c.sl.set k ⟨v.ys[i].c.sl[k].p, n', h'⟩ } } := by
  unfold Sy.eU
  simp only [List.set_set]
 have e3 : (v.dH i { v.ys[i] with c := { v.ys[i].c with sl := v.ys[i].c.sl.set k ⟨v.ys[i].c.sl[k].p, v.ys[i].c.sl[k].n, h'⟩ } }).dH i { v.ys[i] with c := { v.ys[i].c with sl := (v.ys[i].c.sl.set k ⟨v.ys[i].c.sl[k].p, v.ys[i].c.sl[k].n, h'⟩).set k ⟨v.ys[i].c.sl[k].p, n', h'⟩ } } = v.dH i { v.ys[i] with c := { v.ys[i].c with sl := v.ys[i].c.sl.set k ⟨v.ys[i].c.sl[k].p, n', h'⟩ } } := by
  unfold Sc.dH
  simp only [List.set_set]
 have h3' := h3
 simp only at h3'
 rw [e2, e3] at h3'
 exact ⟨h3', (h0.2.trans h1.2).trans h2.2⟩
end
end
section
open Go.RowKit
section
variable {w w1 w2 : World} {s : Sy} {v : Sc} {T : Nat} {E : Array Value} {X : Nat → Prop}
theorem laid7 {a0 a1 a2 a3 a4 a5 a6 : Value} (hb1 : Below w.heap.size w w1) (hT : w.heap.size < T) (hT2 : T < w1.heap.size)
  (K1 : ∀ o, w1.cell? ⟨w.heap.size, o, none⟩ = (#[a0, a1, a2, a3, a4, a5, a6] : Array Value)[o]?) (F1 : ∀ o, w1.frozen? ⟨w.heap.size, o, none⟩ = false)
  (KT : ∀ o, w1.cell? ⟨T, o, none⟩ = E[o]?) (FT : ∀ o, w1.frozen? ⟨T, o, none⟩ = false) (hb2 : Below w1.heap.size w1 w2) (hn : jY w2 w1.heap.size s v) :
  SS (((((((w2.setCell ⟨w.heap.size, 0, none⟩ (.slice v.a1 v.n1 v.c1)).setCell ⟨w.heap.size, 1, none⟩ (.slice v.hc.az 2 v.hc.cz)).setCell ⟨w.heap.size, 2, none⟩ (.slice v.hc.am 2 v.hc.cm)).setCell ⟨w.heap.size, 3, none⟩ (.int .i64 (s.h.aF : Int))).setCell ⟨w.heap.size, 4, none⟩ (.slice v.hc.al v.hc.lc.length v.hc.cl)).setCell ⟨w.heap.size, 5, none⟩ (.slice v.hc.av s.h.live.length v.hc.cv)).setCell ⟨w.heap.size, 6, none⟩ (.slice v.a2 v.ys.length v.c2)) w.heap.size (fun k => k < w.heap.size ∨ k = T) s v ∧
  (∀ o, (((((((w2.setCell ⟨w.heap.size, 0, none⟩ (.slice v.a1 v.n1 v.c1)).setCell ⟨w.heap.size, 1, none⟩ (.slice v.hc.az 2 v.hc.cz)).setCell ⟨w.heap.size, 2, none⟩ (.slice v.hc.am 2 v.hc.cm)).setCell ⟨w.heap.size, 3, none⟩ (.int .i64 (s.h.aF : Int))).setCell ⟨w.heap.size, 4, none⟩ (.slice v.hc.al v.hc.lc.length v.hc.cl)).setCell ⟨w.heap.size, 5, none⟩ (.slice v.hc.av s.h.live.length v.hc.cv)).setCell ⟨w.heap.size, 6, none⟩ (.slice v.a2 v.ys.length v.c2)).cell? ⟨T, o, none⟩ = E[o]?) ∧
  (∀ o, (((((((w2.setCell ⟨w.heap.size, 0, none⟩ (.slice v.a1 v.n1 v.c1)).setCell ⟨w.heap.size, 1, none⟩ (.slice v.hc.az 2 v.hc.cz)).setCell ⟨w.heap.size, 2, none⟩ (.slice v.hc.am 2 v.hc.cm)).setCell ⟨w.heap.size, 3, none⟩ (.int .i64 (s.h.aF : Int))).setCell ⟨w.heap.size, 4, none⟩ (.slice v.hc.al v.hc.lc.length v.hc.cl)).setCell ⟨w.heap.size, 5, none⟩ (.slice v.hc.av s.h.live.length v.hc.cv)).setCell ⟨w.heap.size, 6, none⟩ (.slice v.a2 v.ys.length v.c2)).frozen? ⟨T, o, none⟩ = false) ∧
  Below w.heap.size w (((((((w2.setCell ⟨w.heap.size, 0, none⟩ (.slice v.a1 v.n1 v.c1)).setCell ⟨w.heap.size, 1, none⟩ (.slice v.hc.az 2 v.hc.cz)).setCell ⟨w.heap.size, 2, none⟩ (.slice v.hc.am 2 v.hc.cm)).setCell ⟨w.heap.size, 3, none⟩ (.int .i64 (s.h.aF : Int))).setCell ⟨w.heap.size, 4, none⟩ (.slice v.hc.al v.hc.lc.length v.hc.cl)).setCell ⟨w.heap.size, 5, none⟩ (.slice v.hc.av s.h.live.length v.hc.cv)).setCell ⟨w.heap.size, 6, none⟩ (.slice v.a2 v.ys.length v.c2)) := by
 have hw1 : w.heap.size < w1.heap.size := by omega
 have K12 := aB K1 hw1 hb2
 have F12 := aJ F1 hw1 hb2
 have rV : SR w2 w.heap.size (fun k => k < w.heap.size ∨ k = T) s v := SR.lift hn hw1 (fun k hk => by omega) (by omega)
 have hne : T ≠ w.heap.size := by omega
 have K0 := aB KT hT2 hb2
 have F0 := aJ FT hT2 hb2
 have hle := Nat.le_refl w.heap.size
 refine ⟨SS.put7 rV K12 F12, ?_, ?_, ?_⟩
 ·exact aA (aA (aA (aA (aA (aA (aA K0 hne 0 _) hne 1 _) hne 2 _) hne 3 _) hne 4 _) hne 5 _) hne 6 _
 ·exact aH (aH (aH (aH (aH (aH (aH F0 _ _) _ _) _ _) _ _) _ _) _ _) _ _
 ·exact Below.setCell (Below.setCell (Below.setCell (Below.setCell (Below.setCell (Below.setCell (Below.setCell (hb1.trans (hb2.mono hb1.size)) (show w.heap.size ≤ (⟨w.heap.size, 0, none⟩ : Addr).block from hle) _) (show w.heap.size ≤ (⟨w.heap.size, 1, none⟩ : Addr).block from hle) _) (show w.heap.size ≤ (⟨w.heap.size, 2, none⟩ : Addr).block from hle) _) (show w.heap.size ≤ (⟨w.heap.size, 3, none⟩ : Addr).block from hle) _) (show w.heap.size ≤ (⟨w.heap.size, 4, none⟩ : Addr).block from hle) _) (show w.heap.size ≤ (⟨w.heap.size, 5, none⟩ : Addr).block from hle) _) (show w.heap.size ≤ (⟨w.heap.size, 6, none⟩ : Addr).block from hle) _
theorem out7 {a0 a1 a2 a3 a4 a5 a6 : Value} (hs : SS w2 w.heap.size X s v) (hX : X T) (hB : ∀ k, k < w.heap.size → X k) (hT : w.heap.size < T) (KT : ∀ o, w2.cell? ⟨T, o, none⟩ = (#[a0, a1, a2, a3, a4, a5, a6] : Array Value)[o]?) (hb : Below w.heap.size w w2) :
  (∀ o, (((((((w2.setCell ⟨T, 0, none⟩ (.slice v.a1 v.n1 v.c1)).setCell ⟨T, 1, none⟩ (.slice v.hc.az 2 v.hc.cz)).setCell ⟨T, 2, none⟩ (.slice v.hc.am 2 v.hc.cm)).setCell ⟨T, 3, none⟩ (.int .i64 (s.h.aF : Int))).setCell ⟨T, 4, none⟩ (.slice v.hc.al v.hc.lc.length v.hc.cl)).setCell ⟨T, 5, none⟩ (.slice v.hc.av s.h.live.length v.hc.cv)).setCell ⟨T, 6, none⟩ (.slice v.a2 v.ys.length v.c2)).cell? ⟨T, o, none⟩ = (#[.slice v.a1 v.n1 v.c1, .slice v.hc.az 2 v.hc.cz, .slice v.hc.am 2 v.hc.cm, .int .i64 (s.h.aF : Int), .slice v.hc.al v.hc.lc.length v.hc.cl, .slice v.hc.av s.h.live.length v.hc.cv, .slice v.a2 v.ys.length v.c2] : Array Value)[o]?) ∧
  jY (((((((w2.setCell ⟨T, 0, none⟩ (.slice v.a1 v.n1 v.c1)).setCell ⟨T, 1, none⟩ (.slice v.hc.az 2 v.hc.cz)).setCell ⟨T, 2, none⟩ (.slice v.hc.am 2 v.hc.cm)).setCell ⟨T, 3, none⟩ (.int .i64 (s.h.aF : Int))).setCell ⟨T, 4, none⟩ (.slice v.hc.al v.hc.lc.length v.hc.cl)).setCell ⟨T, 5, none⟩ (.slice v.hc.av s.h.live.length v.hc.cv)).setCell ⟨T, 6, none⟩ (.slice v.a2 v.ys.length v.c2)) w.heap.size s v ∧
  Below w.heap.size w (((((((w2.setCell ⟨T, 0, none⟩ (.slice v.a1 v.n1 v.c1)).setCell ⟨T, 1, none⟩ (.slice v.hc.az 2 v.hc.cz)).setCell ⟨T, 2, none⟩ (.slice v.hc.am 2 v.hc.cm)).setCell ⟨T, 3, none⟩ (.int .i64 (s.h.aF : Int))).setCell ⟨T, 4, none⟩ (.slice v.hc.al v.hc.lc.length v.hc.cl)).setCell ⟨T, 5, none⟩ (.slice v.hc.av s.h.live.length v.hc.cv)).setCell ⟨T, 6, none⟩ (.slice v.a2 v.ys.length v.c2)) := by
 have KX := (aG (aG (aG (aG (aG (aG (aG KT 0 (.slice v.a1 v.n1 v.c1)) 1 (.slice v.hc.az 2 v.hc.cz)) 2 (.slice v.hc.am 2 v.hc.cm)) 3 (.int .i64 (s.h.aF : Int))) 4 (.slice v.hc.al v.hc.lc.length v.hc.cl)) 5 (.slice v.hc.av s.h.live.length v.hc.cv)) 6 (.slice v.a2 v.ys.length v.c2))
 simp only [gE, gG, gH] at KX
 have hle := gR hT
 refine ⟨KX, (SS.sub (((((((hs.dQ hX 0 _).dQ hX 1 _).dQ hX 2 _).dQ hX 3 _).dQ hX 4 _).dQ hX 5 _).dQ hX 6 _) hB).r, ?_⟩
 exact Below.setCell (Below.setCell (Below.setCell (Below.setCell (Below.setCell (Below.setCell (Below.setCell hb (show w.heap.size ≤ (⟨T, 0, none⟩ : Addr).block from hle) _) (show w.heap.size ≤ (⟨T, 1, none⟩ : Addr).block from hle) _) (show w.heap.size ≤ (⟨T, 2, none⟩ : Addr).block from hle) _) (show w.heap.size ≤ (⟨T, 3, none⟩ : Addr).block from hle) _) (show w.heap.size ≤ (⟨T, 4, none⟩ : Addr).block from hle) _) (show w.heap.size ≤ (⟨T, 5, none⟩ : Addr).block from hle) _) (show w.heap.size ≤ (⟨T, 6, none⟩ : Addr).block from hle) _
theorem SR.aBE {W : World} {G : Nat} (hs : SR W G X s v) {i : Nat} (hi : i < v.ys.length) {y : Cc} (hy : v.ys[i] = y) {gw : Nat} (hgw : v.a1 = some ⟨gw, 0, none⟩) : (kU y).v.ownBlock ≠ some gw := fun e => by
 subst hy
 have h := (hs.FX hi).off (i := 0) (j := 3) (by simp) (by simp) (by decide) gw (by show (uX v s).v.ownBlock = _; unfold uX; rw [hgw]; rfl)
 exact h e
end
end
section
open Go.RowKit

theorem nil7 {w W : World} {T : Nat} (K : ∀ o, W.cell? ⟨T, o, none⟩ = (#[.slice none 0 0, .slice none 0 0, .slice none 0 0, .int .i64 0, .slice none 0 0, .slice none 0 0, .slice none 0 0] : Array Value)[o]?) (hb : Below w.heap.size w W) (hT : w.heap.size ≤ T) :
  (∀ o, (((((((W.setCell ⟨T, 0, none⟩ (.slice none 0 0)).setCell ⟨T, 1, none⟩ (.slice none 0 0)).setCell ⟨T, 2, none⟩ (.slice none 0 0)).setCell ⟨T, 3, none⟩ (.int .i64 0)).setCell ⟨T, 4, none⟩ (.slice none 0 0)).setCell ⟨T, 5, none⟩ (.slice none 0 0)).setCell ⟨T, 6, none⟩ (.slice none 0 0)).cell? ⟨T, o, none⟩ = (#[.slice none 0 0, .slice none 0 0, .slice none 0 0, .int .i64 0, .slice none 0 0, .slice none 0 0, .slice none 0 0] : Array Value)[o]?) ∧ Below w.heap.size w (((((((W.setCell ⟨T, 0, none⟩ (.slice none 0 0)).setCell ⟨T, 1, none⟩ (.slice none 0 0)).setCell ⟨T, 2, none⟩ (.slice none 0 0)).setCell ⟨T, 3, none⟩ (.int .i64 0)).setCell ⟨T, 4, none⟩ (.slice none 0 0)).setCell ⟨T, 5, none⟩ (.slice none 0 0)).setCell ⟨T, 6, none⟩ (.slice none 0 0)) := by
 have KX := (aG (aG (aG (aG (aG (aG (aG K 0 (.slice none 0 0)) 1 (.slice none 0 0)) 2 (.slice none 0 0)) 3 (.int .i64 0)) 4 (.slice none 0 0)) 5 (.slice none 0 0)) 6 (.slice none 0 0))
 simp only [gE, gG, gH] at KX
 exact ⟨KX, Below.setCell (Below.setCell (Below.setCell (Below.setCell (Below.setCell (Below.setCell (Below.setCell hb (show w.heap.size ≤ (⟨T, 0, none⟩ : Addr).block from hT) (.slice none 0 0)) (show w.heap.size ≤ (⟨T, 1, none⟩ : Addr).block from hT) (.slice none 0 0)) (show w.heap.size ≤ (⟨T, 2, none⟩ : Addr).block from hT) (.slice none 0 0)) (show w.heap.size ≤ (⟨T, 3, none⟩ : Addr).block from hT) (.int .i64 0)) (show w.heap.size ≤ (⟨T, 4, none⟩ : Addr).block from hT) (.slice none 0 0)) (show w.heap.size ≤ (⟨T, 5, none⟩ : Addr).block from hT) (.slice none 0 0)) (show w.heap.size ≤ (⟨T, 6, none⟩ : Addr).block from hT) (.slice none 0 0)⟩

set_option maxHeartbeats 8000000 in
set_option maxRecDepth 100000 in
theorem OY (v : Sc) (s : Sy) (n : List UInt8) (cpu : Int) (w : World) (hs : qF w v s) (hk : dM s) (hf : ∀ c ∈ s.cs, c.ns.length ≤ 1000) (hi : s.named n = none) :
  Calls Tryz.prog 71 #[.agg #[.slice v.a1 v.n1 v.c1, .slice v.hc.az 2 v.hc.cz, .slice v.hc.am 2 v.hc.cm, .int .i64 (s.h.aF : Int), .slice v.hc.al v.hc.lc.length v.hc.cl, .slice v.hc.av s.h.live.length v.hc.cv, .slice v.a2 v.ys.length v.c2], .string ⟨n.toArray⟩, .int .i64 cpu] w fun ev w' => ev = .returned (.tuple #[.agg #[.slice none 0 0, .slice none 0 0, .slice none 0 0, .int .i64 0, .slice none 0 0, .slice none 0 0, .slice none 0 0], .int .i64 0, .int .i64 4]) ∧ Below w.heap.size w w' := by
 obtain ⟨K1, K2, F1, F2, hsz, hbw⟩ := boxes2 w #[.slice v.a1 v.n1 v.c1, .slice v.hc.az 2 v.hc.cz, .slice v.hc.am 2 v.hc.cm, .int .i64 (s.h.aF : Int), .slice v.hc.al v.hc.lc.length v.hc.cl, .slice v.hc.av s.h.live.length v.hc.cv, .slice v.a2 v.ys.length v.c2] 47 #[.slice none 0 0, .slice none 0 0, .slice none 0 0, .int .i64 0, .slice none 0 0, .slice none 0 0, .slice none 0 0] 47
 have hs1 := hs.below hbw
 have hyl : v.ys.length ≤ 20 := by have := congrArg List.length hs.cy; rw [List.length_map] at this; rw [this]; exact hk.cl
 have hfi : bZ (fun c : Ca => c.ns.contains n) s.cs = -1 := by
  unfold Sy.named at hi
  unfold bZ
  rw [hi]
 obtain ⟨k0, k1, k2, k3, k4, k5, k6⟩ := gA7 K1
 have HF := gO hf
 have HK := gO hk
 have HS1 := gO hs1
 have HB1 := gO hbw
 have HK1 := gO K1
 have HK2 := gO K2
 have HF2 := gO F2
 have Rt : w.heap.size < ((w.alloc (.cells #[.slice v.a1 v.n1 v.c1, .slice v.hc.az 2 v.hc.cz, .slice v.hc.am 2 v.hc.cm, .int .i64 (s.h.aF : Int), .slice v.hc.al v.hc.lc.length v.hc.cl, .slice v.hc.av s.h.live.length v.hc.cv, .slice v.a2 v.ys.length v.c2] 47)).alloc (.cells #[.slice none 0 0, .slice none 0 0, .slice none 0 0, .int .i64 0, .slice none 0 0, .slice none 0 0, .slice none 0 0] 47)).heap.size := by simp; omega
 clear hs hk hf hi K1 K2 F1 F2 hs1 hbw
 go_enter Tryz.func71, Tryz.ntmps71
 go_upto_region 1 with fail
 generalize (w.alloc (.cells #[.slice v.a1 v.n1 v.c1, .slice v.hc.az 2 v.hc.cz, .slice v.hc.am 2 v.hc.cm, .int .i64 (s.h.aF : Int), .slice v.hc.al v.hc.lc.length v.hc.cl, .slice v.hc.av s.h.live.length v.hc.cv, .slice v.a2 v.ys.length v.c2] 47)).alloc (.cells #[.slice none 0 0, .slice none 0 0, .slice none 0 0, .int .i64 0, .slice none 0 0, .slice none 0 0, .slice none 0 0] 47) = w2 at *
 go_upto_region 4 with (go_at_call 38; refine (qX v s w2 HS1.out HK.out HF.out).mono ?_; rintro ev w3 ⟨rfl, hb3⟩)
 have hs3 := gO (HS1.out.below hb3)
 have K13 := gO (aB HK1.out Rt hb3)
 have Mc := gI Rt hb3.size
 clear k0 k1 k2 k3 k4 k5 k6
 obtain ⟨k0, k1, k2, k3, k4, k5, k6⟩ := gA7 K13.out
 have hnamed := wY v s n w3 hs3.out HF.out hyl
 rw [hfi, show decide ((0 : Int) ≤ -1) = false from rfl] at hnamed
 have Ya := gO hnamed
 have HB3 := gO hb3
 clear hnamed hfi
 have HT3 := gO (aB HK2.out hsz hb3)
 have HU3 := gO (aJ HF2.out hsz hb3)
 have hsz3 := gI hsz hb3.size
 have HBB := gO (Below.step HB1.out hb3)
 clear hb3
 go_upto_region 6 with (go_at_call 65; refine Ya.out.mono ?_; rintro ev w4 ⟨rfl, hb4⟩)
 have jJ := gO (aB HT3.out hsz3 hb4)
 have Az := gO (aJ HU3.out hsz3 hb4)
 have AA := gO (Below.step HBB.out hb4)
 obtain ⟨q0, q1, q2, q3, q4, q5, q6⟩ := gA7 jJ.out
 obtain ⟨f0, f1, f2, f3, f4, f5, f6⟩ := gF7 Az.out
 have qN := nil7 jJ.out AA.out (show w.heap.size ≤ w.heap.size + 1 by omega)
 have KX := qN.1
 have kK := gO qN.2
 clear qN jJ Az AA
 go_wp2_with fail
 generalize ((((((w4.setCell ⟨w.heap.size + 1, 0, none⟩ (.slice none 0 0)).setCell ⟨w.heap.size + 1, 1, none⟩ (.slice none 0 0)).setCell ⟨w.heap.size + 1, 2, none⟩ (.slice none 0 0)).setCell ⟨w.heap.size + 1, 3, none⟩ (.int .i64 0)).setCell ⟨w.heap.size + 1, 4, none⟩ (.slice none 0 0)).setCell ⟨w.heap.size + 1, 5, none⟩ (.slice none 0 0)).setCell ⟨w.heap.size + 1, 6, none⟩ (.slice none 0 0) = wx at *
 exact bodyPost_ret (v := .tuple #[.agg #[.slice none 0 0, .slice none 0 0, .slice none 0 0, .int .i64 0, .slice none 0 0, .slice none 0 0, .slice none 0 0], .int .i64 0, .int .i64 4]) (by simp [results, Tryz.results71, go_sem, KX]) rfl (⟨rfl, kK.out⟩)


theorem aBU {w w1 w2 : World} {T : Nat} {E : Array Value} (hb1 : Below w.heap.size w w1) (hT : w.heap.size < T) (hT2 : T < w1.heap.size)
  (KT : ∀ o, w1.cell? ⟨T, o, none⟩ = E[o]?) (FT : ∀ o, w1.frozen? ⟨T, o, none⟩ = false) (hb2 : Below w1.heap.size w1 w2) :
  (∀ o, (((((((w2.setCell ⟨w.heap.size, 0, none⟩ (.slice none 0 0)).setCell ⟨w.heap.size, 1, none⟩ (.slice none 0 0)).setCell ⟨w.heap.size, 2, none⟩ (.slice none 0 0)).setCell ⟨w.heap.size, 3, none⟩ (.int .i64 0)).setCell ⟨w.heap.size, 4, none⟩ (.slice none 0 0)).setCell ⟨w.heap.size, 5, none⟩ (.slice none 0 0)).setCell ⟨w.heap.size, 6, none⟩ (.slice none 0 0)).cell? ⟨T, o, none⟩ = E[o]?) ∧ (∀ o, (((((((w2.setCell ⟨w.heap.size, 0, none⟩ (.slice none 0 0)).setCell ⟨w.heap.size, 1, none⟩ (.slice none 0 0)).setCell ⟨w.heap.size, 2, none⟩ (.slice none 0 0)).setCell ⟨w.heap.size, 3, none⟩ (.int .i64 0)).setCell ⟨w.heap.size, 4, none⟩ (.slice none 0 0)).setCell ⟨w.heap.size, 5, none⟩ (.slice none 0 0)).setCell ⟨w.heap.size, 6, none⟩ (.slice none 0 0)).frozen? ⟨T, o, none⟩ = false) ∧ Below w.heap.size w (((((((w2.setCell ⟨w.heap.size, 0, none⟩ (.slice none 0 0)).setCell ⟨w.heap.size, 1, none⟩ (.slice none 0 0)).setCell ⟨w.heap.size, 2, none⟩ (.slice none 0 0)).setCell ⟨w.heap.size, 3, none⟩ (.int .i64 0)).setCell ⟨w.heap.size, 4, none⟩ (.slice none 0 0)).setCell ⟨w.heap.size, 5, none⟩ (.slice none 0 0)).setCell ⟨w.heap.size, 6, none⟩ (.slice none 0 0)) := by
 have K0 := aB KT hT2 hb2
 have F0 := aJ FT hT2 hb2
 have hne : T ≠ w.heap.size := by omega
 have K7 := aA (aA (aA (aA (aA (aA (aA K0 hne 0 (.slice none 0 0)) hne 1 (.slice none 0 0)) hne 2 (.slice none 0 0)) hne 3 (.int .i64 0)) hne 4 (.slice none 0 0)) hne 5 (.slice none 0 0)) hne 6 (.slice none 0 0)
 have F7 := aH (aH (aH (aH (aH (aH (aH F0 ⟨w.heap.size, 0, none⟩ (.slice none 0 0)) ⟨w.heap.size, 1, none⟩ (.slice none 0 0)) ⟨w.heap.size, 2, none⟩ (.slice none 0 0)) ⟨w.heap.size, 3, none⟩ (.int .i64 0)) ⟨w.heap.size, 4, none⟩ (.slice none 0 0)) ⟨w.heap.size, 5, none⟩ (.slice none 0 0)) ⟨w.heap.size, 6, none⟩ (.slice none 0 0)
 have hb := Below.trans hb1 (hb2.mono hb1.size)
 exact ⟨K7, F7, Below.setCell (Below.setCell (Below.setCell (Below.setCell (Below.setCell (Below.setCell (Below.setCell hb (show w.heap.size ≤ (⟨w.heap.size, 0, none⟩ : Addr).block from Nat.le_refl _) (.slice none 0 0)) (show w.heap.size ≤ (⟨w.heap.size, 1, none⟩ : Addr).block from Nat.le_refl _) (.slice none 0 0)) (show w.heap.size ≤ (⟨w.heap.size, 2, none⟩ : Addr).block from Nat.le_refl _) (.slice none 0 0)) (show w.heap.size ≤ (⟨w.heap.size, 3, none⟩ : Addr).block from Nat.le_refl _) (.int .i64 0)) (show w.heap.size ≤ (⟨w.heap.size, 4, none⟩ : Addr).block from Nat.le_refl _) (.slice none 0 0)) (show w.heap.size ≤ (⟨w.heap.size, 5, none⟩ : Addr).block from Nat.le_refl _) (.slice none 0 0)) (show w.heap.size ≤ (⟨w.heap.size, 6, none⟩ : Addr).block from Nat.le_refl _) (.slice none 0 0)⟩

set_option maxHeartbeats 8000000 in
set_option maxRecDepth 100000 in
theorem Io (v : Sc) (s : Sy) (n : List UInt8) (cpu : Int) (w : World) (hs : qF w v s) (hk : dM s) (hf : ∀ c ∈ s.cs, c.ns.length ≤ 1000) (hi : s.named n = none) :
  Calls Tryz.prog 32 #[.agg #[.slice v.a1 v.n1 v.c1, .slice v.hc.az 2 v.hc.cz, .slice v.hc.am 2 v.hc.cm, .int .i64 (s.h.aF : Int), .slice v.hc.al v.hc.lc.length v.hc.cl, .slice v.hc.av s.h.live.length v.hc.cv, .slice v.a2 v.ys.length v.c2], .string ⟨n.toArray⟩, .int .i64 cpu] w fun ev w' => ev = .returned (.tuple #[.agg #[.slice none 0 0, .slice none 0 0, .slice none 0 0, .int .i64 0, .slice none 0 0, .slice none 0 0, .slice none 0 0], .int .i64 0, .int .i64 4]) ∧ Below w.heap.size w w' := by
 obtain ⟨K1, K2, F1, F2, hsz, hbw⟩ := boxes2 w #[.slice v.a1 v.n1 v.c1, .slice v.hc.az 2 v.hc.cz, .slice v.hc.am 2 v.hc.cm, .int .i64 (s.h.aF : Int), .slice v.hc.al v.hc.lc.length v.hc.cl, .slice v.hc.av s.h.live.length v.hc.cv, .slice v.a2 v.ys.length v.c2] 47 #[.slice none 0 0, .slice none 0 0, .slice none 0 0, .int .i64 0, .slice none 0 0, .slice none 0 0, .slice none 0 0] 47
 have HA := gO (OY v s n cpu _ (hs.below hbw) hk hf hi)
 obtain ⟨k0, k1, k2, k3, k4, k5, k6⟩ := gA7 K1
 have HB1 := gO hbw
 have HK1 := gO K1
 have HF1 := gO F1
 have HK2 := gO K2
 have HF2 := gO F2
 clear hs hk hf hi K1 K2 F1 F2 hbw
 go_enter Tryz.func32, Tryz.ntmps32
 go_upto_region 1 with fail
 generalize (w.alloc (.cells #[.slice v.a1 v.n1 v.c1, .slice v.hc.az 2 v.hc.cz, .slice v.hc.am 2 v.hc.cm, .int .i64 (s.h.aF : Int), .slice v.hc.al v.hc.lc.length v.hc.cl, .slice v.hc.av s.h.live.length v.hc.cv, .slice v.a2 v.ys.length v.c2] 47)).alloc (.cells #[.slice none 0 0, .slice none 0 0, .slice none 0 0, .int .i64 0, .slice none 0 0, .slice none 0 0, .slice none 0 0] 47) = w1 at *
 have hsz1 : w.heap.size < w1.heap.size := by omega
 go_upto_region 2 with (go_at_call 71; refine HA.out.mono ?_; rintro ev w2 ⟨rfl, hb2⟩; have K12 := aB HK1.out hsz1 hb2; have F12 := aJ HF1.out hsz1 hb2; obtain ⟨y0, y1, y2, y3, y4, y5, y6⟩ := gA7 K12; obtain ⟨f0, f1, f2, f3, f4, f5, f6⟩ := gF7 F12; skip)
 have rH := aBU (T := w.heap.size + 1) HB1.out (Nat.lt_succ_self _) hsz HK2.out HF2.out hb2
 have HT3 := gO rH.1
 have HU3 := gO rH.2.1
 have HB3 := gO rH.2.2
 clear K12 F12 y0 y1 y2 y3 y4 y5 y6 f0 f1 f2 f3 f4 f5 f6 rH HA k0 k1 k2 k3 k4 k5 k6 HK1 HF1 HK2 HF2 hb2 HB1 hsz1
 generalize ((((((w2.setCell ⟨w.heap.size, 0, none⟩ (.slice none 0 0)).setCell ⟨w.heap.size, 1, none⟩ (.slice none 0 0)).setCell ⟨w.heap.size, 2, none⟩ (.slice none 0 0)).setCell ⟨w.heap.size, 3, none⟩ (.int .i64 0)).setCell ⟨w.heap.size, 4, none⟩ (.slice none 0 0)).setCell ⟨w.heap.size, 5, none⟩ (.slice none 0 0)).setCell ⟨w.heap.size, 6, none⟩ (.slice none 0 0) = w3 at *

 have jJ := HT3
 have Az := HU3
 have AA := HB3
 clear HT3 HU3 HB3
 obtain ⟨q0, q1, q2, q3, q4, q5, q6⟩ := gA7 jJ.out
 obtain ⟨f0, f1, f2, f3, f4, f5, f6⟩ := gF7 Az.out
 have qN := nil7 jJ.out AA.out (show w.heap.size ≤ w.heap.size + 1 by omega)
 have KX := qN.1
 have kK := gO qN.2
 clear qN jJ Az AA
 go_wp2_with fail
 generalize ((((((w3.setCell ⟨w.heap.size + 1, 0, none⟩ (.slice none 0 0)).setCell ⟨w.heap.size + 1, 1, none⟩ (.slice none 0 0)).setCell ⟨w.heap.size + 1, 2, none⟩ (.slice none 0 0)).setCell ⟨w.heap.size + 1, 3, none⟩ (.int .i64 0)).setCell ⟨w.heap.size + 1, 4, none⟩ (.slice none 0 0)).setCell ⟨w.heap.size + 1, 5, none⟩ (.slice none 0 0)).setCell ⟨w.heap.size + 1, 6, none⟩ (.slice none 0 0) = wx at *
 exact bodyPost_ret (v := .tuple #[.agg #[.slice none 0 0, .slice none 0 0, .slice none 0 0, .int .i64 0, .slice none 0 0, .slice none 0 0, .slice none 0 0], .int .i64 0, .int .i64 4]) (by simp [results, Tryz.results32, go_sem, KX]) rfl (⟨rfl, kK.out⟩)
end
section
open Go.RowKit
theorem rW {α β : Type} (f : α → β) : ∀ (l : List α) (i : Nat), (l.eraseIdx i).map f = (l.map f).eraseIdx i
 | [], _ => rfl
 | _ :: _, 0 => rfl
 | a :: l, i + 1 => by simp only [List.eraseIdx_cons_succ, List.map_cons, rW f l i]
section
variable {W W9 : World} {G : Nat} {X : Nat → Prop} {s : Sy} {v : Sc}
theorem SS.aET (hs : SS W G X s v) {i : Nat} (hi : i < v.ys.length) (hg : W.grownBy W9 (jP v).v.ownBlock)
  (ho9 : W9.ownsRow 0 94 6 (.slice v.a2 (v.ys.length - 1) v.c2) (v.ys.length - 1) (flat bW (v.ys.eraseIdx i))) :
  ∃ v', SS (W9.setCell ⟨G, 6, none⟩ (.slice v.a2 (v.ys.length - 1 : Nat) v.c2)) G X { s with cs := s.cs.eraseIdx i } v' ∧ Safe X W (W9.setCell ⟨G, 6, none⟩ (.slice v.a2 (v.ys.length - 1 : Nat) v.c2)) := by
 have hlen : (v.ys.eraseIdx i).length = v.ys.length - 1 := List.length_eraseIdx_of_lt hi
 have hob : (Value.slice v.a2 (v.ys.length - 1) v.c2).ownBlock = (jP v).v.ownBlock := by
  unfold jP
  cases v.a2 <;> rfl
 have o1 := (hs.r.FX hi).grown (i := 1) (by simp) hg (r' := ⟨94, 6, .slice v.a2 (v.ys.length - 1) v.c2, v.ys.length - 1, flat bW (v.ys.eraseIdx i)⟩) ho9 (fun g h => .inl (hob.symm.trans h))
 have o2 : cZ W9 0 (uX v s :: (⟨94, 6, .slice v.a2 (v.ys.length - 1) v.c2, v.ys.length - 1, flat bW (v.ys.eraseIdx i)⟩ : Rs) :: (v.ys.eraseIdx i).flatMap eX) :=
  o1.sub ((((List.sublist_cons_self _ _).trans (List.sublist_cons_self _ _)).trans (List.sublist_cons_self _ _)).cons_cons _ |>.cons_cons _)
 have hrows : ({ v with ys := v.ys.eraseIdx i } : Sc).rows { s with cs := s.cs.eraseIdx i } = uX v s :: (⟨94, 6, .slice v.a2 (v.ys.length - 1) v.c2, v.ys.length - 1, flat bW (v.ys.eraseIdx i)⟩ : Rs) :: (v.ys.eraseIdx i).flatMap eX := by
  unfold Sc.rows jP
  simp only [hlen]
  rfl
 have hsf : Safe (fun k => ¬ v.blk s G k) W W9 := Safe.jM hg fun k hk e => hk (.inr ⟨jP v, dS v s, e.symm⟩)
 have h9 := hs.r.step (s' := { s with cs := s.cs.eraseIdx i }) (v' := { v with ys := v.ys.eraseIdx i }) hsf rfl rfl (by rw [hrows]; exact o2) (fun r hr g hg' => by
  rw [hrows] at hr
  rcases List.mem_cons.1 hr with rfl | hr
  ·exact .inl ⟨_, nD v s, hg'⟩
  ·rcases List.mem_cons.1 hr with rfl | hr
   ·exact .inl ⟨_, dS v s, by rw [← hob]; exact hg'⟩
   ·obtain ⟨y, hy, hr⟩ := List.mem_flatMap.1 hr
    exact .inl ⟨r, iV ((List.eraseIdx_sublist _ _).subset hy) hr, hg'⟩) (by
  show (v.ys.eraseIdx i).map (·.c) = s.cs.eraseIdx i
  rw [← hs.r.cy, rW])
 have hG : some G ≠ (jP v).v.ownBlock := fun e => (hs.r.og _ (dS v s) G e.symm).1 rfl
 have K := aG (bH hs.k hs.r.hr.gs hg hG) 6 (.slice v.a2 (v.ys.length - 1 : Nat) v.c2)
 have hv : ({ v with ys := v.ys.eraseIdx i } : Sc).vals { s with cs := s.cs.eraseIdx i } = (v.vals s).setIfInBounds 6 (.slice v.a2 (v.ys.length - 1 : Nat) v.c2) := by
  unfold Sc.vals
  simp only [hlen]
  rfl
 rw [← hv] at K
 exact ⟨_, ⟨h9.lQ 6 _, K, aH (bI hs.fz hs.r.hr.gs hg hG) _ _⟩, (Safe.jM hg fun k hk e => (hs.r.og _ (dS v s) k e.symm).2 hk).set hs.r.hr.xg 6 _⟩
end
end
section
theorem Dy (h : Hp) : (fA h 6).named [120, 97] = none := rfl
theorem AP {h : Hp} (hk : dX h) : ∀ j, j ≤ 6 → dM (fA h j)
 | 0, _ => Hg hk
 | j + 1, hj => by
  obtain ⟨h1, h2, h3⟩ := tH h (j := j) (by omega)
  have hz : 1 ≤ [1, 2, 4, 8, 16, 32].getD j 0 ∧ [1, 2, 4, 8, 16, 32].getD j 0 ≤ 64 := by
   obtain rfl | rfl | rfl | rfl | rfl | rfl : j = 0 ∨ j = 1 ∨ j = 2 ∨ j = 3 ∨ j = 4 ∨ j = 5 := by omega
   all_goals decide
  exact ((AP hk j (by omega)).create h3 hz h1 h2).1
end
end Go.Proofs.YtcmpmobhongkiaaGreatDoor
