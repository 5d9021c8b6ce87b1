/- Sb1, Hs2, Hs3, Hs4, Hs5, Mp, Sy4: texts of this claim, joined. -/
import Derived.Test.YtkcaheebaicinaaGreatDoorSN1
import Derived.Test.YtkcaheebaicinaaGreatDoorSN10
import Derived.Test.YtkcaheebaicinaaGreatDoorSN19
import Derived.Test.YtkcaheebaicinaaGreatDoorSN4
import Derived.Lib.ConvBytes
import Derived.Maps.OwnOps
import Derived.Maps.Views
/- Systems in memory: caches, slabs, names; contracts of package slab's small functions: object, name. -/
namespace Go.Proofs.YtkcaheebaicinaaGreatDoor
open Go.RowKit
set_option linter.unusedVariables false

/-! ## How things lie in memory -/
def sV (l : List UInt8) : Value := .string ⟨l.toArray⟩
def encS (l : List UInt8) : List Value := [sV l]
theorem encS_length (l : List UInt8) : (encS l).length = 1 := rfl
theorem encS_cells {w : World} {g o : Nat} {r : List UInt8} (hc : ∀ i v, (encS r)[i]? = some v → w.cell? ⟨g, o + i, none⟩ = some v) : w.cell? ⟨g, o, none⟩ = some (.string ⟨r.toArray⟩) := hc 0 _ rfl
def encSl (x : Sl) : List Value := [vI x.p, vI x.n, vI x.h]
theorem encSl_length (x : Sl) : (encSl x).length = 3 := rfl
theorem encSl_cells {w : World} {b o : Nat} {r : Sl} (hc : ∀ i v, (encSl r)[i]? = some v → w.cell? ⟨b, o + i, none⟩ = some v) : w.cell? ⟨b, o, none⟩ = some (.int .i64 r.p) ∧ w.cell? ⟨b, o + 1, none⟩ = some (.int .i64 r.n) ∧ w.cell? ⟨b, o + 2, none⟩ = some (.int .i64 r.h) := ⟨hc 0 _ rfl, hc 1 _ rfl, hc 2 _ rfl⟩
/-- a cache, and where its lists lie -/
structure Cc where
  a1 : Option Addr
  n1 : Nat
  c1 : Nat
  a2 : Option Addr
  n2 : Nat
  c2 : Nat
  a3 : Option Addr
  n3 : Nat
  c3 : Nat
  c : Ca
def encCc (y : Cc) : List Value := [.slice y.a1 y.n1 y.c1, vI y.c.z, vI y.c.r, vI y.c.o, .slice y.a2 y.n2 y.c2, .slice y.a3 y.n3 y.c3]
theorem encCc_length (y : Cc) : (encCc y).length = 6 := rfl
theorem encCc_cells {w : World} {b o : Nat} {y : Cc} (hc : ∀ i v, (encCc y)[i]? = some v → w.cell? ⟨b, o + i, none⟩ = some v) : w.cell? ⟨b, o, none⟩ = some (.slice y.a1 y.n1 y.c1) ∧ w.cell? ⟨b, o + 1, none⟩ = some (.int .i64 y.c.z) ∧ w.cell? ⟨b, o + 2, none⟩ = some (.int .i64 y.c.r) ∧ w.cell? ⟨b, o + 3, none⟩ = some (.int .i64 y.c.o) ∧ w.cell? ⟨b, o + 4, none⟩ = some (.slice y.a2 y.n2 y.c2) ∧ w.cell? ⟨b, o + 5, none⟩ = some (.slice y.a3 y.n3 y.c3) := ⟨hc 0 _ rfl, hc 1 _ rfl, hc 2 _ rfl, hc 3 _ rfl, hc 4 _ rfl, hc 5 _ rfl⟩
/-- a cache's lists are there -/
structure CcAt (w : World) (y : Cc) : Prop where
  l1 : y.c.ns.length = y.n1
  l2 : y.c.sl.length = y.n2
  l3 : y.c.ac.length = y.n3
  r1 : Row w y.a1 (flat encS y.c.ns)
  r2 : Row w y.a2 (flat encSl y.c.sl)
  r3 : Row w y.a3 (y.c.ac.map vI)
  k1 : y.n1 ≤ y.c1
  k2 : y.n2 ≤ y.c2
  k3 : y.n3 ≤ y.c3
theorem CcAt.below {w w' : World} {y : Cc} (h : CcAt w y) (hb : Below w.heap.size w w') : CcAt w' y := ⟨h.l1, h.l2, h.l3, h.r1.below hb, h.r2.below hb, h.r3.below hb, h.k1, h.k2, h.k3⟩

/-- the six words of a cache -/
def ccV (a1 : Option Addr) (n1 c1 : Nat) (z r o : Int) (a2 : Option Addr) (n2 c2 : Nat) (a3 : Option Addr) (n3 c3 : Nat) : Array Value := #[.slice a1 n1 c1, .int .i64 z, .int .i64 r, .int .i64 o, .slice a2 n2 c2, .slice a3 n3 c3]

set_option maxHeartbeats 4000000 in
set_option maxRecDepth 100000 in
/-- is it where an object begins? -/
theorem objectS_ok (c : Ca) (a1 a2 a3 : Option Addr) (n1 c1 n2 c2 n3 c3 p : Nat) (a : Int) (w : World) (hz : 1 ≤ c.z) (hrz : c.r * c.z ≤ 100000) (hp : p ≤ 1000) (ha1 : -1000000000000 ≤ a) (ha2 : a ≤ 1000000000000) :
    Calls Tryz.prog 83 #[.agg #[.slice a1 n1 c1, .int .i64 c.z, .int .i64 c.r, .int .i64 c.o, .slice a2 n2 c2, .slice a3 n3 c3], .int .i64 p, .int .i64 a] w fun ev w' => ev = .returned (.bool (objB c p a)) ∧ Below w.heap.size w w' := by
  have hb := below_alloc w (.cells #[.slice a1 n1 c1, .int .i64 (c.z : Int), .int .i64 (c.r : Int), .int .i64 (c.o : Int), .slice a2 n2 c2, .slice a3 n3 c3] 72)
  have K := box_new w #[.slice a1 n1 c1, .int .i64 (c.z : Int), .int .i64 (c.r : Int), .int .i64 (c.o : Int), .slice a2 n2 c2, .slice a3 n3 c3] 72
  have k1 := K 1
  have k2 := K 2
  simp only [List.getElem?_toArray, List.getElem?_cons_zero, List.getElem?_cons_succ] at k1 k2
  have hmul : ((c.r : Int) * (c.z : Int)) = ((c.r * c.z : Nat) : Int) := by rw [Int.natCast_mul]
  have hnn : 0 ≤ (c.r : Int) * (c.z : Int) := by rw [hmul]; omega
  have hub : (c.r : Int) * (c.z : Int) ≤ 100000 := by rw [hmul]; omega
  clear hmul
  have HB := Hid.mk hb
  clear hb K
  have hzi : ((c.z : Int) == 0) = false := by rw [beq_eq_false_iff_ne]; omega
  by_cases h1 : 0 ≤ a - p * 16
  · by_cases h2 : a - p * 16 < (c.r : Int) * c.z
    · have d1 : decide (0 ≤ a - (p : Int) * 16) = true := decide_eq_true h1
      go_enter Tryz.func83, Tryz.ntmps83
      go_wp2_with fail
      go_ret
      refine ⟨ret_bool ?_, HB.out⟩
      unfold objB
      rw [Int.mul_comm 16 (p : Int)]
      by_cases h3 : (a - (p : Int) * 16) % (c.z : Int) = 0
      · rw [h3, decide_eq_true ⟨h1, h2, rfl⟩]; rfl
      · rw [decide_eq_false (fun h => h3 h.2.2)]
        exact beq_eq_false_iff_ne.2 h3
    · have d1 : decide (0 ≤ a - (p : Int) * 16) = true := decide_eq_true h1
      go_enter Tryz.func83, Tryz.ntmps83
      go_wp2_with fail
      go_ret
      refine ⟨ret_bool ?_, HB.out⟩
      unfold objB
      rw [Int.mul_comm 16 (p : Int)]
      symm
      exact decide_eq_false (fun h => absurd h.2.1 (Int.not_lt.2 h2))
  · have d1 : decide (0 ≤ a - (p : Int) * 16) = false := decide_eq_false h1
    go_enter Tryz.func83, Tryz.ntmps83
    go_wp2_with fail
    go_ret
    refine ⟨ret_bool ?_, HB.out⟩
    unfold objB
    rw [Int.mul_comm 16 (p : Int)]
    symm
    exact decide_eq_false (fun h => absurd h.1 (Int.not_le.2 h1))
end Go.Proofs.YtkcaheebaicinaaGreatDoor
/- The heap behind a pointer: a zone is put in its place. No program in sight. -/
namespace Go.Proofs.YtkcaheebaicinaaGreatDoor
open Go.RowKit
set_option linter.unusedVariables false

/-- a word of a heap's zones, lists .. is written -/
def put4 (W : World) (g o : Nat) (u0 u1 u2 u3 : Value) : World := (((W.setCell ⟨g, o, none⟩ u0).setCell ⟨g, o + 1, none⟩ u1).setCell ⟨g, o + 2, none⟩ u2).setCell ⟨g, o + 3, none⟩ u3
section
variable {W W1 : World} {G : Nat} {X : Nat → Prop} {h : Hp} {c : Hc}
theorem own_put4 {base : Nat} {e : TypeId} {size : Nat} {v : Value} {n : Nat} {xs : List Value} (h : W.ownsRow base e size v n xs) {g : Nat} (hb : v.ownBlock ≠ some g) (o : Nat) (u0 u1 u2 u3 : Value) : (put4 W g o u0 u1 u2 u3).ownsRow base e size v n xs :=
  own_set (own_set (own_set (own_set h hb u0) hb u1) hb u2) hb u3
theorem Safe.put4 (g o : Nat) (u0 u1 u2 u3 : Value) (hg : ¬ X g) : Safe X W (put4 W g o u0 u1 u2 u3) := ((((Safe.refl X W).set hg o u0).set hg (o + 1) u1).set hg (o + 2) u2).set hg (o + 3) u3
theorem OwnL.put4 {bas : Nat} {r : Rs} {rs : List Rs} (h : OwnL W bas (r :: rs)) {g c : Nat} (hv : r.v = .slice (some ⟨g, 0, none⟩) r.n c) (o : Nat) (u0 u1 u2 u3 : Value) (h0 : u0.oneCell' = true) (h1 : u1.oneCell' = true) (h2 : u2.oneCell' = true) (h3 : u3.oneCell' = true) :
    OwnL (put4 W g o u0 u1 u2 u3) bas ({ r with xs := (((r.xs.set o u0).set (o + 1) u1).set (o + 2) u2).set (o + 3) u3 } :: rs) := by
  have k0 := h.cell (i := 0) (by simp) (g := g) (c := c) hv o u0 h0
  have k1 := k0.cell (i := 0) (by simp) (g := g) (c := c) hv (o + 1) u1 h1
  have k2 := k1.cell (i := 0) (by simp) (g := g) (c := c) hv (o + 2) u2 h2
  have k3 := k2.cell (i := 0) (by simp) (g := g) (c := c) hv (o + 3) u3 h3
  exact k3
theorem box_put4 {b g : Nat} {A : Array Value} (h : ∀ o, W.cell? ⟨b, o, none⟩ = A[o]?) (hne : b ≠ g) (p : Nat) (u0 u1 u2 u3 : Value) (o : Nat) : (put4 W g p u0 u1 u2 u3).cell? ⟨b, o, none⟩ = A[o]? :=
  box_set_other (box_set_other (box_set_other (box_set_other h hne p u0) hne (p + 1) u1) hne (p + 2) u2) hne (p + 3) u3 o
theorem frz_put4 {b g : Nat} (h : ∀ o, W.frozen? ⟨b, o, none⟩ = false) (p : Nat) (u0 u1 u2 u3 : Value) (o : Nat) : (put4 W g p u0 u1 u2 u3).frozen? ⟨b, o, none⟩ = false :=
  frz_set (frz_set (frz_set (frz_set h _ u0) _ u1) _ u2) _ u3 o
theorem size_put4 (g p : Nat) (u0 u1 u2 u3 : Value) : (put4 W g p u0 u1 u2 u3).heap.size = W.heap.size := by unfold put4; simp

def Hc.zone (c : Hc) (i : Nat) : Zc := if i = 0 then c.y0 else c.y1
def Hc.setY (c : Hc) (i : Nat) (y : Zc) : Hc := if i = 0 then { c with y0 := y } else { c with y1 := y }
/-- the zones' row has a block of its own -/
theorem HR.zblock (hs : HR W G X h c) : ∃ g, c.az = some ⟨g, 0, none⟩ ∧ g < W.heap.size ∧ g ≠ G ∧ ¬ X g ∧ ∀ j, j < 8 → W.frozen? ⟨g, j, none⟩ = false := by
  obtain ⟨g, v, h1, _, h2, _, _⟩ := own_cell hs.zs 0 (by simp [zsR, flat, encZc])
  have h3 : (zsR c).v.ownBlock = some g := by unfold zsR; rw [h1]; rfl
  have h4 := hs.og (zsR c) (by simp [Hc.rows]) g h3
  refine ⟨g, h1, h2, h4.1, h4.2, fun j hj => ?_⟩
  obtain ⟨g', v', h5, _, _, _, h6⟩ := own_cell hs.zs j (by simp [zsR, flat, encZc]; omega)
  rw [h1] at h5
  obtain rfl : g = g' := by simpa using h5
  exact h6

/-- a zone is put in its place -/
theorem HS.putZ (hs : HS W G X h c) (hb : Below W.heap.size W W1) {i : Nat} (hi : i < 2) {z' : Zn} {a1 a2 : Option Addr} {n1 n2 c1 c2 : Nat} (hz : ZOwn W1 W.heap.size a1 a2 n1 n2 c1 c2 z') {g : Nat} (hg : c.az = some ⟨g, 0, none⟩) :
    HS (put4 W1 g (i * 4) (vI z'.f) (vI z'.e) (.slice a1 n1 c1) (.slice a2 n2 c2)) G X (h.setZ i z') (c.setY i ⟨z', a1, a2, n1, n2, c1, c2⟩) ∧ Safe X W (put4 W1 g (i * 4) (vI z'.f) (vI z'.e) (.slice a1 n1 c1) (.slice a2 n2 c2)) := by
  have hs1 := hs.below hb
  obtain ⟨g', hg1, hgs, hgG, hgX, _⟩ := hs.r.zblock
  obtain rfl : g = g' := by rw [hg] at hg1; simpa using hg1
  have hzb : (zsR c).v.ownBlock = some g := by unfold zsR; rw [hg]; rfl
  have hzm : zsR c ∈ c.rows h := by simp [Hc.rows]
  have hne := hz.ne (g := g) (.inl hgs)
  have hneG := hz.ne (g := G) (.inl hs.r.gs)
  have hlive : (h.setZ i z').live = h.live := by unfold Hp.setZ; split <;> rfl
  have hls : (h.setZ i z').ls = h.ls := by unfold Hp.setZ; split <;> rfl
  have hcp : (h.setZ i z').cpus = h.cpus := by unfold Hp.setZ; split <;> rfl
  have hm0 : (h.setZ i z').m0 = h.m0 := by unfold Hp.setZ; split <;> rfl
  have hm1 : (h.setZ i z').m1 = h.m1 := by unfold Hp.setZ; split <;> rfl
  have hrows : (c.setY i ⟨z', a1, a2, n1, n2, c1, c2⟩).rows (h.setZ i z') = { zsR c with xs := (((((zsR c).xs.set (i * 4) (vI z'.f)).set (i * 4 + 1) (vI z'.e)).set (i * 4 + 2) (.slice a1 n1 c1)).set (i * 4 + 3) (.slice a2 n2 c2)) } :: lsR c :: lvR c h :: c.lc.map pgR := by
    unfold Hc.rows
    have e1 : lvR (c.setY i ⟨z', a1, a2, n1, n2, c1, c2⟩) (h.setZ i z') = lvR c h := by unfold lvR; rw [hlive]; unfold Hc.setY; split <;> rfl
    have e2 : lsR (c.setY i ⟨z', a1, a2, n1, n2, c1, c2⟩) = lsR c := by unfold Hc.setY; split <;> rfl
    have e3 : (c.setY i ⟨z', a1, a2, n1, n2, c1, c2⟩).lc = c.lc := by unfold Hc.setY; split <;> rfl
    rw [e1, e2, e3]
    congr 1
    obtain rfl | rfl : i = 0 ∨ i = 1 := by omega
    · rfl
    · rfl
  have hreads : ∀ r ∈ (c.setY i ⟨z', a1, a2, n1, n2, c1, c2⟩).reads (h.setZ i z'), r ∈ c.reads h ∨ r = zlR ⟨z', a1, a2, n1, n2, c1, c2⟩ ∨ r = zyR ⟨z', a1, a2, n1, n2, c1, c2⟩ := fun r hr => by
    have e1 : mnR (c.setY i ⟨z', a1, a2, n1, n2, c1, c2⟩) (h.setZ i z') = mnR c h := by unfold mnR; rw [hm0, hm1]; unfold Hc.setY; split <;> rfl
    unfold Hc.reads at hr ⊢
    rw [e1] at hr
    unfold Hc.setY at hr
    obtain rfl | rfl : i = 0 ∨ i = 1 := by omega
    · simp only [if_true, List.mem_cons, List.not_mem_nil, or_false] at hr ⊢
      rcases hr with h | h | h | h | h <;> simp [h]
    · simp only [show ¬ (1 : Nat) = 0 by omega, if_false, List.mem_cons, List.not_mem_nil, or_false] at hr ⊢
      rcases hr with h | h | h | h | h <;> simp [h]
  have hmem : ∀ s ∈ (c.setY i ⟨z', a1, a2, n1, n2, c1, c2⟩).rows (h.setZ i z'), ∃ s0 ∈ c.rows h, s0.v = s.v := fun s hs' => by
    rw [hrows, List.mem_cons] at hs'
    rcases hs' with rfl | hs'
    · exact ⟨zsR c, hzm, rfl⟩
    · exact ⟨s, by unfold Hc.rows; exact List.mem_cons_of_mem _ hs', rfl⟩
  refine ⟨⟨⟨?_, fun r hr => ?_, fun r hr s hs' => ?_, fun r hr g' hg' => ?_, fun r hr => ?_, fun r hr g' hg' hx => ?_, by rw [size_put4]; exact hs1.r.gs, hs.r.xg, fun k hk => by rw [size_put4]; exact hs1.r.xs k hk, ?_, ?_, ?_⟩, ?_, frz_put4 hs1.fz _ _ _ _ _⟩, (Safe.ofBelow hb).trans (.put4 _ _ _ _ _ _ hgX)⟩
  · rw [hrows]
    have h1 := hs1.r.own
    unfold Hc.rows at h1
    exact h1.put4 (c := c.cz) (by unfold zsR; rw [hg]) (i * 4) _ _ _ _ rfl rfl rfl rfl
  · rcases hreads r hr with h1 | rfl | rfl
    · exact own_put4 (hs1.r.ro r h1) (fun e => hs.r.ds r h1 _ hzm g e hzb) _ _ _ _ _
    · exact own_put4 (own_base hz.o1 (Nat.zero_le _)) hne.1 _ _ _ _ _
    · exact own_put4 (own_base hz.o2 (Nat.zero_le _)) hne.2 _ _ _ _ _
  · obtain ⟨s0, hs0, hv⟩ := hmem s hs'
    intro g' h1 h2
    rw [← hv] at h2
    rcases hreads r hr with h3 | rfl | rfl
    · exact hs.r.ds r h3 s0 hs0 g' h1 h2
    · have h4 := (hz.o1.lt g' h1).1
      have h5 := (hs.r.own.lt s0 hs0 g' h2).2
      omega
    · have h4 := (hz.o2.lt g' h1).1
      have h5 := (hs.r.own.lt s0 hs0 g' h2).2
      omega
  · obtain ⟨s0, hs0, hv⟩ := hmem r hr
    rw [← hv] at hg'
    exact hs.r.og s0 hs0 g' hg'
  · rcases hreads r hr with h3 | rfl | rfl
    · exact hs.r.rg r h3
    · exact hneG.1
    · exact hneG.2
  · rcases hreads r hr with h3 | rfl | rfl
    · exact hs.r.rx r h3 g' hg' hx
    · have h4 := (hz.o1.lt g' hg').1
      have h5 := hs.r.xs g' hx
      omega
    · have h4 := (hz.o2.lt g' hg').1
      have h5 := hs.r.xs g' hx
      omega
  · have := hs.r.e0
    unfold Hc.setY Hp.setZ
    obtain rfl | rfl : i = 0 ∨ i = 1 := by omega
    · rfl
    · exact this
  · have := hs.r.e1
    unfold Hc.setY Hp.setZ
    obtain rfl | rfl : i = 0 ∨ i = 1 := by omega
    · exact this
    · rfl
  · have := hs.r.ll
    rw [hls, ← this]
    unfold Hc.setY
    split <;> rfl
  · have h1 := box_put4 hs1.k (fun e => hgG e.symm) (i * 4) (vI z'.f) (vI z'.e) (.slice a1 n1 c1) (.slice a2 n2 c2)
    have h2 : (c.setY i ⟨z', a1, a2, n1, n2, c1, c2⟩).vals (h.setZ i z') = c.vals h := by
      unfold Hc.vals
      rw [hlive, hcp]
      unfold Hc.setY
      split <;> rfl
    rw [h2]
    exact h1
end
end Go.Proofs.YtkcaheebaicinaaGreatDoor
/- The heap behind a pointer: another row of lists; other pages of a list; another row of blocks that are away. No program in sight. -/
namespace Go.Proofs.YtkcaheebaicinaaGreatDoor
open Go.RowKit
set_option linter.unusedVariables false

section
variable {W W' : World} {G : Nat} {X : Nat → Prop} {h : Hp} {c : Hc}
structure Dis (c : Hc) (h : Hp) : Prop where
  zl : (zsR c).off (lsR c)
  zv : (zsR c).off (lvR c h)
  zp : ∀ r ∈ c.lc.map pgR, (zsR c).off r
  lv : (lsR c).off (lvR c h)
  lp : ∀ r ∈ c.lc.map pgR, (lsR c).off r
  vp : ∀ r ∈ c.lc.map pgR, (lvR c h).off r
theorem HR.dis (hs : HR W G X h c) : Dis c h := by
  have h1 := hs.own.dis
  unfold Hc.rows at h1
  rw [List.pairwise_cons, List.pairwise_cons, List.pairwise_cons] at h1
  obtain ⟨a, b, d, _⟩ := h1
  exact ⟨a _ (by simp), a _ (by simp), fun r hr => a r (by simp only [List.mem_cons]; exact .inr (.inr hr)), b _ (by simp), fun r hr => b r (List.mem_cons_of_mem _ hr), fun r hr => d r hr⟩
theorem rows_pg {c : Hc} {h : Hp} {r : Rs} (hr : r ∈ c.lc.map pgR) : r ∈ c.rows h := by
  unfold Hc.rows
  exact List.mem_cons_of_mem _ (List.mem_cons_of_mem _ (List.mem_cons_of_mem _ hr))
theorem rows_zs (c : Hc) (h : Hp) : zsR c ∈ c.rows h := by simp [Hc.rows]
theorem rows_ls (c : Hc) (h : Hp) : lsR c ∈ c.rows h := by simp [Hc.rows]
theorem rows_lv (c : Hc) (h : Hp) : lvR c h ∈ c.rows h := by simp [Hc.rows]

/-- a block that is none of the heap's -/
structure Fresh (W : World) (G : Nat) (X : Nat → Prop) (h : Hp) (c : Hc) (g : Nat) : Prop where
  rows : ∀ r ∈ c.rows h, r.v.ownBlock ≠ some g
  reads : ∀ r ∈ c.reads h, r.v.ownBlock ≠ some g
  ne : g ≠ G
  x : ¬ X g
theorem HR.fresh (hs : HR W G X h c) {g : Nat} (hg : W.heap.size ≤ g) : Fresh W' G X h c g :=
  ⟨fun r hr e => by have := (hs.own.lt r hr g e).2; omega, fun r hr e => by have := ((hs.ro r hr).lt g e).2; omega, fun e => by have := hs.gs; omega, fun e => by have := hs.xs g e; omega⟩
/-- another row of lists -/
theorem HR.lists (hs : HR W G X h c) (hg : W.grownBy W' (lsR c).v.ownBlock) {al' : Option Addr} {cl' : Nat} {lc' : List Lc} (ho : W'.ownsRow 0 157 4 (.slice al' lc'.length cl') lc'.length (flat encLc lc'))
    (hb : ∀ k, (Value.slice al' lc'.length cl').ownBlock = some k → (lsR c).v.ownBlock = some k ∨ W.heap.size ≤ k) (hp : OwnL W 0 (lc'.map pgR)) (hq : ∀ r ∈ lc'.map pgR, ∀ g, r.v.ownBlock = some g → (∃ r0 ∈ c.lc.map pgR, r0.v.ownBlock = some g) ∨ Fresh W G X h c g) :
    HR W' G X { h with ls := lc'.map Lc.l } { c with al := al', cl := cl', lc := lc' } := by
  have D := hs.dis
  have hlv : lvR { c with al := al', cl := cl', lc := lc' } { h with ls := lc'.map Lc.l } = lvR c h := rfl
  have hzs : zsR { c with al := al', cl := cl', lc := lc' } = zsR c := rfl
  have hnew : ∀ s ∈ c.rows h, s ≠ lsR c → (lsR c).off s → ∀ k, (Value.slice al' lc'.length cl').ownBlock = some k → s.v.ownBlock ≠ some k := fun s hs1 _ hoff k hk e => by
    rcases hb k hk with h1 | h1
    · exact hoff k h1 e
    · have := (hs.own.lt s hs1 k e).2; omega
  have hrows : ({ c with al := al', cl := cl', lc := lc' } : Hc).rows { h with ls := lc'.map Lc.l } = zsR c :: lsR { c with al := al', cl := cl', lc := lc' } :: lvR c h :: lc'.map pgR := rfl
  have hnl : ∀ s ∈ c.rows h, (lsR c).off s → ∀ k, (Value.slice al' lc'.length cl').ownBlock = some k → s.v.ownBlock ≠ some k := fun s hs1 hoff k hk e => by
    rcases hb k hk with h1 | h1
    · exact hoff k h1 e
    · have := (hs.own.lt s hs1 k e).2; omega
  have hz1 : (zsR c).on W' 0 := own_grown hs.zs hg (fun k hk e => D.zl k hk e)
  have hv1 : (lvR c h).on W' 0 := own_grown hs.lv hg (fun k hk e => D.lv k e hk)
  have hp1 : ∀ r ∈ lc'.map pgR, r.on W' 0 := fun r hr => own_grown (hp.each r hr) hg (fun k hk e => by
    rcases hq r hr k hk with ⟨r0, hr0, h1⟩ | h1
    · exact D.lp r0 hr0 k e h1
    · exact h1.rows _ (rows_ls c h) e)
  have hmem : ∀ r ∈ lc'.map pgR, ∀ s : Rs, (s ∈ c.rows h ∨ s ∈ c.reads h) → (∀ r0 ∈ c.lc.map pgR, s.off r0) → s.off r := fun r hr s hsm hso g h1 h2 => by
    rcases hq r hr g h2 with ⟨r0, hr0, h3⟩ | h3
    · exact hso r0 hr0 g h1 h3
    · rcases hsm with h4 | h4
      · exact h3.rows _ h4 h1
      · exact h3.reads _ h4 h1
  refine ⟨⟨fun r hr => ?_, ?_⟩, fun r hr => own_grown (hs.ro r hr) hg (fun k hk e => hs.ds r hr _ (rows_ls c h) k hk e), fun r hr s hs' => ?_, fun r hr g hg' => ?_, hs.rg, hs.rx, Nat.lt_of_lt_of_le hs.gs hg.size, hs.xg, fun k hk => Nat.lt_of_lt_of_le (hs.xs k hk) hg.size, hs.e0, hs.e1, rfl⟩
  · rw [hrows, List.mem_cons, List.mem_cons, List.mem_cons] at hr
    rcases hr with rfl | rfl | rfl | hr
    · exact hz1
    · exact ho
    · exact hv1
    · exact hp1 r hr
  · rw [hrows, List.pairwise_cons, List.pairwise_cons, List.pairwise_cons]
    refine ⟨fun r hr => ?_, fun r hr => ?_, fun r hr => hmem r hr _ (.inl (rows_lv c h)) D.vp, hp.dis⟩
    · rw [List.mem_cons, List.mem_cons] at hr
      rcases hr with rfl | rfl | hr
      · exact fun g h1 h2 => hnl _ (rows_zs c h) D.zl.symm g h2 h1
      · exact D.zv
      · exact hmem r hr _ (.inl (rows_zs c h)) D.zp
    · rw [List.mem_cons] at hr
      rcases hr with rfl | hr
      · exact fun g h1 h2 => hnl _ (rows_lv c h) D.lv g h1 h2
      · intro g h1 h2
        rcases hq r hr g h2 with ⟨r0, hr0, h3⟩ | h3
        · exact hnl r0 (rows_pg hr0) (D.lp r0 hr0) g h1 h3
        · rcases hb g h1 with h4 | h4
          · exact h3.rows _ (rows_ls c h) h4
          · have := ((hp.each r hr).lt g h2).2; omega
  · rw [hrows, List.mem_cons, List.mem_cons, List.mem_cons] at hs'
    have hr2 : r ∈ c.reads h := hr
    rcases hs' with rfl | rfl | rfl | hs'
    · exact hs.ds r hr2 _ (rows_zs c h)
    · intro g h1 h2
      rcases hb g h2 with h3 | h3
      · exact hs.ds r hr2 _ (rows_ls c h) g h1 h3
      · have := ((hs.ro r hr2).lt g h1).2; omega
    · exact hs.ds r hr2 _ (rows_lv c h)
    · exact hmem s hs' r (.inr hr2) fun r0 hr0 => hs.ds r hr2 r0 (rows_pg hr0)
  · rw [hrows, List.mem_cons, List.mem_cons, List.mem_cons] at hr
    rcases hr with rfl | rfl | rfl | hr
    · exact hs.og _ (rows_zs c h) g hg'
    · rcases hb g hg' with h3 | h3
      · exact hs.og _ (rows_ls c h) g h3
      · exact ⟨fun e => by have := hs.gs; omega, fun e => by have := hs.xs g e; omega⟩
    · exact hs.og _ (rows_lv c h) g hg'
    · rcases hq r hr g hg' with ⟨r0, hr0, h3⟩ | h3
      · exact hs.og r0 (rows_pg hr0) g h3
      · exact ⟨h3.ne, h3.x⟩
/-- .. and the word that tells of it -/
theorem HS.lists (hs : HS W G X h c) (hg : W.grownBy W' (lsR c).v.ownBlock) {al' : Option Addr} {cl' : Nat} {lc' : List Lc} (ho : W'.ownsRow 0 157 4 (.slice al' lc'.length cl') lc'.length (flat encLc lc'))
    (hb : ∀ k, (Value.slice al' lc'.length cl').ownBlock = some k → (lsR c).v.ownBlock = some k ∨ W.heap.size ≤ k) (hp : OwnL W 0 (lc'.map pgR)) (hq : ∀ r ∈ lc'.map pgR, ∀ g, r.v.ownBlock = some g → (∃ r0 ∈ c.lc.map pgR, r0.v.ownBlock = some g) ∨ Fresh W G X h c g) :
    HS (W'.setCell ⟨G, 3, none⟩ (.slice al' lc'.length cl')) G X { h with ls := lc'.map Lc.l } { c with al := al', cl := cl', lc := lc' } ∧ Safe X W (W'.setCell ⟨G, 3, none⟩ (.slice al' lc'.length cl')) := by
  have hne : (lsR c).v.ownBlock ≠ some G := fun e => (hs.r.og _ (rows_ls c h) G e).1 rfl
  have h1 := box_grown hs.k hs.r.gs hg (fun e => hne e.symm)
  refine ⟨⟨(hs.r.lists hg ho hb hp hq).setG _ _, ?_, frz_set (frz_grown hs.fz hs.r.gs hg (fun e => hne e.symm)) _ _⟩, (Safe.ofGrown hg (fun k hk e => (hs.r.og _ (rows_ls c h) k e.symm).2 hk)).set hs.r.xg _ _⟩
  exact box_set h1 3 (.slice al' lc'.length cl')
end
/-- other pages of a list: its row, and the word that tells of it -/
theorem flatLc_set (l : List Lc) (i : Nat) (hi : i < l.length) (r : Lc) (h0 : r.l.c = l[i].l.c ∧ r.l.z = l[i].l.z ∧ r.l.t = l[i].l.t) : (flat encLc l).set (i * 4 + 3) (.slice r.a r.n r.c) = flat encLc (l.set i r) := by
  apply List.ext_getElem?
  intro j
  by_cases hj : j < l.length * 4
  · have hd : j / 4 < l.length := by omega
    have hm : j % 4 < 4 := by omega
    have hjj : j = j / 4 * 4 + j % 4 := by omega
    have g1 := flat_get encLc_length (l.set i r) (j / 4) (by simpa using hd) (j % 4) hm
    have g2 := flat_get encLc_length l (j / 4) hd (j % 4) hm
    rw [← hjj] at g1 g2
    rw [g1, List.getElem?_set]
    by_cases he : i * 4 + 3 = j
    · have e1 : j / 4 = i := by omega
      have e2 : j % 4 = 3 := by omega
      rw [if_pos he, if_pos (by rw [flat_length encLc_length]; omega)]
      simp only [e1, e2, List.getElem_set_self]
      rfl
    · rw [if_neg he, g2]
      by_cases e1 : j / 4 = i
      · subst e1
        simp only [List.getElem_set_self]
        have e2 : j % 4 = 0 ∨ j % 4 = 1 ∨ j % 4 = 2 := by omega
        obtain ⟨a0, a1, a2⟩ := h0
        rcases e2 with e2 | e2 | e2 <;> rw [e2] <;> simp [encLc, a0, a1, a2]
      · rw [List.getElem_set_ne (fun e => e1 e.symm)]
  · rw [List.getElem?_eq_none (by rw [List.length_set, flat_length encLc_length]; omega), List.getElem?_eq_none (by rw [flat_length encLc_length, List.length_set]; omega)]
section
variable {W W' : World} {G : Nat} {X : Nat → Prop} {h : Hp} {c : Hc}
/-- the lists' row has a block of its own -/
theorem HR.lblock (hs : HR W G X h c) (hn : 0 < c.lc.length) : ∃ g, c.al = some ⟨g, 0, none⟩ ∧ g < W.heap.size ∧ g ≠ G ∧ ¬ X g ∧ ∀ j, j < c.lc.length * 4 → W.frozen? ⟨g, j, none⟩ = false := by
  obtain ⟨g, v, h1, _, h2, _, _⟩ := own_cell hs.lsr 0 (by show 0 < (flat encLc c.lc).length; rw [flat_length encLc_length]; omega)
  have h3 : (lsR c).v.ownBlock = some g := by unfold lsR; rw [h1]; rfl
  have h4 := hs.og (lsR c) (rows_ls c h) g h3
  refine ⟨g, h1, h2, h4.1, h4.2, fun j hj => ?_⟩
  obtain ⟨g', v', h5, _, _, _, h6⟩ := own_cell hs.lsr j (by show j < (flat encLc c.lc).length; rw [flat_length encLc_length]; omega)
  rw [h1] at h5
  obtain rfl : g = g' := by simpa using h5
  exact h6
theorem HS.page (hs : HS W G X h c) {i : Nat} (hi : i < c.lc.length) (hg : W.grownBy W' (pgR c.lc[i]).v.ownBlock) {r : Lc} (ho : (pgR r).on W' 0) (h0 : r.l.c = c.lc[i].l.c ∧ r.l.z = c.lc[i].l.z ∧ r.l.t = c.lc[i].l.t)
    (hb : ∀ k, (pgR r).v.ownBlock = some k → (pgR c.lc[i]).v.ownBlock = some k ∨ W.heap.size ≤ k) {g : Nat} (hal : c.al = some ⟨g, 0, none⟩) :
    HS (W'.setCell ⟨g, i * 4 + 3, none⟩ (.slice r.a r.n r.c)) G X { h with ls := h.ls.set i r.l } { c with lc := c.lc.set i r } ∧ Safe X W (W'.setCell ⟨g, i * 4 + 3, none⟩ (.slice r.a r.n r.c)) := by
  have D := hs.r.dis
  have hpm : pgR c.lc[i] ∈ c.lc.map pgR := List.mem_map_of_mem (List.getElem_mem hi)
  obtain ⟨g', hg1, hgs, hgG, hgX, _⟩ := hs.r.lblock (by omega)
  obtain rfl : g = g' := by rw [hal] at hg1; simpa using hg1
  have hlb : (lsR c).v.ownBlock = some g := by unfold lsR; rw [hal]; rfl
  have hne : (pgR c.lc[i]).v.ownBlock ≠ some G := fun e => (hs.r.og _ (rows_pg hpm) G e).1 rfl
  have hneg : (pgR c.lc[i]).v.ownBlock ≠ some g := fun e => D.lp _ hpm g hlb e
  have hi3 : 3 + i < (c.rows h).length := by simp [Hc.rows]; omega
  have hri : (c.rows h)[3 + i] = pgR c.lc[i] := by
    have : (c.rows h)[3 + i]? = some (pgR c.lc[i]) := by
      rw [show 3 + i = i + 3 by omega]
      simp [Hc.rows, hi]
    exact (List.getElem?_eq_some_iff.1 this).2
  have k1 := hs.r.own.grown hi3 (W' := W') (r' := pgR r) (by rw [hri]; exact hg) ho (by rw [hri]; exact hb)
  have e1 : (c.rows h).set (3 + i) (pgR r) = zsR c :: lsR c :: lvR c h :: (c.lc.set i r).map pgR := by
    rw [show 3 + i = i + 3 by omega, List.map_set]
    rfl
  rw [e1] at k1
  have k2 := k1.cell (i := 1) (by simp) (g := g) (c := c.cl) (by show (lsR c).v = _; unfold lsR; rw [hal]; rfl) (i * 4 + 3) (.slice r.a r.n r.c) rfl
  have e2 : (zsR c :: lsR c :: lvR c h :: (c.lc.set i r).map pgR).set 1 { (zsR c :: lsR c :: lvR c h :: (c.lc.set i r).map pgR)[1] with xs := ((zsR c :: lsR c :: lvR c h :: (c.lc.set i r).map pgR)[1]).xs.set (i * 4 + 3) (.slice r.a r.n r.c) } = ({ c with lc := c.lc.set i r } : Hc).rows { h with ls := h.ls.set i r.l } := by
    unfold Hc.rows
    have e3 : lsR { c with lc := c.lc.set i r } = { lsR c with xs := (lsR c).xs.set (i * 4 + 3) (.slice r.a r.n r.c) } := by
      unfold lsR
      simp only [List.length_set]
      rw [← flatLc_set c.lc i hi r h0]
    rw [e3]
    rfl
  rw [e2] at k2
  have hmem : ∀ s ∈ ({ c with lc := c.lc.set i r } : Hc).rows { h with ls := h.ls.set i r.l }, (∃ s0 ∈ c.rows h, s0.v = s.v) ∨ s = pgR r := fun s hs' => by
    rw [← e2] at hs'
    rcases List.mem_or_eq_of_mem_set hs' with h1 | h1
    · rw [List.mem_cons, List.mem_cons, List.mem_cons] at h1
      rcases h1 with h1 | h1 | h1 | h1
      · exact .inl ⟨_, rows_zs c h, by rw [h1]⟩
      · exact .inl ⟨_, rows_ls c h, by rw [h1]⟩
      · exact .inl ⟨_, rows_lv c h, by rw [h1]⟩
      · rw [List.map_set] at h1
        rcases List.mem_or_eq_of_mem_set h1 with h2 | h2
        · exact .inl ⟨s, rows_pg h2, rfl⟩
        · exact .inr h2
    · exact .inl ⟨_, rows_ls c h, by rw [h1]; rfl⟩
  have h1 := box_grown hs.k hs.r.gs hg (fun e => hne e.symm)
  refine ⟨⟨⟨k2, fun r1 hr => own_set (own_grown (hs.r.ro r1 hr) hg (fun k hk e => hs.r.ds r1 hr _ (rows_pg hpm) k hk e)) (fun e => hs.r.ds r1 hr _ (rows_ls c h) g e hlb) _, fun r1 hr s hs' k hk1 hk2 => ?_, fun s hs' k hk => ?_, hs.r.rg, hs.r.rx, by simpa using Nat.lt_of_lt_of_le hs.r.gs hg.size, hs.r.xg, fun k hk => by simpa using Nat.lt_of_lt_of_le (hs.r.xs k hk) hg.size, hs.r.e0, hs.r.e1, ?_⟩, ?_, frz_set (frz_grown hs.fz hs.r.gs hg (fun e => hne e.symm)) _ _⟩, (Safe.ofGrown hg (fun k hk e => (hs.r.og _ (rows_pg hpm) k e.symm).2 hk)).set hgX _ _⟩
  · rcases hmem s hs' with ⟨s0, hs0, hv⟩ | rfl
    · exact hs.r.ds r1 hr s0 hs0 k hk1 (by rw [hv]; exact hk2)
    · rcases hb k hk2 with h3 | h3
      · exact hs.r.ds r1 hr _ (rows_pg hpm) k hk1 h3
      · have := ((hs.r.ro r1 hr).lt k hk1).2; omega
  · rcases hmem s hs' with ⟨s0, hs0, hv⟩ | rfl
    · exact hs.r.og s0 hs0 k (by rw [hv]; exact hk)
    · rcases hb k hk with h3 | h3
      · exact hs.r.og _ (rows_pg hpm) k h3
      · exact ⟨fun e => by have := hs.r.gs; omega, fun e => by have := hs.r.xs k e; omega⟩
  · rw [List.map_set, hs.r.ll]
  · have h2 : ({ c with lc := c.lc.set i r } : Hc).vals { h with ls := h.ls.set i r.l } = c.vals h := by
      unfold Hc.vals
      simp only [List.length_set]
    rw [h2]
    exact box_set_other h1 (fun e => hgG e.symm) _ _
/-- another row of blocks that are away -/
theorem HS.away (hs : HS W G X h c) (hg : W.grownBy W' (lvR c h).v.ownBlock) {av' : Option Addr} {cv' : Nat} {v' : List Bk} (ho : W'.ownsRow 0 95 3 (.slice av' v'.length cv') v'.length (flat encBk v'))
    (hb : ∀ k, (Value.slice av' v'.length cv').ownBlock = some k → (lvR c h).v.ownBlock = some k ∨ W.heap.size ≤ k) :
    HS (W'.setCell ⟨G, 4, none⟩ (.slice av' v'.length cv')) G X { h with live := v' } { c with av := av', cv := cv' } ∧ Safe X W (W'.setCell ⟨G, 4, none⟩ (.slice av' v'.length cv')) := by
  have hne : (lvR c h).v.ownBlock ≠ some G := fun e => (hs.r.og _ (rows_lv c h) G e).1 rfl
  have h1 := box_grown hs.k hs.r.gs hg (fun e => hne e.symm)
  have k1 := hs.r.own.grown (i := 2) (by simp [Hc.rows]) (W' := W') (r' := lvR { c with av := av', cv := cv' } { h with live := v' }) hg ho hb
  have hmem : ∀ s ∈ ({ c with av := av', cv := cv' } : Hc).rows { h with live := v' }, s ∈ c.rows h ∨ s = lvR { c with av := av', cv := cv' } { h with live := v' } := fun s hs' => List.mem_or_eq_of_mem_set (l := c.rows h) (i := 2) hs'
  refine ⟨⟨(⟨k1, fun r hr => own_grown (hs.r.ro r hr) hg (fun k hk e => hs.r.ds r hr _ (rows_lv c h) k hk e), fun r1 hr s hs' k hk1 hk2 => ?_, fun s hs' k hk => ?_, hs.r.rg, hs.r.rx, Nat.lt_of_lt_of_le hs.r.gs hg.size, hs.r.xg, fun k hk => Nat.lt_of_lt_of_le (hs.r.xs k hk) hg.size, hs.r.e0, hs.r.e1, hs.r.ll⟩ : HR W' G X { h with live := v' } { c with av := av', cv := cv' }).setG _ _, ?_, frz_set (frz_grown hs.fz hs.r.gs hg (fun e => hne e.symm)) _ _⟩, (Safe.ofGrown hg (fun k hk e => (hs.r.og _ (rows_lv c h) k e.symm).2 hk)).set hs.r.xg _ _⟩
  · have hr2 : r1 ∈ c.reads h := hr
    rcases hmem s hs' with h3 | rfl
    · exact hs.r.ds r1 hr2 s h3 k hk1 hk2
    · rcases hb k hk2 with h3 | h3
      · exact hs.r.ds r1 hr2 _ (rows_lv c h) k hk1 h3
      · have := ((hs.r.ro r1 hr2).lt k hk1).2; omega
  · rcases hmem s hs' with h3 | rfl
    · exact hs.r.og s h3 k hk
    · rcases hb k hk with h3 | h3
      · exact hs.r.og _ (rows_lv c h) k h3
      · exact ⟨fun e => by have := hs.r.gs; omega, fun e => by have := hs.r.xs k e; omega⟩
  · exact box_set h1 4 (.slice av' v'.length cv')
end
end Go.Proofs.YtkcaheebaicinaaGreatDoor
/- A heap that is being copied: the zones come first. No program in sight. -/
namespace Go.Proofs.YtkcaheebaicinaaGreatDoor
open Go.RowKit
set_option linter.unusedVariables false

def zzR (az : Option Addr) (cz : Nat) (zs : List Zc) : Rs := ⟨110, 4, .slice az zs.length cz, zs.length, flat encZc zs⟩
def bkR (av : Option Addr) (cv : Nat) (l : List Bk) : Rs := ⟨95, 3, .slice av l.length cv, l.length, flat encBk l⟩
def inR (am : Option Addr) (cm : Nat) (l : List Nat) : Rs := ⟨3, 1, .slice am l.length cm, l.length, flat encT l⟩
/-- so many zones, the minima and the blocks that are away: own rows above 'bas'; and the block g that tells of them -/
structure CZ (W : World) (bas g : Nat) (zs : List Zc) (az : Option Addr) (cz : Nat) (am : Option Addr) (cm : Nat) (m : List Nat) (av : Option Addr) (cv : Nat) (v : List Bk) (cpus : Nat) : Prop where
  oz : (zzR az cz zs).on W bas
  ov : (bkR av cv v).on W bas
  om : (inR am cm m).on W bas
  rd : ∀ y ∈ zs, (zlR y).on W bas ∧ (zyR y).on W bas
  zv : (zzR az cz zs).off (bkR av cv v)
  zm : (zzR az cz zs).off (inR am cm m)
  zy : ∀ y ∈ zs, (zzR az cz zs).off (zlR y) ∧ (zzR az cz zs).off (zyR y)
  vm : (bkR av cv v).off (inR am cm m)
  vy : ∀ y ∈ zs, (bkR av cv v).off (zlR y) ∧ (bkR av cv v).off (zyR y)
  gz : (zzR az cz zs).v.ownBlock ≠ some g
  gv : (bkR av cv v).v.ownBlock ≠ some g
  gm : (inR am cm m).v.ownBlock ≠ some g
  gy : ∀ y ∈ zs, (zlR y).v.ownBlock ≠ some g ∧ (zyR y).v.ownBlock ≠ some g
  gs : bas ≤ g ∧ g < W.heap.size
  k : ∀ o, W.cell? ⟨g, o, none⟩ = (#[.slice az zs.length cz, .slice am m.length cm, .int .i64 (cpus : Int), .slice none 0 0, .slice av v.length cv] : Array Value)[o]?
  fz : ∀ o, W.frozen? ⟨g, o, none⟩ = false
section
variable {W W' W1 : World} {bas g : Nat} {zs : List Zc} {az : Option Addr} {cz : Nat} {am : Option Addr} {cm : Nat} {m : List Nat} {av : Option Addr} {cv : Nat} {v : List Bk} {cpus : Nat}
theorem CZ.below (h : CZ W bas g zs az cz am cm m av cv v cpus) (hb : Below W.heap.size W W') : CZ W' bas g zs az cz am cm m av cv v cpus :=
  ⟨own_below h.oz hb (Nat.le_refl _), own_below h.ov hb (Nat.le_refl _), own_below h.om hb (Nat.le_refl _), fun y hy => ⟨own_below (h.rd y hy).1 hb (Nat.le_refl _), own_below (h.rd y hy).2 hb (Nat.le_refl _)⟩, h.zv, h.zm, h.zy, h.vm, h.vy, h.gz, h.gv, h.gm, h.gy, ⟨h.gs.1, Nat.lt_of_lt_of_le h.gs.2 hb.size⟩, box_step h.k h.gs.2 hb, frz_step h.fz h.gs.2 hb⟩
/-- one zone more: W is the world ahead of its copy, W1 the one behind it (and behind the row of one zone), W' the one behind the append -/
theorem CZ.add (h : CZ W bas g zs az cz am cm m av cv v cpus) (hb : Below W.heap.size W W1) {z' : Zn} {a1 a2 : Option Addr} {n1 n2 c1 c2 : Nat} (hz : ZOwn W1 W.heap.size a1 a2 n1 n2 c1 c2 z') {g6 cap6 : Nat}
    (ho : W'.ownsRow bas 110 4 (.slice (some ⟨g6, 0, none⟩) (zs.length + 1) cap6) (zs.length + 1) (flat encZc (zs ++ [⟨z', a1, a2, n1, n2, c1, c2⟩]))) (hg : W1.grownBy W' (Value.slice az zs.length cz).ownBlock) (hl : (Value.slice az zs.length cz).ownBlock = some g6 ∨ g6 = W1.heap.size) :
    CZ (W'.setCell ⟨g, 0, none⟩ (.slice (some ⟨g6, 0, none⟩) (zs.length + 1) cap6)) bas g (zs ++ [⟨z', a1, a2, n1, n2, c1, c2⟩]) (some ⟨g6, 0, none⟩) cap6 am cm m av cv v cpus := by
  have h1 := h.below hb
  have hbs : bas ≤ W.heap.size := by have := h.gs; omega
  have hzo : (zzR az cz zs).v.ownBlock = (Value.slice az zs.length cz).ownBlock := rfl
  have hznew : ∀ k, (Value.slice az zs.length cz).ownBlock = some k → k < W.heap.size := fun k hk => (h.oz.lt k (by rw [hzo]; exact hk)).2
  -- the row's new block is none of the others'
  have hnb : ∀ (r : Rs), (zzR az cz zs).off r → (∀ k, r.v.ownBlock = some k → k < W1.heap.size) → r.v.ownBlock ≠ some g6 := fun r hoff hlt e => by
    rcases hl with h2 | h2
    · exact hoff g6 h2 e
    · have := hlt g6 e; omega
  have hzl : (zlR ⟨z', a1, a2, n1, n2, c1, c2⟩).on W1 W.heap.size := hz.o1
  have hzy : (zyR ⟨z', a1, a2, n1, n2, c1, c2⟩).on W1 W.heap.size := hz.o2
  have hge : ∀ (r : Rs), r.on W1 W.heap.size → ∀ k, r.v.ownBlock = some k → W.heap.size ≤ k ∧ k < W1.heap.size := fun r hr k hk => hr.lt k hk
  have hozl : (zzR az cz zs).off (zlR ⟨z', a1, a2, n1, n2, c1, c2⟩) := fun k h2 h3 => by have := hznew k h2; have := (hge _ hzl k h3).1; omega
  have hozy : (zzR az cz zs).off (zyR ⟨z', a1, a2, n1, n2, c1, c2⟩) := fun k h2 h3 => by have := hznew k h2; have := (hge _ hzy k h3).1; omega
  have hgg6 : g6 ≠ g := fun e => by
    rcases hl with h2 | h2
    · exact h.gz (by rw [hzo, h2, e])
    · have := h1.gs.2; omega
  have hgw : (Value.slice az zs.length cz).ownBlock ≠ some g := h.gz
  -- a row that is kept: own at W1, apart from the zones' row and from g
  have keep : ∀ (r : Rs) (b : Nat), r.on W1 b → (zzR az cz zs).off r → r.v.ownBlock ≠ some g → r.on (W'.setCell ⟨g, 0, none⟩ (.slice (some ⟨g6, 0, none⟩) (zs.length + 1) cap6)) b := fun r b hr hoff hne =>
    own_set (own_grown hr hg (fun k hk e => hoff k e hk)) hne _
  have hne2 : ∀ (r : Rs), r.on W1 W.heap.size → r.v.ownBlock ≠ some g := fun r hr e => by have := (hge r hr g e).1; have := h.gs.2; omega
  have hlen : (zs ++ [(⟨z', a1, a2, n1, n2, c1, c2⟩ : Zc)]).length = zs.length + 1 := by simp
  have hv : (zzR (some ⟨g6, 0, none⟩) cap6 (zs ++ [⟨z', a1, a2, n1, n2, c1, c2⟩])).v = .slice (some ⟨g6, 0, none⟩) (zs.length + 1) cap6 := by unfold zzR; simp only [hlen]
  have hvo : (zzR (some ⟨g6, 0, none⟩) cap6 (zs ++ [⟨z', a1, a2, n1, n2, c1, c2⟩])).v.ownBlock = some g6 := by rw [hv]; rfl
  have hoff6 : ∀ (r : Rs), r.v.ownBlock ≠ some g6 → (zzR (some ⟨g6, 0, none⟩) cap6 (zs ++ [⟨z', a1, a2, n1, n2, c1, c2⟩])).off r := fun r hr k h2 h3 => by
    rw [hvo] at h2
    obtain rfl := Option.some.inj h2
    exact hr h3
  have lt1 : ∀ (r : Rs) (b : Nat), r.on W1 b → ∀ k, r.v.ownBlock = some k → k < W1.heap.size := fun r b hr k hk => (hr.lt k hk).2
  have hmem : ∀ y ∈ zs ++ [(⟨z', a1, a2, n1, n2, c1, c2⟩ : Zc)], y ∈ zs ∨ y = ⟨z', a1, a2, n1, n2, c1, c2⟩ := fun y hy => by simpa using hy
  refine ⟨?_, keep _ _ h1.ov h.zv h.gv, keep _ _ h1.om h.zm h.gm, fun y hy => ?_, hoff6 _ (hnb _ h.zv (lt1 _ _ h1.ov)), hoff6 _ (hnb _ h.zm (lt1 _ _ h1.om)), fun y hy => ?_, h.vm, fun y hy => ?_, by rw [hvo]; exact fun e => hgg6 (Option.some.inj e), h.gv, h.gm, fun y hy => ?_, ⟨h.gs.1, by simpa using Nat.lt_of_lt_of_le h1.gs.2 hg.size⟩, ?_, frz_set (frz_grown h1.fz h1.gs.2 hg (fun e => hgw e.symm)) _ _⟩
  · have h2 := own_set ho (b := g) (i := 0) (by intro e; exact hgg6 (by simpa [Value.ownBlock] using e)) (.slice (some ⟨g6, 0, none⟩) (zs.length + 1) cap6)
    unfold Rs.on zzR
    simp only [hlen]
    exact h2
  · rcases hmem y hy with h2 | rfl
    · exact ⟨keep _ _ (h1.rd y h2).1 (h.zy y h2).1 (h.gy y h2).1, keep _ _ (h1.rd y h2).2 (h.zy y h2).2 (h.gy y h2).2⟩
    · exact ⟨own_base (keep _ _ hzl hozl (hne2 _ hzl)) hbs, own_base (keep _ _ hzy hozy (hne2 _ hzy)) hbs⟩
  · rcases hmem y hy with h2 | rfl
    · exact ⟨hoff6 _ (hnb _ (h.zy y h2).1 (lt1 _ _ (h1.rd y h2).1)), hoff6 _ (hnb _ (h.zy y h2).2 (lt1 _ _ (h1.rd y h2).2))⟩
    · exact ⟨hoff6 _ (hnb _ hozl (lt1 _ _ hzl)), hoff6 _ (hnb _ hozy (lt1 _ _ hzy))⟩
  · rcases hmem y hy with h2 | rfl
    · exact h.vy y h2
    · exact ⟨fun k h3 h4 => by have := (h.ov.lt k h3).2; have := (hge _ hzl k h4).1; omega, fun k h3 h4 => by have := (h.ov.lt k h3).2; have := (hge _ hzy k h4).1; omega⟩
  · rcases hmem y hy with h2 | rfl
    · exact h.gy y h2
    · exact ⟨hne2 _ hzl, hne2 _ hzy⟩
  · have h2 := box_set (box_grown h1.k h1.gs.2 hg (fun e => hgw e.symm)) 0 (.slice (some ⟨g6, 0, none⟩) (zs.length + 1) cap6)
    rw [hlen]
    exact h2
/-- both zones: the heap without lists -/
theorem CZ.done {y0 y1 : Zc} {m0 m1 : Nat} (h : CZ W bas g [y0, y1] az cz am cm [m0, m1] av cv v cpus) {X : Nat → Prop} (hX : ∀ k, X k → k < bas) :
    HS W g X ⟨y0.z, y1.z, m0, m1, cpus, [], v⟩ ⟨az, cz, am, cm, none, 0, av, cv, y0, y1, []⟩ := by
  have m0 : y0 ∈ [y0, y1] := by simp
  have m1 : y1 ∈ [y0, y1] := by simp
  have hl : (lsR ⟨az, cz, am, cm, none, 0, av, cv, y0, y1, []⟩).v.ownBlock = none := rfl
  have base0 : ∀ (r : Rs), r.on W bas → r.on W 0 := fun r hr => own_base hr (Nat.zero_le _)
  refine ⟨⟨⟨fun r hr => ?_, ?_⟩, fun r hr => ?_, fun r hr s hs => ?_, fun r hr k hk => ?_, fun r hr => ?_, fun r hr k hk hx => ?_, h.gs.2, fun e => by have := hX _ e; have := h.gs.1; omega, fun k hk => by have := hX k hk; have := h.gs; omega, rfl, rfl, rfl⟩, h.k, h.fz⟩
  · simp only [Hc.rows, List.map_nil, List.mem_cons, List.not_mem_nil, or_false] at hr
    rcases hr with rfl | rfl | rfl
    · exact base0 _ h.oz
    · exact ⟨rfl, .inl ⟨rfl, rfl⟩⟩
    · exact base0 _ h.ov
  · unfold Hc.rows
    refine List.pairwise_cons.2 ⟨fun r hr => ?_, List.pairwise_cons.2 ⟨fun r hr k h2 => (by rw [hl] at h2; cases h2), List.pairwise_cons.2 ⟨fun r hr => (by simp at hr), List.Pairwise.nil⟩⟩⟩
    simp only [List.map_nil, List.mem_cons, List.not_mem_nil, or_false] at hr
    rcases hr with rfl | rfl
    · exact fun k _ h3 => by rw [hl] at h3; cases h3
    · exact h.zv
  · simp only [Hc.reads, List.mem_cons, List.not_mem_nil, or_false] at hr
    rcases hr with rfl | rfl | rfl | rfl | rfl
    · exact base0 _ h.om
    · exact base0 _ (h.rd y0 m0).1
    · exact base0 _ (h.rd y0 m0).2
    · exact base0 _ (h.rd y1 m1).1
    · exact base0 _ (h.rd y1 m1).2
  · simp only [Hc.reads, List.mem_cons, List.not_mem_nil, or_false] at hr
    simp only [Hc.rows, List.map_nil, List.mem_cons, List.not_mem_nil, or_false] at hs
    rcases hs with rfl | rfl | rfl
    · rcases hr with rfl | rfl | rfl | rfl | rfl
      · exact h.zm.symm
      · exact (h.zy y0 m0).1.symm
      · exact (h.zy y0 m0).2.symm
      · exact (h.zy y1 m1).1.symm
      · exact (h.zy y1 m1).2.symm
    · exact fun k _ h3 => by rw [hl] at h3; cases h3
    · rcases hr with rfl | rfl | rfl | rfl | rfl
      · exact h.vm.symm
      · exact (h.vy y0 m0).1.symm
      · exact (h.vy y0 m0).2.symm
      · exact (h.vy y1 m1).1.symm
      · exact (h.vy y1 m1).2.symm
  · simp only [Hc.rows, List.map_nil, List.mem_cons, List.not_mem_nil, or_false] at hr
    rcases hr with rfl | rfl | rfl
    · exact ⟨fun e => h.gz (by rw [← e]; exact hk), fun e => by have := hX k e; have := (h.oz.lt k hk).1; omega⟩
    · rw [hl] at hk; cases hk
    · exact ⟨fun e => h.gv (by rw [← e]; exact hk), fun e => by have := hX k e; have := (h.ov.lt k hk).1; omega⟩
  · simp only [Hc.reads, List.mem_cons, List.not_mem_nil, or_false] at hr
    rcases hr with rfl | rfl | rfl | rfl | rfl
    · exact h.gm
    · exact (h.gy y0 m0).1
    · exact (h.gy y0 m0).2
    · exact (h.gy y1 m1).1
    · exact (h.gy y1 m1).2
  · have h5 := hX k hx
    simp only [Hc.reads, List.mem_cons, List.not_mem_nil, or_false] at hr
    rcases hr with rfl | rfl | rfl | rfl | rfl
    · have := (h.om.lt k hk).1; omega
    · have := ((h.rd y0 m0).1.lt k hk).1; omega
    · have := ((h.rd y0 m0).2.lt k hk).1; omega
    · have := ((h.rd y1 m1).1.lt k hk).1; omega
    · have := ((h.rd y1 m1).2.lt k hk).1; omega
end
end Go.Proofs.YtkcaheebaicinaaGreatDoor
/- A copy of a heap comes into another box. No program in sight. -/
namespace Go.Proofs.YtkcaheebaicinaaGreatDoor
open Go.RowKit
set_option linter.unusedVariables false
/-- five words are written -/
def put5 (W : World) (b : Nat) (u0 u1 u2 u3 u4 : Value) : World := ((((W.setCell ⟨b, 0, none⟩ u0).setCell ⟨b, 1, none⟩ u1).setCell ⟨b, 2, none⟩ u2).setCell ⟨b, 3, none⟩ u3).setCell ⟨b, 4, none⟩ u4
theorem HS.move {W : World} {g B : Nat} {X : Nat → Prop} {h : Hp} {c : Hc} (hs : HS W g X h c) (hB : X B) {a0 a1 a2 a3 a4 : Value} (hk : ∀ o, W.cell? ⟨B, o, none⟩ = (#[a0, a1, a2, a3, a4] : Array Value)[o]?) (hf : ∀ o, W.frozen? ⟨B, o, none⟩ = false) :
    HS (put5 W B (.slice c.az 2 c.cz) (.slice c.am 2 c.cm) (.int .i64 (h.cpus : Int)) (.slice c.al c.lc.length c.cl) (.slice c.av h.live.length c.cv)) B (fun k => X k ∧ k ≠ B) h c := by
  have h1 := ((((hs.far hB 0 (.slice c.az 2 c.cz)).far hB 1 (.slice c.am 2 c.cm)).far hB 2 (.int .i64 (h.cpus : Int))).far hB 3 (.slice c.al c.lc.length c.cl)).far hB 4 (.slice c.av h.live.length c.cv)
  have h2 := box_set (box_set (box_set (box_set (box_set hk 0 (.slice c.az 2 c.cz)) 1 (.slice c.am 2 c.cm)) 2 (.int .i64 (h.cpus : Int))) 3 (.slice c.al c.lc.length c.cl)) 4 (.slice c.av h.live.length c.cv)
  refine ⟨⟨h1.r.own, h1.r.ro, h1.r.ds, fun r hr k hk' => ⟨fun e => (h1.r.og r hr k hk').2 (by rw [e]; exact hB), fun e => (h1.r.og r hr k hk').2 e.1⟩, fun r hr e => h1.r.rx r hr B e hB, fun r hr k hk' e => h1.r.rx r hr k hk' e.1, h1.r.xs B hB, fun e => e.2 rfl, fun k hk' => h1.r.xs k hk'.1, h1.r.e0, h1.r.e1, h1.r.ll⟩, h2, frz_set (frz_set (frz_set (frz_set (frz_set hf _ _) _ _) _ _) _ _) _ _⟩
end Go.Proofs.YtkcaheebaicinaaGreatDoor
/- Sets that are maps from keys to true: what a call has made itself. No program in sight. -/
namespace Go.Proofs.YtkcaheebaicinaaGreatDoor
open Go.RowKit
open Go.Maps (Keyed)
set_option linter.unusedVariables false

theorem plainElem_bool_inv {H : Type} {P : Program} {e : TypeId} (he : P.underlying e = some .bool) {v : Value} {z : DataW H × List MemPlace} (h : plainElem P e v = some z) : ∃ x, v = .bool x ∧ z = (.lit (.bool x), []) := by
  unfold plainElem at h
  rw [he] at h
  cases v <;> simp at h
  exact ⟨_, rfl, h.symm⟩

/-- block B is a map of at most n keys, those of S: each leads to true -/
def SetAt (w : World) (P : Program) (k e : TypeId) (B n : Nat) (S : Lit → Prop) : Prop :=
  ∃ D : DataW Unit, w.ownsMap P k (plainElem P e) B n D ∧ Maps.IsMap D ∧ ∀ kl, WideAt.IsKeyLit kl → (S kl → D.atKey kl (.lit (.bool false)) = .lit (.bool true)) ∧ (¬ S kl → D.atKey kl (.lit (.bool false)) = .lit (.bool false))
section
variable {w w' : World} {P : Program} {t k e : TypeId} {B n : Nat} {S : Lit → Prop}
theorem SetAt.made (w : World) (P : Program) (k e : TypeId) : SetAt (w.alloc (.map #[] 0)) P k e w.heap.size 0 fun _ => False :=
  ⟨.map [], World.ownsMap_made w P k _, Maps.isMap_empty, fun kl _ => ⟨fun h => h.elim, fun _ => rfl⟩⟩
theorem SetAt.lt (h : SetAt w P k e B n S) : B < w.heap.size := by
  obtain ⟨D, h1, _⟩ := h
  exact h1.lt
theorem SetAt.kept {row : Option Nat} (h : SetAt w P k e B n S) (hg : w.grownBy w' row) (hne : some B ≠ row) : SetAt w' P k e B n S := by
  obtain ⟨D, h1, h2⟩ := h
  exact ⟨D, h1.kept hg hne, h2⟩
theorem SetAt.below (h : SetAt w P k e B n S) (hb : Below w.heap.size w w') : SetAt w' P k e B n S :=
  h.kept (row := none) ⟨hb.os, hb.tape, hb.output, hb.size, fun j hj _ => hb.block j hj⟩ (by simp)
theorem SetAt.imp {S' : Lit → Prop} (h : SetAt w P k e B n S) (hs : ∀ x, S x ↔ S' x) : SetAt w P k e B n S' := by
  obtain ⟨D, h1, h2, h3⟩ := h
  exact ⟨D, h1, h2, fun kl hk => ⟨fun hx => (h3 kl hk).1 ((hs kl).2 hx), fun hx => (h3 kl hk).2 fun hy => hx ((hs kl).1 hy)⟩⟩
/-- a key that is not there -/
theorem SetAt.out (h : SetAt w P k e B n S) (K : Keyed P k) (ht : P.underlying t = some (.map k e)) (he : P.underlying e = some .bool) (hz : (zeroValue e).run P w = .ok (.bool false) w) {key : Value} {kl : Lit} (hkey : keyOf P k key = some kl) (hk : WideAt.IsKeyLit kl) (hno : ¬ S kl) :
    (Instr.lookup t (.map (some B)) key false).run P w = .ok (.bool false) w := by
  obtain ⟨D, h1, _, h3⟩ := h
  obtain ⟨v, ps, hrun, hv⟩ := h1.lookup K ht hz (plainElem_bool he false) hkey
  obtain ⟨x, rfl, hx⟩ := plainElem_bool_inv he hv
  have h4 := (h3 kl hk).2 hno
  rw [h4] at hx
  simp only [Prod.mk.injEq, DataW.lit.injEq, Lit.bool.injEq] at hx
  rw [hrun, ← hx.1]
/-- a key more -/
theorem SetAt.put (h : SetAt w P k e B n S) (K : Keyed P k) (ht : P.underlying t = some (.map k e)) (he : P.underlying e = some .bool) (hn : n < maxLen) {key : Value} {kl : Lit} (hkey : keyOf P k key = some kl) (hk : WideAt.IsKeyLit kl) :
    ∃ w', (Instr.mapUpdate t (.map (some B)) key (.bool true)).run P w = .ok () w' ∧ SetAt w' P k e B (n + 1) (fun x => x = kl ∨ S x) ∧ w.grownBy w' (some B) := by
  obtain ⟨D, h1, h2, h3⟩ := h
  obtain ⟨w', hrun, ho, hg⟩ := h1.update K ht hn hkey (plainElem_bool he true)
  refine ⟨w', hrun, ⟨_, ho, h2.put _ _, fun x hx => ?_⟩, hg⟩
  by_cases hxk : x = kl
  · subst hxk
    exact ⟨fun _ => Maps.atKey_put_same h2 hk _ _, fun h => absurd (Or.inl rfl) h⟩
  · rw [Maps.atKey_put_other hxk]
    exact ⟨fun h => (h3 x hx).1 (h.resolve_left hxk), fun h => (h3 x hx).2 fun hs => h (Or.inr hs)⟩
end
end Go.Proofs.YtkcaheebaicinaaGreatDoor
/- Systems in plain words: what choosing, growing, taking keep. No program in sight. -/
namespace Go.Proofs.YtkcaheebaicinaaGreatDoor
set_option linter.unusedVariables false

theorem lbS_take {l : List Sl} {a : Nat} : l.take (lbS l a) = l.takeWhile (fun x => decide (x.p < a)) ∧ l.drop (lbS l a) = l.dropWhile (fun x => decide (x.p < a)) := by
  have h : l.takeWhile (fun x => decide (x.p < a)) ++ l.dropWhile (fun x => decide (x.p < a)) = l := List.takeWhile_append_dropWhile
  unfold lbS
  constructor
  · conv => lhs; rw [← h]
    rw [List.take_left']
    rw [h]
  · conv => lhs; rw [← h]
    rw [List.drop_left']
    rw [h]
theorem putS_eq (l : List Sl) (x : Sl) : putS l x = l.takeWhile (fun y => decide (y.p < x.p)) ++ x :: l.dropWhile (fun y => decide (y.p < x.p)) := by
  unfold putS
  rw [lbS_take.1, lbS_take.2]
theorem mem_putS {l : List Sl} {x y : Sl} : y ∈ putS l x ↔ y = x ∨ y ∈ l := by
  rw [putS_eq]
  have h : l.takeWhile (fun y => decide (y.p < x.p)) ++ l.dropWhile (fun y => decide (y.p < x.p)) = l := List.takeWhile_append_dropWhile
  conv => rhs; rw [← h]
  simp only [List.mem_append, List.mem_cons]
  constructor
  · rintro (h | h | h)
    · exact .inr (.inl h)
    · exact .inl h
    · exact .inr (.inr h)
  · rintro (h | h | h)
    · exact .inr (.inl h)
    · exact .inl h
    · exact .inr (.inr h)
theorem dropWhile_ge {a : Nat} : ∀ {l : List Sl}, (l.Pairwise fun x y => x.p < y.p) → ∀ y ∈ l.dropWhile (fun x => decide (x.p < a)), a ≤ y.p
  | [], _, y, hy => by simp at hy
  | b :: l, hl, y, hy => by
    rw [List.pairwise_cons] at hl
    by_cases hb : b.p < a
    · rw [List.dropWhile_cons_of_pos (by simpa using hb)] at hy
      exact dropWhile_ge hl.2 y hy
    · rw [List.dropWhile_cons_of_neg (by simpa using hb)] at hy
      rcases List.mem_cons.1 hy with rfl | hy
      · omega
      · have := hl.1 y hy
        omega
theorem mem_tw {q : Sl → Bool} {y : Sl} : ∀ {l : List Sl}, y ∈ l.takeWhile q → q y = true
  | [], h => by simp at h
  | b :: l, h => by
    by_cases hb : q b = true
    · rw [List.takeWhile_cons_of_pos hb] at h
      rcases List.mem_cons.1 h with rfl | h
      · exact hb
      · exact mem_tw h
    · rw [List.takeWhile_cons_of_neg hb] at h
      simp at h
theorem putS_pair {l : List Sl} {x : Sl} (hl : l.Pairwise fun a b => a.p < b.p) (hx : ∀ y ∈ l, y.p ≠ x.p) : (putS l x).Pairwise fun a b => a.p < b.p := by
  have h : l.takeWhile (fun y => decide (y.p < x.p)) ++ l.dropWhile (fun y => decide (y.p < x.p)) = l := List.takeWhile_append_dropWhile
  have h1 : ∀ y ∈ l.takeWhile (fun y => decide (y.p < x.p)), y.p < x.p := fun y hy => by
    have := mem_tw hy
    simpa using this
  have h2 := dropWhile_ge (a := x.p) hl
  have h3 := hl
  rw [← h, List.pairwise_append] at h3
  rw [putS_eq, List.pairwise_append, List.pairwise_cons]
  refine ⟨h3.1, ⟨fun y hy => ?_, h3.2.1⟩, fun a ha b hb => ?_⟩
  · have h4 := h2 y hy
    have h5 := hx y (by rw [← h]; exact List.mem_append_right _ hy)
    omega
  · rcases List.mem_cons.1 hb with rfl | hb
    · exact h1 a ha
    · exact h3.2.2 a ha b hb
theorem putS_get (l : List Sl) (x : Sl) : (putS l x)[lbS l x.p]? = some x := by
  have h : lbS l x.p ≤ l.length := (List.takeWhile_sublist _).length_le
  unfold putS
  rw [List.getElem?_append_right (by rw [List.length_take]; omega), List.length_take, Nat.min_eq_left h, Nat.sub_self]
  rfl

theorem layN_pos {k : Nat} (h : 1 ≤ k ∧ k ≤ 64) : 1 ≤ layN k := by
  unfold layN
  rw [Nat.le_div_iff_mul_le (by omega)]
  unfold layO
  split
  · rename_i h1
    rw [Nat.le_div_iff_mul_le (by omega)] at h1
    omega
  · split
    · rename_i h1
      rw [Nat.le_div_iff_mul_le (by omega)] at h1
      omega
    · omega
theorem layN_room (k : Nat) : layN k * k ≤ 16 * 2 ^ layO k := Nat.div_mul_le_self _ _
theorem layO_le2 (k : Nat) : layO k ≤ 2 := by unfold layO; split <;> (try split) <;> omega
/-- an object lies in its slab's pages -/
theorem objB_page {c : Ca} {p : Nat} {a : Int} (hc : c.r * c.z ≤ 16 * 2 ^ c.o) (h : objB c p a = true) : 16 * (p : Int) ≤ a ∧ a < 16 * ((p + 2 ^ c.o : Nat) : Int) := by
  have h1 := objB_in h
  have h2 : ((c.r * c.z : Nat) : Int) ≤ ((16 * 2 ^ c.o : Nat) : Int) := by exact_mod_cast hc
  have h3 : ((c.r * c.z : Nat) : Int) = (c.r : Int) * c.z := by push_cast; rfl
  have h4 : ((16 * 2 ^ c.o : Nat) : Int) = 16 * ((2 ^ c.o : Nat) : Int) := by push_cast; rfl
  have h5 : ((p + 2 ^ c.o : Nat) : Int) = (p : Int) + ((2 ^ c.o : Nat) : Int) := by push_cast; rfl
  generalize ((2 ^ c.o : Nat) : Int) = q at *
  omega
theorem CaOk.room {s : Sy} {c : Ca} (h : CaOk s c) : c.r * c.z ≤ 16 * 2 ^ c.o := by rw [h.r, h.o]; exact layN_room _

theorem chainTo_out (xs : List Int) (p k n : Nat) : ∀ (j : Nat), j ≤ n → ∀ i, (i < p ∨ p + k * n ≤ i) → 1 ≤ k → (chainTo xs p k n j).getD i 0 = xs.getD i 0
  | 0, _, _, _, _ => rfl
  | j + 1, hj, i, hi, hk => by
    have ih := chainTo_out xs p k n j (by omega) i hi hk
    have hne : p + j * k ≠ i := by
      have h1 : (j + 1) * k ≤ n * k := Nat.mul_le_mul_right k hj
      have h2 : n * k = k * n := Nat.mul_comm _ _
      rw [Nat.add_mul] at h1
      omega
    unfold chainTo
    rw [List.getD_eq_getElem?_getD, List.getElem?_set_ne hne, ← List.getD_eq_getElem?_getD]
    exact ih

/-- a slab more -/
theorem SOk.grow {s s' : Sy} (hk : SOk s) {i cpu k : Nat} {c : Ca} (hi : s.cs[i]? = some c) (hcpu : cpu < s.h.cpus) (hg : s.grow i cpu c = some (s', k)) :
    SOk s' ∧ s'.h.cpus = s.h.cpus ∧ ∃ (c' : Ca) (x : Sl), s'.cs[i]? = some c' ∧ c'.sl[k]? = some x ∧ 0 < x.n ∧ (∀ a ∈ c'.ac, a ≠ (x.p : Int)) := by
  have hil := (List.getElem?_eq_some_iff.1 hi).1
  have hck := hk.ck c (List.mem_of_getElem? hi)
  have hor : c.o ≤ 4 := by rw [hck.o]; exact Nat.le_trans (layO_le2 _) (by decide)
  unfold Sy.grow at hg
  cases hal : s.h.alloc cpu c.o 0 false false with
  | none => rw [hal] at hg; cases hg
  | some r =>
    obtain ⟨h', a⟩ := r
    rw [hal] at hg
    have h1 := Option.some.inj hg
    rw [Prod.mk.injEq] at h1
    obtain ⟨rfl, rfl⟩ := h1
    obtain ⟨hh, hcnt, hsame, hlive, hfit⟩ := hk.hk.alloc hcpu hor (by decide) hal
    have hcpus : h'.cpus = s.h.cpus := hsame.cpus
    have hcl : h'.live = putIn s.h.live ⟨a, c.o, 0⟩ := hlive
    -- the new block lies apart from all others
    have hap : ∀ b ∈ s.h.live, apartB a c.o b := fun b hb => apart_of_disj fun q h1 h2 => by
      have h3 := hh.one q
      rw [cnt_all, hcl, cnt_putIn] at h3
      have h4 : 0 < cnt s.h.live q := cnt_pos.2 ⟨b, hb, h2⟩
      have h5 : hit (⟨a, c.o, 0⟩ : Bk) q = 1 := hit_one.2 h1
      omega
    have hpp := Nat.two_pow_pos c.o
    have hsl : ∀ d ∈ s.cs, ∀ x ∈ d.sl, x.p ≠ a ∧ ∀ o : Int, objB d x.p o = true → (chainTo s.w (16 * a) c.z c.r c.r).getD o.toNat 0 = s.w.getD o.toNat 0 := fun d hd x hx => by
      have hdk := hk.ck d hd
      obtain ⟨b, hb, hb1, hb2⟩ := (hdk.sk x hx).live
      have h1 := hap b hb
      unfold apartB Bk.fin at h1
      rw [hb1, hb2] at h1
      have hp2 := Nat.two_pow_pos d.o
      refine ⟨by omega, fun o ho => chainTo_out _ _ _ _ _ (Nat.le_refl _) _ ?_ hck.z.1⟩
      have h2 := objB_page hdk.room ho
      have h3 := hck.room
      rw [Nat.mul_comm c.z c.r]
      generalize c.r * c.z = m at *
      generalize 2 ^ c.o = q at *
      generalize 2 ^ d.o = q' at *
      omega
    have hwl : (chainTo s.w (16 * a) c.z c.r c.r).length = s.w.length := chainTo_length _ _ _ _ _
    have hlv : ∀ b ∈ s.h.live, b ∈ h'.live := fun b hb => by
      rw [hcl]
      unfold putIn
      have h2 : s.h.live.take (lb s.h.live a) ++ s.h.live.drop (lb s.h.live a) = s.h.live := List.take_append_drop _ _
      rw [← h2] at hb
      rcases List.mem_append.1 hb with h | h
      · exact List.mem_append_left _ h
      · exact List.mem_append_right _ (List.mem_cons_of_mem _ h)
    have hoth : ∀ d ∈ s.cs, ∀ x ∈ d.sl, SlOk { w := chainTo s.w (16 * a) c.z c.r c.r, h := h', cs := s.cs.set i { c with sl := putS c.sl ⟨a, c.r, ((16 * a : Nat) : Int)⟩ } } d x := fun d hd x hx =>
      ((hk.ck d hd).sk x hx).move rfl rfl rfl hlv hwl ((hsl d hd x hx).2)
    have hr1 : 1 ≤ c.r := by rw [hck.r]; exact layN_pos hck.z
    have hin : 16 * a + c.z * c.r ≤ s.w.length := by
      have h1 := hck.room
      have h2 : a + 2 ^ c.o ≤ 256 := by
        have h3 : c.o ≤ 2 := by rw [hck.o]; exact layO_le2 _
        obtain ⟨_, _, h4, h5⟩ := hfit
        generalize c.o = o at *
        obtain rfl | rfl | rfl : o = 0 ∨ o = 1 ∨ o = 2 := by omega
        · omega
        · omega
        · omega
      rw [Nat.mul_comm c.z, hk.wl]
      generalize c.r * c.z = m at *
      generalize 2 ^ c.o = q at *
      omega
    have hnew : SlOk { w := chainTo s.w (16 * a) c.z c.r c.r, h := h', cs := s.cs.set i { c with sl := putS c.sl ⟨a, c.r, ((16 * a : Nat) : Int)⟩ } } { c with sl := putS c.sl ⟨a, c.r, ((16 * a : Nat) : Int)⟩ } ⟨a, c.r, ((16 * a : Nat) : Int)⟩ := by
      refine ⟨⟨⟨a, c.o, 0⟩, by rw [show h'.live = _ from hcl]; unfold putIn; simp, rfl, rfl⟩, objs (16 * a) c.z c.r, ?_, objs_length _ _ _, fun o ho => ?_⟩
      · have h1 := follow_chain s.w (16 * a) c.z c.r c.r hck.z.1 hr1 hin (by omega)
        rw [if_pos (Int.le_refl _)] at h1
        exact h1
      · unfold objs at ho
        obtain ⟨j, hj, rfl⟩ := List.mem_map.1 ho
        rw [List.mem_range] at hj
        unfold objB
        simp only [decide_eq_true_eq]
        have h1 : ((16 * a + j * c.z : Nat) : Int) - 16 * (a : Int) = (j : Int) * c.z := by push_cast; omega
        rw [h1]
        have h2 : (j : Int) * c.z = ((j * c.z : Nat) : Int) := by push_cast; rfl
        have h3 : (c.r : Int) * c.z = ((c.r * c.z : Nat) : Int) := by push_cast; rfl
        have h4 : j * c.z < c.r * c.z := Nat.mul_lt_mul_of_pos_right hj hck.z.1
        refine ⟨by omega, by omega, Int.mul_emod_left _ _⟩
    refine ⟨hk.upd hi (c' := { c with sl := putS c.sl ⟨a, c.r, ((16 * a : Nat) : Int)⟩ }) (by show (chainTo s.w (16 * a) c.z c.r c.r).length = 4096; rw [hwl]; exact hk.wl) hh rfl rfl rfl ?_ (fun d hd => (hk.ck d hd).move hcpus (hoth d hd)) (fun x hx => ?_), hcpus, { c with sl := putS c.sl ⟨a, c.r, ((16 * a : Nat) : Int)⟩ }, ⟨a, c.r, ((16 * a : Nat) : Int)⟩, ?_, putS_get c.sl ⟨a, c.r, ((16 * a : Nat) : Int)⟩, hr1, fun b hb e => ?_⟩
    · refine ⟨hck.z, hck.o, hck.r, hck.ns, hck.nm, hck.nr, by rw [show _ = _ from hcpus]; exact hck.ac, putS_pair hck.sr (fun y hy => (hsl c (List.mem_of_getElem? hi) y hy).1), fun x hx => ?_, fun b hb => ?_, hck.ad⟩
      · rcases mem_putS.1 hx with rfl | hx
        · exact hnew
        · have h1 := hoth c (List.mem_of_getElem? hi) x hx
          exact ⟨h1.live, h1.chain⟩
      · rcases hck.aw b hb with h | ⟨x, hx, h⟩
        · exact .inl h
        · exact .inr ⟨x, mem_putS.2 (.inr hx), h⟩
    · rcases mem_putS.1 hx with rfl | hx
      · exact .inr fun d hd y hy => (hsl d hd y hy).1
      · exact .inl ⟨x, hx, rfl⟩
    · show (s.cs.set i _)[i]? = _
      rw [List.getElem?_set_self hil]
    · rcases hck.aw b hb with h | ⟨x, hx, h⟩
      · rw [h] at e
        have e' : (-1 : Int) = (a : Int) := e
        omega
      · have h1 := (hsl c (List.mem_of_getElem? hi) x hx).1
        rw [← h] at e
        have e' : (x.p : Int) = (a : Int) := e
        omega

/-- a processor has a slab of its own -/
theorem SOk.mine {s : Sy} (hk : SOk s) {i cpu k : Nat} {c : Ca} {x : Sl} (hi : s.cs[i]? = some c) (hx : c.sl[k]? = some x) (hn : ∀ a ∈ c.ac, a ≠ (x.p : Int)) :
    SOk (s.mine i cpu k) ∧ (s.mine i cpu k).h = s.h ∧ (s.mine i cpu k).w = s.w ∧ (s.mine i cpu k).cs[i]? = some { c with ac := c.ac.set cpu (x.p : Int) } := by
  have hil := (List.getElem?_eq_some_iff.1 hi).1
  have hcm := List.mem_of_getElem? hi
  have hck := hk.ck c hcm
  have e : s.mine i cpu k = s.setC i { c with ac := c.ac.set cpu (x.p : Int) } := by
    unfold Sy.mine
    rw [hi]
    simp only [hx]
  rw [e]
  refine ⟨hk.upd hi (c' := { c with ac := c.ac.set cpu (x.p : Int) }) hk.wl hk.hk rfl rfl rfl ?_ (fun d hd => (hk.ck d hd).move rfl (fun y hy => ⟨((hk.ck d hd).sk y hy).live, ((hk.ck d hd).sk y hy).chain⟩)) (fun y hy => .inl ⟨y, hy, rfl⟩), rfl, rfl, ?_⟩
  · refine ⟨hck.z, hck.o, hck.r, hck.ns, hck.nm, hck.nr, by rw [List.length_set]; exact hck.ac, hck.sr, fun y hy => ⟨(hck.sk y hy).live, (hck.sk y hy).chain⟩, fun a ha => ?_, ?_⟩
    · rcases List.mem_or_eq_of_mem_set ha with h | rfl
      · exact hck.aw a h
      · exact .inr ⟨x, List.mem_of_getElem? hx, rfl⟩
    · have h1 := hck.ad
      rw [List.pairwise_iff_getElem] at h1 ⊢
      intro j l hj hl hjl
      have hj' : j < c.ac.length := by simpa using hj
      have hl' : l < c.ac.length := by simpa using hl
      simp only [List.getElem_set]
      split
      · rename_i e1
        rw [if_neg (by omega)]
        exact fun e2 => absurd e2.symm (hn _ (List.getElem_mem hl'))
      · split
        · exact fun e2 => absurd e2 (hn _ (List.getElem_mem hj'))
        · exact h1 j l hj' hl' hjl
  · show (s.cs.set i _)[i]? = _
    rw [List.getElem?_set_self hil]

/-- the slab's first free object -/
theorem SOk.first {s : Sy} (hk : SOk s) {c : Ca} {x : Sl} (hc : c ∈ s.cs) (hx : x ∈ c.sl) (hn : 0 < x.n) : ∃ m, follow s.w x.h c.r = some (x.h :: m) ∧ m.length + 1 = x.n ∧ (∀ a ∈ x.h :: m, objB c x.p a = true) ∧ 0 ≤ x.h ∧ x.h < 4096 ∧ follow s.w (s.w.getD x.h.toNat 0) c.r = some m := by
  obtain ⟨l, h1, h2, h3⟩ := ((hk.ck c hc).sk x hx).chain
  have h4 := follow_iff.1 h1
  cases l with
  | nil => simp at h2; omega
  | cons a m =>
    obtain ⟨⟨rfl, h5⟩, h6, h7, h8⟩ := h4
    have h9 := h6 x.h (by simp)
    rw [hk.wl] at h9
    refine ⟨m, h1, by simpa using h2, h3, h9.1, by omega, follow_iff.2 ⟨h5, fun a ha => h6 a (List.mem_cons_of_mem _ ha), fun _ => ?_, (List.nodup_cons.1 h8).2⟩⟩
    have := h7 (by simp)
    simp at this
    omega
/-- an object is taken -/
theorem SOk.pop {s s' : Sy} (hk : SOk s) {i k : Nat} {c : Ca} {x : Sl} {a : Int} (hi : s.cs[i]? = some c) (hx : c.sl[k]? = some x) (hn : 0 < x.n) (hp : s.pop i k = some (s', a)) :
    SOk s' ∧ s'.h = s.h ∧ s'.w = s.w ∧ a = x.h ∧ s' = s.setC i { c with sl := c.sl.set k ⟨x.p, x.n - 1, s.w.getD x.h.toNat 0⟩ } := by
  have hil := (List.getElem?_eq_some_iff.1 hi).1
  have hcm := List.mem_of_getElem? hi
  have hxm := List.mem_of_getElem? hx
  obtain ⟨hkl, hkx⟩ := List.getElem?_eq_some_iff.1 hx
  have hck := hk.ck c hcm
  unfold Sy.pop at hp
  rw [hi] at hp
  simp only [hx] at hp
  have h1 := Option.some.inj hp
  rw [Prod.mk.injEq] at h1
  obtain ⟨rfl, rfl⟩ := h1
  obtain ⟨m, h2, h3, h4, h5, h6, h7⟩ := hk.first hcm hxm hn
  have hmem : ∀ y ∈ c.sl.set k ⟨x.p, x.n - 1, s.w.getD x.h.toNat 0⟩, y ∈ c.sl ∨ y = ⟨x.p, x.n - 1, s.w.getD x.h.toNat 0⟩ := fun y hy => List.mem_or_eq_of_mem_set hy
  have hpm : ∀ y ∈ c.sl.set k ⟨x.p, x.n - 1, s.w.getD x.h.toNat 0⟩, ∃ z ∈ c.sl, z.p = y.p := fun y hy => by
    rcases hmem y hy with h | rfl
    · exact ⟨y, h, rfl⟩
    · exact ⟨x, hxm, rfl⟩
  refine ⟨hk.upd hi (c' := { c with sl := c.sl.set k ⟨x.p, x.n - 1, s.w.getD x.h.toNat 0⟩ }) hk.wl hk.hk rfl rfl rfl ?_ (fun d hd => (hk.ck d hd).move rfl (fun y hy => ⟨((hk.ck d hd).sk y hy).live, ((hk.ck d hd).sk y hy).chain⟩)) (fun y hy => .inl (hpm y hy)), rfl, rfl, rfl, rfl⟩
  refine ⟨hck.z, hck.o, hck.r, hck.ns, hck.nm, hck.nr, hck.ac, ?_, fun y hy => ?_, fun b hb => ?_, hck.ad⟩
  · have h8 := hck.sr
    rw [List.pairwise_iff_getElem] at h8 ⊢
    intro j l hj hl hjl
    have hj' : j < c.sl.length := by simpa using hj
    have hl' : l < c.sl.length := by simpa using hl
    have h9 := h8 j l hj' hl' hjl
    simp only [List.getElem_set]
    split
    · rename_i e1
      subst e1
      rw [if_neg (by omega)]
      rw [hkx] at h9
      exact h9
    · split
      · rename_i e1
        subst e1
        rw [hkx] at h9
        exact h9
      · exact h9
  · rcases hmem y hy with h | rfl
    · exact ⟨(hck.sk y h).live, (hck.sk y h).chain⟩
    · exact ⟨(hck.sk x hxm).live, m, h7, by show m.length = x.n - 1; omega, fun a ha => h4 a (List.mem_cons_of_mem _ ha)⟩
  · rcases hck.aw b hb with h | ⟨z, hz, h⟩
    · exact .inl h
    · refine .inr ?_
      obtain ⟨j, hj, e⟩ := List.mem_iff_getElem.1 hz
      refine ⟨(c.sl.set k ⟨x.p, x.n - 1, s.w.getD x.h.toNat 0⟩)[j]'(by simpa using hj), List.getElem_mem _, ?_⟩
      rw [List.getElem_set]
      split
      · rename_i e1
        subst e1
        rw [hkx] at e
        rw [e]
        exact h
      · rw [e]
        exact h
/-- the slab that is chosen -/
theorem SOk.choose {s s' : Sy} (hk : SOk s) {i cpu k : Nat} {c : Ca} (hi : s.cs[i]? = some c) (hcpu : cpu < s.h.cpus) (hg : s.choose i cpu = some (s', k)) :
    SOk s' ∧ s'.h.cpus = s.h.cpus ∧ ∃ (c' : Ca) (x : Sl), s'.cs[i]? = some c' ∧ c'.sl[k]? = some x ∧ 0 < x.n := by
  unfold Sy.choose at hg
  rw [hi] at hg
  simp only at hg
  cases hown : c.own cpu with
  | some j =>
    rw [hown] at hg
    have h1 := Option.some.inj hg
    rw [Prod.mk.injEq] at h1
    obtain ⟨rfl, rfl⟩ := h1
    unfold Ca.own at hown
    split at hown
    · split at hown
      · split at hown
        · obtain rfl := Option.some.inj hown
          exact ⟨hk, rfl, c, _, hi, by assumption, by assumption⟩
        · cases hown
      · cases hown
    · cases hown
  | none =>
    rw [hown] at hg
    simp only at hg
    cases hnob : c.nobody with
    | some j =>
      rw [hnob] at hg
      have h1 := Option.some.inj hg
      rw [Prod.mk.injEq] at h1
      obtain ⟨rfl, rfl⟩ := h1
      unfold Ca.nobody at hnob
      rw [List.findIdx?_eq_some_iff_getElem] at hnob
      obtain ⟨hj, h2, _⟩ := hnob
      simp only [Bool.and_eq_true, decide_eq_true_eq, Bool.not_eq_true'] at h2
      have hx : c.sl[j]? = some c.sl[j] := List.getElem?_eq_getElem hj
      obtain ⟨h3, h4, _, h5⟩ := hk.mine (cpu := cpu) hi hx (fun a ha e => by
        rw [← e, List.contains_iff_mem.2 ha] at h2
        cases h2.2)
      exact ⟨h3, by rw [h4], _, c.sl[j], h5, hx, h2.1⟩
    | none =>
      rw [hnob] at hg
      simp only at hg
      cases hgr : s.grow i cpu c with
      | none => rw [hgr] at hg; cases hg
      | some r =>
        obtain ⟨s2, j⟩ := r
        rw [hgr] at hg
        have h1 := Option.some.inj hg
        rw [Prod.mk.injEq] at h1
        obtain ⟨rfl, rfl⟩ := h1
        obtain ⟨h2, h3, c', x, h4, h5, h6, h7⟩ := hk.grow hi hcpu hgr
        obtain ⟨h8, h9, _, h10⟩ := h2.mine (cpu := cpu) h4 h5 h7
        exact ⟨h8, by rw [h9]; exact h3, _, x, h10, h5, h6⟩
theorem SOk.one {s s' : Sy} (hk : SOk s) {i cpu : Nat} {c : Ca} {a : Int} (hi : s.cs[i]? = some c) (hcpu : cpu < s.h.cpus) (hg : s.one i cpu = some (s', a)) : SOk s' ∧ s'.h.cpus = s.h.cpus ∧ s'.cs.length = s.cs.length ∧ ∃ c', s'.cs[i]? = some c' := by
  unfold Sy.one at hg
  cases hch : s.choose i cpu with
  | none => rw [hch] at hg; cases hg
  | some r =>
    obtain ⟨s2, k⟩ := r
    rw [hch] at hg
    simp only at hg
    obtain ⟨h1, h2, c', x, h3, h4, h5⟩ := hk.choose hi hcpu hch
    obtain ⟨h6, h7, _, _, h8⟩ := h1.pop h3 h4 h5 hg
    have hlen : s2.cs.length = s.cs.length := by
      unfold Sy.choose at hch
      rw [hi] at hch
      simp only at hch
      have hm : ∀ (t : Sy) (j : Nat), (t.mine i cpu j).cs.length = t.cs.length := fun t j => by
        unfold Sy.mine Sy.setC
        split
        · split
          · simp
          · rfl
        · rfl
      split at hch
      · have h := Option.some.inj hch
        rw [Prod.mk.injEq] at h
        rw [← h.1]
      · split at hch
        · have h := Option.some.inj hch
          rw [Prod.mk.injEq] at h
          rw [← h.1]
          exact hm _ _
        · split at hch
          · rename_i heq
            have h := Option.some.inj hch
            rw [Prod.mk.injEq] at h
            rw [← h.1, hm]
            unfold Sy.grow at heq
            split at heq
            · have h' := Option.some.inj heq
              rw [Prod.mk.injEq] at h'
              rw [← h'.1]
              simp
            · cases heq
          · cases hch
    have hil : i < s2.cs.length := (List.getElem?_eq_some_iff.1 h3).1
    refine ⟨h6, by rw [h7]; exact h2, ?_, ?_⟩
    · rw [h8]
      unfold Sy.setC
      simp [hlen]
    · rw [h8]
      exact ⟨_, by show (s2.cs.set i _)[i]? = _; rw [List.getElem?_set_self hil]⟩
end Go.Proofs.YtkcaheebaicinaaGreatDoor
