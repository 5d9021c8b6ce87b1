/- The walk of paddockkeep.ZoneTypes. -/
import Derived.Test.YtbkajbjhffdlfaaDoorZoneWholeWalk
import Derived.Test.YtbkajbjhffdlfaaDoorBlk15
import Derived.OpenShut
import Derived.ProofKit
namespace Go.Proofs.YtbkajbjhffdlfaaDoor
open Go.RowKit Go.WideShapes Go.ChangeShapes
set_option linter.unusedVariables false

/-- what one Take gives: a zone that may be, of the same pages, and a page of the type that was asked -/
def Got (z : Zn) (o k : Nat) (z' : Zn) (p : Nat) : Prop := z.take o k = some (z', p) ∧ z'.ok ∧ z'.f = 16 ∧ z'.e = 112 ∧ 16 ≤ p ∧ p < 112 ∧ z'.y.getD ((p - 16) / 8) 0 = k
def gotB (z : Zn) (o k : Nat) : Bool := match z.take o k with
  | some (z', p) => decide (z'.ok ∧ z'.f = 16 ∧ z'.e = 112 ∧ 16 ≤ p ∧ p < 112 ∧ z'.y.getD ((p - 16) / 8) 0 = k)
  | none => false
theorem got_of {z : Zn} {o k : Nat} (h : gotB z o k = true) : ∃ z' p, Got z o k z' p := by
  unfold gotB at h
  split at h
  · rename_i z' p e
    exact ⟨z', p, e, of_decide_eq_true h⟩
  · cases h
theorem first_got : ∀ k, k < 3 → gotB zone1 3 k = true := by rw [zone1_is]; decide +kernel
theorem second_got : ∀ k, k < 3 → k ≠ 1 → ∀ z' p, Got zone1 3 k z' p → gotB z' 0 k = true := by
  have h : ∀ k, k < 3 → k ≠ 1 → (match zone1.take 3 k with | some (z', p) => gotB z' 0 k | none => false) = true := by rw [zone1_is]; decide +kernel
  intro k hk hne z' p hg
  have := h k hk hne
  rw [hg.1] at this
  exact this

theorem take_got (a1 a2 : Option Addr) (n1 n2 c1 c2 : Nat) (z : Zn) (o k : Nat) (w : World) (hat : ZAt w a1 a2 n1 n2 z) (hz : z.ok) (ho : o ≤ 4) (hk : k < 3) (hoth : Oth w) {z' : Zn} {p : Nat} (hg : Got z o k z' p) :
    Calls Tryd.prog 14 #[.agg #[.int .i64 z.f, .int .i64 z.e, .slice a1 n1 c1, .slice a2 n2 c2], .int .i64 o, .int .i64 k] w fun ev w' => ∃ b1 b2 m1 d1 d2, ev = .returned (.tuple #[.agg #[.int .i64 z.f, .int .i64 z.e, .slice b1 m1 d1, .slice b2 n2 d2], .int .i64 p, .int .i64 0]) ∧ ZOwn w' w.heap.size b1 b2 m1 n2 d1 d2 z' ∧ Below w.heap.size w w' :=
  (take_ok a1 a2 n1 n2 c1 c2 z o k w hat hz ho hk hoth).mono fun ev w' h => by
    rcases h with ⟨h, _⟩ | ⟨z2, at2, e1, e2, s1, t1, t2, h, h3, h4, h5⟩
    · rw [hg.1] at h; cases h
    · rw [hg.1] at h
      simp only [Option.some.injEq, Prod.mk.injEq] at h
      obtain ⟨rfl, rfl⟩ := h
      exact ⟨e1, e2, s1, t1, t2, h3, h4, h5⟩
theorem typeAt_got (a1 a2 : Option Addr) (n1 n2 c1 c2 : Nat) (z y : Zn) (o k : Nat) (w : World) (hat : ZAt w a1 a2 n1 n2 z) {p : Nat} (hg : Got y o k z p) :
    Calls Tryd.prog 18 #[.agg #[.int .i64 16, .int .i64 112, .slice a1 n1 c1, .slice a2 n2 c2], .int .i64 p] w fun ev w' => ev = .returned (.tuple #[.int .i64 (k : Int), .int .i64 0]) ∧ Below w.heap.size w w' := by
  obtain ⟨h1, h2, h3, h4, h5, h6, h7⟩ := hg
  have h := typeAt_ok a1 a2 n1 n2 c1 c2 z p w hat h2 (by omega) (by omega)
  rw [h3, h4, h7] at h
  exact h

set_option maxHeartbeats 8000000 in
set_option maxRecDepth 100000 in
theorem zoneTypes_walk (q : Int) (hq : (Lit.int .i64 q).wf = true) {w : World} (hoth : Oth w) :
    Calls Tryd.prog 6 #[.int .i64 q] w fun ev w' => ev = .returned (.bool true) ∧ Below w.heap.size w w' := by
  obtain ⟨hq1, hq2⟩ := bounds_i64 hq
  obtain ⟨k, hk3, hpk'⟩ := pk_nat q 3 (by omega)
  have hpk : pk q 3 = (k : Int) := hpk'
  clear hpk'
  go_enter Tryd.func6, Tryd.ntmps6
  go_wp2_with fail
  refine (picked_any q 3 _ hq1 hq2 (by omega) (by omega)).mono ?_
  rintro ev _ ⟨rfl, rfl⟩
  rw [hpk]
  clear hpk
  dsimp only
  go_wp2_with fail
  refine (zoned_ok none 0 0 [] 0 _ rfl (Nat.le_refl _) (Nat.zero_le _) (Row.nil _ _) (by simp) (by omega) hoth).mono ?_
  rintro ev w1 ⟨z, away, hd⟩
  obtain ⟨a1, a2, n1, n2, c1, c2, aw, na, ca, rfl, hown, hoa⟩ := hd.ex
  have HBW := Hid.mk hd.bw
  have hww := hd.bw.size
  have hz1 := (hd.nil rfl).1
  have hzok := hd.inv.ok
  have HOT := Hid.mk (hoth.mono hd.bw (Nat.le_refl _))
  have hb2 := below_alloc w1 (.cells #[.int .i64 (z.f : Int), .int .i64 (z.e : Int), .slice a1 n1 c1, .slice a2 n2 c2] 26)
  have HI : Hid (WInv w w1 (w1.alloc (.cells #[.int .i64 (z.f : Int), .int .i64 (z.e : Int), .slice a1 n1 c1, .slice a2 n2 c2] 26)) a1 a2 n1 n2 c1 c2 z) :=
    ⟨box_new w1 _ _, box_frz w1 _ _, hown.below hb2, hown.ne (.inr (Nat.le_refl _)), by simp, hb2⟩
  obtain ⟨z2, p, hg⟩ := got_of (first_got k hk3)
  have HG1 : Hid (Got z 3 k z2 p) := by rw [hz1]; exact hg
  have HG2 : Hid (k ≠ 1 → ∃ z3 p3, Got z2 0 k z3 p3) := fun hne => got_of (second_got k hk3 hne z2 p hg)
  have hzf := hd.f
  have hze := hd.e
  have HZF := Hid.mk hzf
  have HZE := Hid.mk hze
  clear hd hoa hown hb2 hoth hg hz1 hzf hze
  dsimp only
  have k30 := HI.out.k 0
  have k31 := HI.out.k 1
  have k32 := HI.out.k 2
  have k33 := HI.out.k 3
  simp only [List.getElem?_toArray, List.getElem?_cons_zero, List.getElem?_cons_succ] at k30 k31 k32 k33
  go_wp2_with fail
  clear k30 k31 k32 k33
  generalize w1.alloc (.cells #[.int .i64 (z.f : Int), .int .i64 (z.e : Int), .slice a1 n1 c1, .slice a2 n2 c2] 26) = w2 at *
  refine (take_got _ _ _ _ _ _ z 3 k _ HI.out.own.at hzok (by omega) hk3 (HOT.out.mono HI.out.bw (Nat.le_refl _)) HG1.out).mono ?_
  rintro ev w3 ⟨b1, b2, m1, d1, d2, rfl, hown3, hb3⟩
  have HI3 := Hid.mk (HI.out.below hb3)
  have hHi := HI.out.hi
  have hs3 := hb3.size
  have HI4 : Hid (WInv w w1 ((((w3.setCell ⟨w1.heap.size, 0, none⟩ (.int .i64 z2.f)).setCell ⟨w1.heap.size, 1, none⟩ (.int .i64 z2.e)).setCell ⟨w1.heap.size, 2, none⟩ (.slice b1 m1 d1)).setCell ⟨w1.heap.size, 3, none⟩ (.slice b2 n2 d2)) b1 b2 m1 n2 d1 d2 z2) := HI3.out.put (hown3.base (by omega)) (hown3.ne (.inl hHi))
  rw [HG1.out.2.2.1, HG1.out.2.2.2.1, HZF.out, HZE.out] at *
  have k30 := HI3.out.k 0
  have k31 := HI3.out.k 1
  have k32 := HI3.out.k 2
  have k33 := HI3.out.k 3
  have ff := HI3.out.f
  have hz2ok := HG1.out.2.1
  simp only [List.getElem?_toArray, List.getElem?_cons_zero, List.getElem?_cons_succ] at k30 k31 k32 k33
  clear hown3 hb3 HI
  dsimp only
  go_wp2_with fail
  clear k30 k31 k32 k33 ff HI3
  generalize (((w3.setCell ⟨w1.heap.size, 0, none⟩ (.int .i64 16)).setCell ⟨w1.heap.size, 1, none⟩ (.int .i64 112)).setCell ⟨w1.heap.size, 2, none⟩ (.slice b1 m1 d1)).setCell ⟨w1.heap.size, 3, none⟩ (.slice b2 n2 d2) = w4 at *
  refine (typeAt_got _ _ _ _ _ _ z2 z 3 k _ HI4.out.own.at HG1.out).mono ?_
  rintro ev w5 ⟨rfl, hb5⟩
  have HI5 := Hid.mk (HI4.out.below hb5)
  clear hb5 HI4
  dsimp only
  by_cases hk1 : k = 1
  · subst hk1
    go_wp2
    go_ret
    exact ⟨rfl, HBW.out.trans (HI5.out.bw.mono hww)⟩
  · obtain ⟨z3, p3, hg3⟩ := HG2.out hk1
    have HG3 := Hid.mk hg3
    have hk1i : ((k : Int) == 1) = false := by rw [beq_eq_false_iff_ne]; omega
    clear hg3
    have k30 := HI5.out.k 0
    have k31 := HI5.out.k 1
    have k32 := HI5.out.k 2
    have k33 := HI5.out.k 3
    rw [HG1.out.2.2.1] at k30
    rw [HG1.out.2.2.2.1] at k31
    simp only [List.getElem?_toArray, List.getElem?_cons_zero, List.getElem?_cons_succ] at k30 k31 k32 k33
    go_wp2_with fail
    clear k30 k31 k32 k33
    have htk := take_got b1 b2 m1 n2 d1 d2 z2 0 k w5 HI5.out.own.at hz2ok (by omega) hk3 (HOT.out.mono HI5.out.bw (Nat.le_refl _)) HG3.out
    rw [HG1.out.2.2.1, HG1.out.2.2.2.1] at htk
    refine htk.mono ?_
    rintro ev w6 ⟨e1, e2, s1, t1, t2, rfl, hown6, hb6⟩
    have HI6 := Hid.mk (HI5.out.below hb6)
    have hHi5 := HI5.out.hi
    have hs6 := hb6.size
    have hs5 := HI5.out.bw.size
    have HI7 : Hid (WInv w w1 ((((w6.setCell ⟨w1.heap.size, 0, none⟩ (.int .i64 z3.f)).setCell ⟨w1.heap.size, 1, none⟩ (.int .i64 z3.e)).setCell ⟨w1.heap.size, 2, none⟩ (.slice e1 s1 t1)).setCell ⟨w1.heap.size, 3, none⟩ (.slice e2 n2 t2)) e1 e2 s1 n2 t1 t2 z3) := HI6.out.put (hown6.base (by omega)) (hown6.ne (.inl hHi5))
    rw [HG3.out.2.2.1, HG3.out.2.2.2.1] at HI7
    have k30 := HI6.out.k 0
    have k31 := HI6.out.k 1
    have k32 := HI6.out.k 2
    have k33 := HI6.out.k 3
    have ff := HI6.out.f
    simp only [List.getElem?_toArray, List.getElem?_cons_zero, List.getElem?_cons_succ] at k30 k31 k32 k33
    clear hown6 hb6 HI5 htk
    dsimp only
    go_wp2_with fail
    clear k30 k31 k32 k33 ff HI6
    generalize (((w6.setCell ⟨w1.heap.size, 0, none⟩ (.int .i64 16)).setCell ⟨w1.heap.size, 1, none⟩ (.int .i64 112)).setCell ⟨w1.heap.size, 2, none⟩ (.slice e1 s1 t1)).setCell ⟨w1.heap.size, 3, none⟩ (.slice e2 n2 t2) = w7 at *
    refine (typeAt_got _ _ _ _ _ _ z3 z2 0 k _ HI7.out.own.at HG3.out).mono ?_
    rintro ev w8 ⟨rfl, hb8⟩
    have HI8 := Hid.mk (HI7.out.below hb8)
    clear hb8 HI7
    dsimp only
    go_wp2
    go_ret
    exact ⟨rfl, HBW.out.trans (HI8.out.bw.mono hww)⟩
end Go.Proofs.YtbkajbjhffdlfaaDoor
