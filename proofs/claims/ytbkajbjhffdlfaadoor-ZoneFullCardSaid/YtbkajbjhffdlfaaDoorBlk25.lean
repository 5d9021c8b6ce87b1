/- Contracts of ZoneFull's predicates. -/
import Derived.Test.YtbkajbjhffdlfaaDoorBlk9
namespace Go.Proofs.YtbkajbjhffdlfaaDoor
open Go.RowKit
set_option linter.unusedVariables false

theorem greatEnough (x : Bk) (o C : Nat) (W : World) (hx : x.o ≤ 4) (ho : o ≤ 4) (hC : C < W.heap.size) (hc : W.cell? ⟨C, 0, none⟩ = some (.int .i64 o)) :
    Calls Tryd.prog 16 (#[.agg (encBk x).toArray] ++ #[.pointer (some ⟨C, 0, none⟩)]) W fun ev w' => ev = .returned (.bool (decide (o ≤ x.o))) ∧ Below W.heap.size W w' := by
  have hne : C ≠ W.heap.size := by omega
  show Calls Tryd.prog 16 #[.agg #[.int .i64 x.a, .int .i64 x.o, .int .i64 x.t], .pointer (some ⟨C, 0, none⟩)] W _
  go_enter Tryd.func16, Tryd.ntmps16
  go_wp2
  go_ret
  exact ⟨ret_bool (by simp), below_alloc _ _⟩

theorem isInside (x : Bk) (p o G C : Nat) (W : World) (hx : x.o ≤ 4) (hxa : x.a ≤ 1000) (hp : p ≤ 1000) (ho : o ≤ 4) (hG : G < W.heap.size) (hg : W.cell? ⟨G, 0, none⟩ = some (.int .i64 p)) (hC : C < W.heap.size) (hc : W.cell? ⟨C, 0, none⟩ = some (.int .i64 o)) :
    Calls Tryd.prog 17 (#[.agg (encBk x).toArray] ++ #[.pointer (some ⟨G, 0, none⟩), .pointer (some ⟨C, 0, none⟩)]) W fun ev w' => ev = .returned (.bool (decide (x.a ≤ p ∧ p + 2 ^ o ≤ x.fin))) ∧ Below W.heap.size W w' := by
  show Calls Tryd.prog 17 #[.agg #[.int .i64 x.a, .int .i64 x.o, .int .i64 x.t], .pointer (some ⟨G, 0, none⟩), .pointer (some ⟨C, 0, none⟩)] W _
  have hb0 := below_alloc W (.cells #[.int .i64 (x.a : Int), .int .i64 (x.o : Int), .int .i64 (x.t : Int)] 36)
  have K := box_new W #[.int .i64 (x.a : Int), .int .i64 (x.o : Int), .int .i64 (x.t : Int)] 36
  have g0 := (hb0.cell (p := ⟨G, 0, none⟩) hG).trans hg
  have c0 := (hb0.cell (p := ⟨C, 0, none⟩) hC).trans hc
  have k0 := K 0
  have k1 := K 1
  have k2 := K 2
  simp only [List.getElem?_toArray, List.getElem?_cons_zero, List.getElem?_cons_succ] at k0 k1 k2
  have hsh := shl_bk hx
  have hpw := pow_bk hx
  have hsho := shl_bk ho
  have hpwo := pow_bk ho
  have hw : wrap64 ((x.a : Int) + 2 ^ x.o) = ((x.fin : Nat) : Int) := by
    have e : ((2 : Int) ^ x.o) = ((2 ^ x.o : Nat) : Int) := by push_cast; rfl
    unfold Bk.fin
    rw [e, IntWalk.wrap64_in _ (by omega)]
    omega
  have hwo : wrap64 ((p : Int) + 2 ^ o) = ((p + 2 ^ o : Nat) : Int) := by
    have e : ((2 : Int) ^ o) = ((2 ^ o : Nat) : Int) := by push_cast; rfl
    rw [e, IntWalk.wrap64_in _ (by omega)]
    omega
  have HW := Hid.mk hw
  have HWO := Hid.mk hwo
  clear hw hwo hg hc K
  go_enter Tryd.func17, Tryd.ntmps17
  go_wp2_with fail
  generalize W.alloc (.cells #[.int .i64 (x.a : Int), .int .i64 (x.o : Int), .int .i64 (x.t : Int)] 36) = w0 at *
  by_cases h1 : x.a ≤ p
  · have d1 : (x.a : Int) ≤ p := by omega
    go_quiet (fail)
    go_wp2
    go_ret
    refine ⟨ret_bool ?_, below_drewN hb0 _⟩
    rw [HW.out, HWO.out]
    by_cases h2 : p + 2 ^ o ≤ x.fin
    · rw [decide_eq_true (show ((p + 2 ^ o : Nat) : Int) ≤ x.fin by omega), decide_eq_true (And.intro h1 h2)]
    · rw [decide_eq_false (show ¬ ((p + 2 ^ o : Nat) : Int) ≤ x.fin by omega), decide_eq_false (fun h : x.a ≤ p ∧ p + 2 ^ o ≤ x.fin => h2 h.2)]
  · have d1 : decide ((x.a : Int) ≤ p) = false := decide_eq_false (by omega)
    go_quiet (fail)
    go_wp2
    go_ret
    exact ⟨ret_bool (by symm; exact decide_eq_false (fun h => h1 h.1)), below_drewN hb0 _⟩
end Go.Proofs.YtbkajbjhffdlfaaDoor
