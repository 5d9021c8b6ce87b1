/- Contract of ZoneTwice's predicate: is a page in a block? -/
import Derived.Test.YtbkajbjhffdlfaaDoorBlk9
namespace Go.Proofs.YtbkajbjhffdlfaaDoor
open Go.RowKit
set_option linter.unusedVariables false

theorem inBlk (x : Bk) (p B : Nat) (W : World) (hx : x.o ≤ 4) (hxa : x.a ≤ 1000) (hp : p ≤ 1000) (hB : B < W.heap.size) (hc : W.cell? ⟨B, 0, none⟩ = some (.int .i64 p)) :
    Calls Tryd.prog 19 (#[.agg (encBk x).toArray] ++ #[.pointer (some ⟨B, 0, none⟩)]) W fun ev w' => ev = .returned (.bool (decide (x.a ≤ p ∧ p < x.fin))) ∧ Below W.heap.size W w' := by
  show Calls Tryd.prog 19 #[.agg #[.int .i64 x.a, .int .i64 x.o, .int .i64 x.t], .pointer (some ⟨B, 0, none⟩)] W _
  have hb0 := below_alloc W (.cells #[.int .i64 (x.a : Int), .int .i64 (x.o : Int), .int .i64 (x.t : Int)] 36)
  have K := box_new W #[.int .i64 (x.a : Int), .int .i64 (x.o : Int), .int .i64 (x.t : Int)] 36
  have hs : W.heap.size < (W.alloc (.cells #[.int .i64 (x.a : Int), .int .i64 (x.o : Int), .int .i64 (x.t : Int)] 36)).heap.size := by simp
  have g0 := (hb0.cell (p := ⟨B, 0, none⟩) hB).trans hc
  have hB2 := Nat.lt_trans hB hs
  have k0 := K 0
  have k1 := K 1
  have k2 := K 2
  simp only [List.getElem?_toArray, List.getElem?_cons_zero, List.getElem?_cons_succ] at k0 k1 k2
  have hsh := shl_bk hx
  have hpw := pow_bk hx
  have hw : wrap64 ((x.a : Int) + 2 ^ x.o) = ((x.fin : Nat) : Int) := by
    have e : ((2 : Int) ^ x.o) = ((2 ^ x.o : Nat) : Int) := by push_cast; rfl
    unfold Bk.fin
    rw [e, IntWalk.wrap64_in _ (by omega)]
    omega
  have HW := Hid.mk hw
  clear hw
  clear hc K
  go_enter Tryd.func19, Tryd.ntmps19
  go_wp2_with fail
  generalize W.alloc (.cells #[.int .i64 (x.a : Int), .int .i64 (x.o : Int), .int .i64 (x.t : Int)] 36) = w0 at *
  by_cases h1 : x.a ≤ p
  · have d1 : (x.a : Int) ≤ p := by omega
    go_quiet (fail)
    go_wp2
    go_ret
    refine ⟨ret_bool ?_, below_drewN hb0 _⟩
    rw [HW.out]
    by_cases h2 : p < x.fin
    · rw [decide_eq_true (show (p : Int) < x.fin by omega), decide_eq_true (And.intro h1 h2)]
    · rw [decide_eq_false (show ¬ (p : Int) < x.fin by omega), decide_eq_false (fun h : x.a ≤ p ∧ p < x.fin => h2 h.2)]
  · have d1 : decide ((x.a : Int) ≤ p) = false := decide_eq_false (by omega)
    go_quiet (fail)
    go_wp2
    go_ret
    exact ⟨ret_bool (by symm; exact decide_eq_false (fun h => h1 h.1)), below_drewN hb0 _⟩
end Go.Proofs.YtbkajbjhffdlfaaDoor
