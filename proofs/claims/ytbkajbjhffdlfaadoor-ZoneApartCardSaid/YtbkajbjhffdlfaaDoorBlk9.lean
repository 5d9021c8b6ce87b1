/- Contracts of package buddy: lowest; the predicate of Back. -/
import Derived.Test.YtbkajbjhffdlfaaDoorBlk6
namespace Go.Proofs.YtbkajbjhffdlfaaDoor
open Go.RowKit
set_option linter.unusedVariables false

set_option maxHeartbeats 2000000 in
/-- do a block and one of a place and an order meet? -/
theorem meets_bk (x b : Bk) (B : Nat) (W : World) (hx : x.o ≤ 4) (hxa : x.a ≤ 1000) (hb : b.o ≤ 4) (hba : b.a ≤ 1000) (hB : B < W.heap.size) (h0 : W.cell? ⟨B, 0, none⟩ = some (.int .i64 b.a)) (h1 : W.cell? ⟨B, 1, none⟩ = some (.int .i64 b.o)) (h2 : W.cell? ⟨B, 2, none⟩ = some (.int .i64 b.t)) :
    Calls Tryd.prog 38 (#[.agg (encBk x).toArray] ++ #[.pointer (some ⟨B, 0, none⟩)]) W fun ev w' => ev = .returned (.bool (decide (x.a < b.fin ∧ b.a < x.fin))) ∧ Below W.heap.size W w' := by
  show Calls Tryd.prog 38 #[.agg #[.int .i64 x.a, .int .i64 x.o, .int .i64 x.t], .pointer (some ⟨B, 0, none⟩)] W _
  have hb0 := below_alloc W (.cells #[.int .i64 (x.a : Int), .int .i64 (x.o : Int), .int .i64 (x.t : Int)] 36)
  have K := box_new W #[.int .i64 (x.a : Int), .int .i64 (x.o : Int), .int .i64 (x.t : Int)] 36
  have hs : W.heap.size < (W.alloc (.cells #[.int .i64 (x.a : Int), .int .i64 (x.o : Int), .int .i64 (x.t : Int)] 36)).heap.size := by simp
  have hB2 : B < (W.alloc (.cells #[.int .i64 (x.a : Int), .int .i64 (x.o : Int), .int .i64 (x.t : Int)] 36)).heap.size := by omega
  have g0 := (hb0.cell (p := ⟨B, 0, none⟩) hB).trans h0
  have g1 := (hb0.cell (p := ⟨B, 1, none⟩) hB).trans h1
  have g2 := (hb0.cell (p := ⟨B, 2, none⟩) hB).trans h2
  have k0 := K 0
  have k1 := K 1
  have k2 := K 2
  simp only [List.getElem?_toArray, List.getElem?_cons_zero, List.getElem?_cons_succ] at k0 k1 k2
  have c1 : ((x.a : Int) < (b.fin : Int)) ↔ x.a < b.fin := by omega
  clear h0 h1 h2 K
  cases hd : decide (x.a < b.fin) with
  | true =>
    have hd' : decide ((x.a : Int) < (b.fin : Int)) = true := decide_eq_true (by have := of_decide_eq_true hd; omega)
    go_enter Tryd.func38, Tryd.ntmps38
    go_wp2_with fail
    generalize W.alloc (.cells #[.int .i64 (x.a : Int), .int .i64 (x.o : Int), .int .i64 (x.t : Int)] 36) = w0 at *
    refine wp_region_ext_lit (by kernel_rfl) (by kernel_rfl) ?_
    repeat (first | go_big_quiet_step ((go_at_call 31; first | with_reducible exact Calls.ext_of (end_bk b _ hb hba) | with_reducible exact Calls.ext_of (end_bk x _ hx hxa))) | quiet_step ((go_at_call 31; first | with_reducible exact Calls.ext_of (end_bk b _ hb hba) | with_reducible exact Calls.ext_of (end_bk x _ hx hxa))))
    refine wpQuiet_nil ?_
    rintro _ ⟨wx, rfl⟩
    have hbx := Below.step hb0 (ext_below w0 wx)
    go_wp2
    go_ret
    exact ⟨ret_bool (by rw [Bool.decide_and, hd, Bool.true_and]), hbx⟩
  | false =>
    have hd' : decide ((x.a : Int) < (b.fin : Int)) = false := decide_eq_false (by have := of_decide_eq_false hd; omega)
    go_enter Tryd.func38, Tryd.ntmps38
    go_wp2_with fail
    generalize W.alloc (.cells #[.int .i64 (x.a : Int), .int .i64 (x.o : Int), .int .i64 (x.t : Int)] 36) = w0 at *
    refine wp_region_ext_lit (by kernel_rfl) (by kernel_rfl) ?_
    repeat (first | go_big_quiet_step ((go_at_call 31; first | with_reducible exact Calls.ext_of (end_bk b _ hb hba) | with_reducible exact Calls.ext_of (end_bk x _ hx hxa))) | quiet_step ((go_at_call 31; first | with_reducible exact Calls.ext_of (end_bk b _ hb hba) | with_reducible exact Calls.ext_of (end_bk x _ hx hxa))))
    refine wpQuiet_nil ?_
    rintro _ ⟨wx, rfl⟩
    have hbx := Below.step hb0 (ext_below w0 wx)
    go_wp2
    go_ret
    exact ⟨ret_bool (by rw [Bool.decide_and, hd, Bool.false_and]), hbx⟩

theorem isOne (b : Bk) (o t B C : Nat) (W : World) (hB : B < W.heap.size) (hc : W.cell? ⟨B, 0, none⟩ = some (.int .i64 o)) (hC : C < W.heap.size) (hc2 : W.cell? ⟨C, 0, none⟩ = some (.int .i64 t)) :
    Calls Tryd.prog 40 (#[.agg (encBk b).toArray] ++ #[.pointer (some ⟨B, 0, none⟩), .pointer (some ⟨C, 0, none⟩)]) W fun ev w' => ev = .returned (.bool (decide (b.o = o ∧ b.t = t))) ∧ Below W.heap.size W w' := by
  have hne : B ≠ W.heap.size := by omega
  have hne2 : C ≠ W.heap.size := by omega
  show Calls Tryd.prog 40 #[.agg #[.int .i64 b.a, .int .i64 b.o, .int .i64 b.t], .pointer (some ⟨B, 0, none⟩), .pointer (some ⟨C, 0, none⟩)] W _
  by_cases c1 : b.o = o
  · by_cases c2 : b.t = t
    · subst c1 c2
      go_enter Tryd.func40, Tryd.ntmps40
      go_wp2
      go_ret
      exact ⟨ret_bool (by simp), below_alloc _ _⟩
    · have d2 : ((b.t : Int) == (t : Int)) = false := by rw [beq_eq_false_iff_ne]; omega
      subst c1
      go_enter Tryd.func40, Tryd.ntmps40
      go_wp2
      go_ret
      exact ⟨ret_bool (by symm; exact decide_eq_false (fun h => c2 h.2)), below_alloc _ _⟩
  · have d1 : ((b.o : Int) == (o : Int)) = false := by rw [beq_eq_false_iff_ne]; omega
    go_enter Tryd.func40, Tryd.ntmps40
    go_wp2
    go_ret
    exact ⟨ret_bool (by symm; exact decide_eq_false (fun h => c1 h.1)), below_alloc _ _⟩

theorem lowest_ok (a1 a2 : Option Addr) (n1 n2 c1 c2 : Nat) (f e : Nat) (z : Zn) (o t : Nat) (w : World) (hat : ZAt w a1 a2 n1 n2 z) (hl : n1 ≤ 1000) :
    Calls Tryd.prog 33 #[.agg #[.int .i64 f, .int .i64 e, .slice a1 n1 c1, .slice a2 n2 c2], .int .i64 o, .int .i64 t] w fun ev w' => ev = .returned (.int .i64 (findI (fun b => decide (b.o = o ∧ b.t = t)) z.l)) ∧ Below w.heap.size w w' := by
  obtain ⟨K3, K4, K5, F3, F4, F5, hsz, hbw⟩ := boxes3 w #[.int .i64 (f : Int), .int .i64 (e : Int), .slice a1 n1 c1, .slice a2 n2 c2] 26 #[.int .i64 (o : Int)] 3 #[.int .i64 (t : Int)] 3
  have hat0 := hat.below hbw
  have l1 := hat.l1
  have k4 := K4 0
  have k5 := K5 0
  simp only [List.getElem?_toArray, List.getElem?_cons_zero] at k4 k5
  clear hat K3 K4 K5 F3 F4 F5
  have eg : ∀ args w, (callFunc 40 args).run Tryd.prog w = .ok (.enter 40 args) w := enters_of Tryd.func40 (by kernel_rfl) rfl
  go_enter Tryd.func33, Tryd.ntmps33
  go_wp2_with fail
  generalize ((w.alloc (.cells #[.int .i64 (f : Int), .int .i64 (e : Int), .slice a1 n1 c1, .slice a2 n2 c2] 26)).alloc (.cells #[.int .i64 (o : Int)] 3)).alloc (.cells #[.int .i64 (t : Int)] 3) = w0 at *
  refine (indexFuncBk _ _ _ z.l _ _ (fun b => decide (b.o = o ∧ b.t = t)) _ l1 (by omega) hat0.r1 eg (fun W hW x hx => isOne x o t _ _ W (Nat.lt_of_lt_of_le (show w.heap.size + 1 < w0.heap.size by omega) hW.size) ((hW.cell (p := ⟨w.heap.size + 1, 0, none⟩) (by show w.heap.size + 1 < _; omega)).trans k4) (Nat.lt_of_lt_of_le (show w.heap.size + 1 + 1 < w0.heap.size by omega) hW.size) ((hW.cell (p := ⟨w.heap.size + 1 + 1, 0, none⟩) (by show w.heap.size + 1 + 1 < _; omega)).trans k5))).mono ?_
  rintro ev w1 ⟨rfl, hb1⟩
  go_wp2
  go_ret
  exact ⟨ret_int (by simp only [Bool.decide_and]), Below.step hbw hb1⟩
end Go.Proofs.YtbkajbjhffdlfaaDoor
