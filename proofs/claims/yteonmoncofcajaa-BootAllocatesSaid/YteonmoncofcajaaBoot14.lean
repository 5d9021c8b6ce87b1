/- The predicates of the laws on package boot. -/
import Derived.Test.YteonmoncofcajaaBoot11
namespace Go.Proofs.Yteonmoncofcajaa
open Go.RowKit
set_option linter.unusedVariables false

theorem has_any (r : Rg) (p : Int) (B : Nat) (W : World) (hs : r.small) (hB : B < W.heap.size) (hc : W.cell? ⟨B, 0, none⟩ = some (.int .i64 p)) :
    Calls Try.prog 24 (#[.agg (encRg r).toArray] ++ #[.pointer (some ⟨B, 0, none⟩)]) W fun e w' => e = .returned (.bool (decide (r.f ≤ p ∧ p < r.f + r.s))) ∧ Below W.heap.size W w' := by
  obtain ⟨f, s⟩ := r
  obtain ⟨h1, h2, h3, h4⟩ := hs
  simp only at h1 h2 h3 h4
  have hne : B ≠ W.heap.size := by omega
  show Calls Try.prog 24 #[.agg #[.int .i64 f, .int .i64 s], .pointer (some ⟨B, 0, none⟩)] W _
  by_cases c1 : f ≤ p
  · by_cases c2 : p < f + s
    · go_enter Try.func24, Try.ntmps24
      go_wp2
      go_ret
      exact ⟨ret_bool (decide_eq_true ⟨c1, c2⟩).symm, below_alloc _ _⟩
    · go_enter Try.func24, Try.ntmps24
      go_wp2
      go_ret
      exact ⟨ret_bool (decide_eq_false (by omega)).symm, below_alloc _ _⟩
  · go_enter Try.func24, Try.ntmps24
    go_wp2
    go_ret
    exact ⟨ret_bool (by rw [show decide (f ≤ p) = false from decide_eq_false (by omega)]; rfl), below_alloc _ _⟩

theorem inside_any (r : Rg) (p n : Int) (B C : Nat) (W : World) (hs : r.small) (hp1 : -1 ≤ p) (hp2 : p ≤ 1000) (hn1 : 0 ≤ n) (hn2 : n ≤ 1000) (hB : B < W.heap.size) (hc : W.cell? ⟨B, 0, none⟩ = some (.int .i64 p)) (hC : C < W.heap.size) (hc2 : W.cell? ⟨C, 0, none⟩ = some (.int .i64 n)) :
    Calls Try.prog 29 (#[.agg (encRg r).toArray] ++ #[.pointer (some ⟨B, 0, none⟩), .pointer (some ⟨C, 0, none⟩)]) W fun e w' => e = .returned (.bool (decide (r.f ≤ p ∧ p + n ≤ r.f + r.s))) ∧ Below W.heap.size W w' := by
  obtain ⟨f, s⟩ := r
  obtain ⟨h1, h2, h3, h4⟩ := hs
  simp only at h1 h2 h3 h4
  have hne : B ≠ W.heap.size := by omega
  have hne2 : C ≠ W.heap.size := by omega
  show Calls Try.prog 29 #[.agg #[.int .i64 f, .int .i64 s], .pointer (some ⟨B, 0, none⟩), .pointer (some ⟨C, 0, none⟩)] W _
  by_cases c1 : f ≤ p
  · by_cases c2 : p + n ≤ f + s
    · go_enter Try.func29, Try.ntmps29
      go_wp2
      go_ret
      exact ⟨ret_bool (decide_eq_true ⟨c1, c2⟩).symm, below_alloc _ _⟩
    · go_enter Try.func29, Try.ntmps29
      go_wp2
      go_ret
      exact ⟨ret_bool (decide_eq_false (by omega)).symm, below_alloc _ _⟩
  · go_enter Try.func29, Try.ntmps29
    go_wp2
    go_ret
    exact ⟨ret_bool (by rw [show decide (f ≤ p) = false from decide_eq_false (by omega)]; rfl), below_alloc _ _⟩

theorem meets_any (r : Rg) (p n : Int) (B C : Nat) (W : World) (hs : r.small) (hp1 : -1 ≤ p) (hp2 : p ≤ 1000) (hn1 : 0 ≤ n) (hn2 : n ≤ 1000) (hB : B < W.heap.size) (hc : W.cell? ⟨B, 0, none⟩ = some (.int .i64 p)) (hC : C < W.heap.size) (hc2 : W.cell? ⟨C, 0, none⟩ = some (.int .i64 n)) :
    Calls Try.prog 30 (#[.agg (encRg r).toArray] ++ #[.pointer (some ⟨B, 0, none⟩), .pointer (some ⟨C, 0, none⟩)]) W fun e w' => e = .returned (.bool (decide (r.f < p + n ∧ p < r.f + r.s))) ∧ Below W.heap.size W w' := by
  obtain ⟨f, s⟩ := r
  obtain ⟨h1, h2, h3, h4⟩ := hs
  simp only at h1 h2 h3 h4
  have hne : B ≠ W.heap.size := by omega
  have hne2 : C ≠ W.heap.size := by omega
  show Calls Try.prog 30 #[.agg #[.int .i64 f, .int .i64 s], .pointer (some ⟨B, 0, none⟩), .pointer (some ⟨C, 0, none⟩)] W _
  by_cases c1 : f < p + n
  · by_cases c2 : p < f + s
    · go_enter Try.func30, Try.ntmps30
      go_wp2
      go_ret
      exact ⟨ret_bool (decide_eq_true ⟨c1, c2⟩).symm, below_alloc _ _⟩
    · go_enter Try.func30, Try.ntmps30
      go_wp2
      go_ret
      exact ⟨ret_bool (decide_eq_false (by omega)).symm, below_alloc _ _⟩
  · go_enter Try.func30, Try.ntmps30
    go_wp2
    go_ret
    exact ⟨ret_bool (by rw [show decide (f < p + n) = false from decide_eq_false (by omega)]; rfl), below_alloc _ _⟩

theorem room_any (r : Rg) (k n : Int) (B C : Nat) (W : World) (hr : ckRg r = true) (hk1 : 1 ≤ k) (hk2 : k ≤ 256) (hn1 : 0 ≤ n) (hn2 : n ≤ 1000) (hq0 : 0 ≤ (r.f + k - 1) / k * k) (hq1 : (r.f + k - 1) / k * k ≤ 1000) (hB : B < W.heap.size) (hc : W.cell? ⟨B, 0, none⟩ = some (.int .i64 k)) (hC : C < W.heap.size) (hc2 : W.cell? ⟨C, 0, none⟩ = some (.int .i64 n)) :
    Calls Try.prog 27 (#[.agg (encRg r).toArray] ++ #[.pointer (some ⟨B, 0, none⟩), .pointer (some ⟨C, 0, none⟩)]) W fun e w' => e = .returned (.bool (decide ((r.f + k - 1) / k * k + n ≤ r.f + r.s))) ∧ Below W.heap.size W w' := by
  obtain ⟨g1, g2, g3, g4⟩ := ck_parts hr
  obtain ⟨f, s⟩ := r
  simp only at g1 g2 g3 g4 hq0 hq1
  have hne : B ≠ W.heap.size := by omega
  have hne2 : C ≠ W.heap.size := by omega
  show Calls Try.prog 27 #[.agg #[.int .i64 f, .int .i64 s], .pointer (some ⟨B, 0, none⟩), .pointer (some ⟨C, 0, none⟩)] W _
  go_enter Try.func27, Try.ntmps27
  go_wp2_with fail
  go_quiet (fail)
  go_wp2
  go_ret
  exact ⟨rfl, Below.step (below_alloc _ _) (below_drewN (Below.refl _ _) _)⟩
end Go.Proofs.Yteonmoncofcajaa
