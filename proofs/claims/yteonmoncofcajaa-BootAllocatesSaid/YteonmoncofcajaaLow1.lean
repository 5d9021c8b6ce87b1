/- Contracts of picked and slab.Layout (plain number functions). -/
import Derived.Test.YteonmoncofcajaaBase
namespace Go.Proofs.Yteonmoncofcajaa
open Go.RowKit

/-- what 'picked' computes -/
def pk (n many : Int) : Int := (if n < 0 then -(n + 1) else n) % many

theorem pk_nonneg (n many : Int) (h : 1 ≤ many) : 0 ≤ pk n many := Int.emod_nonneg _ (by omega)
theorem pk_lt (n many : Int) (h : 1 ≤ many) : pk n many < many := Int.emod_lt_of_pos _ (by omega)

theorem picked_any (n many : Int) (w : World) (hn1 : -9223372036854775808 ≤ n) (hn2 : n ≤ 9223372036854775807) (h1 : 1 ≤ many) (h2 : many ≤ 1000000) :
    Calls Try.prog 11 #[.int .i64 n, .int .i64 many] w fun e w' => e = .returned (.int .i64 (pk n many)) ∧ w = w' := by
  by_cases hneg : n < 0
  · go_enter Try.func11, Try.ntmps11
    go_wp2
    go_ret
    refine ⟨ret_int ?_, rfl⟩
    show -(n + 1).tmod many = _
    rw [pk, if_pos hneg, ← Int.neg_tmod, Int.tmod_eq_emod_of_nonneg (by omega)]
  · go_enter Try.func11, Try.ntmps11
    go_wp2
    go_ret
    refine ⟨ret_int ?_, rfl⟩
    show n % many = _
    rw [pk, if_neg (by omega)]

/-- Layout's loop of three rounds, one by one -/
theorem layout_bad (k : Int) (w : World) (h1 : 65 ≤ k) (h2 : k ≤ 1000000) :
    Calls Try.prog 12 #[.int .i64 k] w fun e w' => e = .returned (.tuple #[.int .i64 0, .int .i64 0, .int .i64 1]) ∧ w = w' := by
  go_enter Try.func12, Try.ntmps12
  go_wp2
  go_ret3
  exact ⟨rfl, rfl⟩


theorem layout_0 (k : Int) (w : World) (h1 : 1 ≤ k) (h2 : k ≤ 64) (h3 : 4 ≤ 16 / k) :
    Calls Try.prog 12 #[.int .i64 k] w fun e w' => e = .returned (.tuple #[.int .i64 0, .int .i64 (16 / k), .int .i64 0]) ∧ w = w' := by
  go_enter Try.func12, Try.ntmps12
  go_wp2
  refine wp_loop_rounds 1 ?_; rw [rounds_succ]
  go_wp2
  go_ret3
  exact ⟨rfl, rfl⟩

theorem layout_1 (k : Int) (w : World) (h1 : 1 ≤ k) (h2 : k ≤ 64) (h3 : 16 / k < 4) (h4 : 4 ≤ 32 / k) :
    Calls Try.prog 12 #[.int .i64 k] w fun e w' => e = .returned (.tuple #[.int .i64 1, .int .i64 (32 / k), .int .i64 0]) ∧ w = w' := by
  go_enter Try.func12, Try.ntmps12
  go_wp2
  refine wp_loop_rounds 2 ?_; rw [rounds_succ]
  go_wp2
  rw [rounds_succ]
  go_wp2
  go_ret3
  exact ⟨rfl, rfl⟩

theorem layout_2 (k : Int) (w : World) (h1 : 1 ≤ k) (h2 : k ≤ 64) (h3 : 16 / k < 4) (h4 : 32 / k < 4) :
    Calls Try.prog 12 #[.int .i64 k] w fun e w' => e = .returned (.tuple #[.int .i64 2, .int .i64 (64 / k), .int .i64 0]) ∧ w = w' := by
  go_enter Try.func12, Try.ntmps12
  go_wp2
  refine wp_loop_rounds 3 ?_; rw [rounds_succ]
  go_wp2
  rw [rounds_succ]
  go_wp2
  rw [rounds_succ]
  go_wp2
  all_goals (go_ret3; exact ⟨rfl, rfl⟩)
end Go.Proofs.Yteonmoncofcajaa
