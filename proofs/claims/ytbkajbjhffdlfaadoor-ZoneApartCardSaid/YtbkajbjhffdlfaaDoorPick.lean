/- Contract of picked. -/
import Derived.Test.YtbkajbjhffdlfaaDoorBase
namespace Go.Proofs.YtbkajbjhffdlfaaDoor
open Go.RowKit

/-- what 'picked' computes -/
def pk (n many : Int) : Int := (if n < 0 then -(n + 1) else n) % many

theorem pk_nonneg (n many : Int) (h : 1 ≤ many) : 0 ≤ pk n many := Int.emod_nonneg _ (by omega)
theorem pk_lt (n many : Int) (h : 1 ≤ many) : pk n many < many := Int.emod_lt_of_pos _ (by omega)

theorem picked_any (n many : Int) (w : World) (hn1 : -9223372036854775808 ≤ n) (hn2 : n ≤ 9223372036854775807) (h1 : 1 ≤ many) (h2 : many ≤ 1000000) :
    Calls Tryd.prog 13 #[.int .i64 n, .int .i64 many] w fun e w' => e = .returned (.int .i64 (pk n many)) ∧ w = w' := by
  by_cases hneg : n < 0
  · go_enter Tryd.func13, Tryd.ntmps13
    go_wp2
    go_ret
    refine ⟨ret_int ?_, rfl⟩
    show -(n + 1).tmod many = _
    rw [pk, if_pos hneg, ← Int.neg_tmod, Int.tmod_eq_emod_of_nonneg (by omega)]
  · go_enter Tryd.func13, Tryd.ntmps13
    go_wp2
    go_ret
    refine ⟨ret_int ?_, rfl⟩
    show n % many = _
    rw [pk, if_neg (by omega)]

end Go.Proofs.YtbkajbjhffdlfaaDoor
