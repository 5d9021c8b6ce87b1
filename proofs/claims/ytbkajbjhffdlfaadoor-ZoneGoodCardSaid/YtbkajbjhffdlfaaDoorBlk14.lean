/- Contract of package buddy: Check of a zone that may not be. -/
import Derived.Test.YtbkajbjhffdlfaaDoorBlk7
namespace Go.Proofs.YtbkajbjhffdlfaaDoor
open Go.RowKit
set_option linter.unusedVariables false

theorem new_bad (w : World) :
    Calls Tryd.prog 25 #[.int .i64 1, .int .i64 0] w fun ev w' => ev = .returned (.tuple #[.agg #[.int .i64 0, .int .i64 0, .slice none 0 0, .slice none 0 0], .int .i64 1]) ∧ Below w.heap.size w w' := by
  obtain ⟨K4, F4, hsz, hbw⟩ := boxes1 w #[.int .i64 0, .int .i64 0, .slice none 0 0, .slice none 0 0] 26
  go_enter Tryd.func25, Tryd.ntmps25
  go_wp2
  refine bodyPost_ret (v := .tuple #[.agg #[.int .i64 0, .int .i64 0, .slice none 0 0, .slice none 0 0], .int .i64 1]) (by simp [results, Tryd.results25, go_sem]) rfl ⟨rfl, ?_⟩
  first | exact hbw | exact Below.setCell (Below.setCell (Below.setCell (Below.setCell hbw (by simp only; omega) _) (by simp only; omega) _) (by simp only; omega) _) (by simp only; omega) _

/-- the zone of the number 1 alone may not be -/
theorem check_bad (w : World) :
    Calls Tryd.prog 10 #[.agg #[.int .i64 1, .int .i64 0, .slice none 0 0, .slice none 0 0]] w fun ev w' => ev = .returned (.int .i64 8) ∧ Below w.heap.size w w' := by
  obtain ⟨K1, F1, hsz, hbw⟩ := boxes1 w #[.int .i64 1, .int .i64 0, .slice none 0 0, .slice none 0 0] 26
  go_enter Tryd.func10, Tryd.ntmps10
  go_wp2_with fail
  generalize w.alloc (.cells #[.int .i64 1, .int .i64 0, .slice none 0 0, .slice none 0 0] 26) = w0 at *
  refine (new_bad _).mono ?_
  rintro ev w1 ⟨rfl, hb1⟩
  have hb2 := below_alloc w1 (.cells #[.int .i64 0, .int .i64 0, .slice none 0 0, .slice none 0 0] 26)
  go_wp2
  go_ret
  exact ⟨rfl, Below.step hbw (Below.step hb1 hb2)⟩
end Go.Proofs.YtbkajbjhffdlfaaDoor
