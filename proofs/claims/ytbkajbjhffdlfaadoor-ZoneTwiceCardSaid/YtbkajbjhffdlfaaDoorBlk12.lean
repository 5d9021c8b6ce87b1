/- Contract of package buddy: Back at a page beside the zone. -/
import Derived.Test.YtbkajbjhffdlfaaDoorBlk10
namespace Go.Proofs.YtbkajbjhffdlfaaDoor
open Go.RowKit
set_option linter.unusedVariables false

set_option maxHeartbeats 2000000 in
set_option maxRecDepth 100000 in
theorem back_range (a1 a2 : Option Addr) (n1 n2 c1 c2 : Nat) (z : Zn) (p : Nat) (w : World) (hat : ZAt w a1 a2 n1 n2 z) (hz : z.ok) (hp : p < z.f ∨ z.e ≤ p) (hp2 : p ≤ 1000) :
    Calls Tryd.prog 20 #[.agg #[.int .i64 z.f, .int .i64 z.e, .slice a1 n1 c1, .slice a2 n2 c2], .int .i64 p, .int .i64 0] w fun ev w' => ev = .returned (.tuple #[.agg #[.int .i64 0, .int .i64 0, .slice none 0 0, .slice none 0 0], .int .i64 1]) ∧ Below w.heap.size w w' := by
  have hee := hz.1.e2
  have hff : z.f ≤ 256 := Nat.le_trans hz.1.fe hee
  obtain ⟨K3, K6, F3, F6, hsz, hbw⟩ := boxes2 w #[.int .i64 (z.f : Int), .int .i64 (z.e : Int), .slice a1 n1 c1, .slice a2 n2 c2] 26 #[.int .i64 0, .int .i64 0, .slice none 0 0, .slice none 0 0] 26
  have hat0 := hat.below hbw
  clear hat
  go_enter Tryd.func20, Tryd.ntmps20
  go_wp2_with fail
  generalize (w.alloc (.cells #[.int .i64 (z.f : Int), .int .i64 (z.e : Int), .slice a1 n1 c1, .slice a2 n2 c2] 26)).alloc (.cells #[.int .i64 0, .int .i64 0, .slice none 0 0, .slice none 0 0] 26) = w0 at *
  refine (check_ok _ _ _ _ _ _ z _ hat0 hz).mono ?_
  rintro ev w1 ⟨rfl, hb1⟩
  have hb2 := below_alloc w1 (.cells #[.int .i64 (p : Int), .int .i64 0, .int .i64 0] 36)
  have hb12 := Below.step hb1 hb2
  have K3b := box_step K3 (by omega) hb12
  have K6b := box_step K6 (by omega) hb12
  have F6b := frz_step F6 (by omega) hb12
  have K9b := box_new w1 #[.int .i64 (p : Int), .int .i64 0, .int .i64 0] 36
  have hbw2 := Below.step hbw hb12
  have hs2 := hb12.size
  clear K3 K6 F3 F6 hb1 hb2 hb12 hat0 hbw
  go_wp2_with fail
  generalize w1.alloc (.cells #[.int .i64 (p : Int), .int .i64 0, .int .i64 0] 36) = w2 at *
  refine (fits_no z.f z.e p _ _ _ _ _ _ _ hp hee hff hp2).mono ?_
  rintro ev w3 ⟨rfl, hb3⟩
  have K6c := box_step K6b (by omega) hb3
  have F6c := frz_step F6b (by omega) hb3
  have hbw3 := Below.step hbw2 hb3
  clear K3b K6b F6b K9b hb3 hbw2
  go_wp2
  refine bodyPost_ret (v := .tuple #[.agg #[.int .i64 0, .int .i64 0, .slice none 0 0, .slice none 0 0], .int .i64 1]) (by simp [results, Tryd.results20, go_sem, K6c]) rfl ⟨rfl, ?_⟩
  exact Below.setCell (Below.setCell (Below.setCell (Below.setCell hbw3 (by simp only; omega) _) (by simp only; omega) _) (by simp only; omega) _) (by simp only; omega) _
end Go.Proofs.YtbkajbjhffdlfaaDoor
