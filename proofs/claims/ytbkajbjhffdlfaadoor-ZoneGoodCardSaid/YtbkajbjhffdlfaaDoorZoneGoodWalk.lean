/- The walk of paddockkeep.ZoneGood. -/
import Derived.Test.YtbkajbjhffdlfaaDoorBlk21
import Derived.Test.YtbkajbjhffdlfaaDoorBlk14
namespace Go.Proofs.YtbkajbjhffdlfaaDoor
open Go.RowKit
set_option linter.unusedVariables false

set_option maxHeartbeats 4000000 in
set_option maxRecDepth 100000 in
theorem zoneGood_walk (a : Option Addr) (n c : Nat) (l : List Rw) (hl : l.length = n) {w : World} (hr : Row w a (flat encRw l)) (hnc : n ≤ c) (hcm : c ≤ maxLen) (hwf : ∀ r ∈ l, r.wf) (hoth : Oth w) :
    Calls Tryd.prog 3 #[.slice a n c] w fun ev w' => ev = .returned (.bool true) ∧ Below w.heap.size w w' := by
  go_enter Tryd.func3, Tryd.ntmps3
  go_wp2_with fail
  refine (zoned_ok a n c l 60 _ hl hnc hcm hr hwf (by omega) hoth).mono ?_
  rintro ev w1 ⟨z, away, hd⟩
  obtain ⟨a1, a2, n1, n2, c1, c2, aw, na, ca, rfl, hown, hoa⟩ := hd.ex
  have hzok := hd.inv.ok
  have hlen : z.l.length ≤ 256 := Nat.le_trans (OkL.length_le hzok.2 (fun b hb => (hzok.2.fit b hb).1.2.2.1)) hzok.1.e2
  have hy32 : z.y.length ≤ 32 := by rw [hzok.1.len]; have := hzok.1.e2; omega
  have l1 := hown.l1
  have l2 := hown.l2
  have hbw := hd.bw
  have hat := hown.at
  clear hd hown hoa
  have hb2 := below_alloc w1 (.cells #[.int .i64 (z.f : Int), .int .i64 (z.e : Int), .slice a1 n1 c1, .slice a2 n2 c2] 26)
  have K3 := box_new w1 #[.int .i64 (z.f : Int), .int .i64 (z.e : Int), .slice a1 n1 c1, .slice a2 n2 c2] 26
  have hs : w1.heap.size < (w1.alloc (.cells #[.int .i64 (z.f : Int), .int .i64 (z.e : Int), .slice a1 n1 c1, .slice a2 n2 c2] 26)).heap.size := by simp
  have hat2 := hat.below hb2
  have hbw2 := Below.step hbw hb2
  dsimp only
  go_wp2_with fail
  generalize w1.alloc (.cells #[.int .i64 (z.f : Int), .int .i64 (z.e : Int), .slice a1 n1 c1, .slice a2 n2 c2] 26) = w2 at *
  generalize w1.heap.size = B at *
  refine (check_ok _ _ _ _ _ _ z _ hat2 hzok).mono ?_
  rintro ev w3 ⟨rfl, hb3⟩
  have K3b := box_step K3 hs hb3
  have hs3 := Nat.lt_of_lt_of_le hs hb3.size
  have hat3 := hat2.below hb3
  have hbw3 := Below.step hbw2 hb3
  clear hat2 hbw2 hb3 K3 hb2 hat hbw hs
  dsimp only
  go_wp2_with fail
  refine (copy_ok _ _ _ _ _ _ z.f z.e z _ hat3 (by omega) (by omega)).mono ?_
  rintro ev w4 ⟨b1, b2, d1, d2, rfl, hown4, hb4⟩
  have hbw4 := Below.step hbw3 hb4
  have hat4 := hown4.at
  clear hat3 hbw3 hb4 K3b hown4 hs3
  dsimp only
  go_wp2_with fail
  refine (check_ok _ _ _ _ _ _ z _ hat4 hzok).mono ?_
  rintro ev w5 ⟨rfl, hb5⟩
  have hbw5 := Below.step hbw4 hb5
  clear hat4 hbw4 hb5
  dsimp only
  go_wp2_with fail
  refine (check_bad _).mono ?_
  rintro ev w6 ⟨rfl, hb6⟩
  have hbw6 := Below.step hbw5 hb6
  dsimp only
  go_wp2
  go_ret
  exact ⟨rfl, hbw6⟩
end Go.Proofs.YtbkajbjhffdlfaaDoor
