/- Contract of package buddy: Back of what is free. -/
import Derived.Test.YtbkajbjhffdlfaaDoorBlk10
namespace Go.Proofs.YtbkajbjhffdlfaaDoor
open Go.RowKit
set_option linter.unusedVariables false

set_option maxHeartbeats 2000000 in
set_option maxRecDepth 100000 in
theorem back_twice (a1 a2 : Option Addr) (n1 n2 c1 c2 : Nat) (z : Zn) (a o : Nat) (w : World) (hat : ZAt w a1 a2 n1 n2 z) (hz : z.ok) (hfit : fitsB z.f z.e a o) (hd : ∃ x ∈ z.l, ¬ apartB a o x) :
    Calls Tryd.prog 20 #[.agg #[.int .i64 z.f, .int .i64 z.e, .slice a1 n1 c1, .slice a2 n2 c2], .int .i64 a, .int .i64 o] w fun ev w' => ev = .returned (.tuple #[.agg #[.int .i64 0, .int .i64 0, .slice none 0 0, .slice none 0 0], .int .i64 5]) ∧ Below w.heap.size w w' := by
  have hlen : z.l.length ≤ 256 := Nat.le_trans (OkL.length_le hz.2 (fun b hb => (hz.2.fit b hb).1.2.2.1)) hz.1.e2
  have hee := hz.1.e2
  have hae : a ≤ 256 := by have := hfit.2.2.1; omega
  have l1 := hat.l1
  obtain ⟨K3, K6, F3, F6, hsz, hbw⟩ := boxes2 w #[.int .i64 (z.f : Int), .int .i64 (z.e : Int), .slice a1 n1 c1, .slice a2 n2 c2] 26 #[.int .i64 0, .int .i64 0, .slice none 0 0, .slice none 0 0] 26
  have hat0 := hat.below hbw
  have hmeet : (z.l.any fun x => decide (x.a < (⟨a, o, 0⟩ : Bk).fin ∧ (⟨a, o, 0⟩ : Bk).a < x.fin)) = true := by
    obtain ⟨x, hx, h⟩ := hd
    rw [List.any_eq_true]
    refine ⟨x, hx, decide_eq_true ?_⟩
    unfold apartB at h
    unfold Bk.fin at *
    simp only
    omega
  have eg : ∀ args w, (callFunc 38 args).run Tryd.prog w = .ok (.enter 38 args) w := enters_of Tryd.func38 (by kernel_rfl) rfl
  clear hat
  go_enter Tryd.func20, Tryd.ntmps20
  go_wp2_with fail
  generalize (w.alloc (.cells #[.int .i64 (z.f : Int), .int .i64 (z.e : Int), .slice a1 n1 c1, .slice a2 n2 c2] 26)).alloc (.cells #[.int .i64 0, .int .i64 0, .slice none 0 0, .slice none 0 0] 26) = w0 at *
  refine (check_ok _ _ _ _ _ _ z _ hat0 hz).mono ?_
  rintro ev w1 ⟨rfl, hb1⟩
  have hb2 := below_alloc w1 (.cells #[.int .i64 (a : Int), .int .i64 (o : Int), .int .i64 0] 36)
  have hb12 := Below.step hb1 hb2
  have K3b := box_step K3 (by omega) hb12
  have K6b := box_step K6 (by omega) hb12
  have F6b := frz_step F6 (by omega) hb12
  have K9b := box_new w1 #[.int .i64 (a : Int), .int .i64 (o : Int), .int .i64 0] 36
  have hat2 := hat0.below hb12
  have hbw2 := Below.step hbw hb12
  have hB : w.heap.size + 2 ≤ w1.heap.size := by have := hb1.size; omega
  have hs2 : w1.heap.size < (w1.alloc (.cells #[.int .i64 (a : Int), .int .i64 (o : Int), .int .i64 0] 36)).heap.size := by simp
  clear K3 K6 F3 F6 hb1 hb2 hb12 hat0 hbw hsz
  go_wp2_with fail
  generalize w1.alloc (.cells #[.int .i64 (a : Int), .int .i64 (o : Int), .int .i64 0] 36) = w2 at *
  generalize w1.heap.size = B at *
  refine (fits_yes z.f z.e _ _ _ _ _ _ ⟨a, o, 0⟩ _ hfit hee).mono ?_
  rintro ev w3 ⟨rfl, hb3⟩
  have K3c := box_step K3b (by omega) hb3
  have K6c := box_step K6b (by omega) hb3
  have F6c := frz_step F6b (by omega) hb3
  have K9c := box_step K9b hs2 hb3
  have hat3 := hat2.below hb3
  have hbw3 := Below.step hbw2 hb3
  have hs3 : B < w3.heap.size := Nat.lt_of_lt_of_le hs2 hb3.size
  clear K3b K6b F6b K9b hat2 hbw2 hb3 hs2
  go_wp2_with fail
  refine (containsFuncBk _ _ _ z.l _ _ (fun x => decide (x.a < (⟨a, o, 0⟩ : Bk).fin ∧ (⟨a, o, 0⟩ : Bk).a < x.fin)) _ l1 (by omega) hat3.r1 eg (fun W hW x hx => meets_bk x ⟨a, o, 0⟩ B W (hz.2.fit x hx).1.1 (by have := (hz.2.fit x hx).1.2.2.1; omega) hfit.1 (by show a ≤ 1000; omega) (Nat.lt_of_lt_of_le hs3 hW.size) ((hW.cell (p := ⟨B, 0, none⟩) hs3).trans (K9c 0)) ((hW.cell (p := ⟨B, 1, none⟩) hs3).trans (K9c 1)) ((hW.cell (p := ⟨B, 2, none⟩) hs3).trans (K9c 2)))).mono ?_
  rw [hmeet]
  rintro ev w4 ⟨rfl, hb4⟩
  have K6d := box_step K6c (by omega) hb4
  have F6d := frz_step F6c (by omega) hb4
  have hbw4 := Below.step hbw3 hb4
  clear K3c K6c F6c K9c hat3 hbw3 hb4 eg hmeet
  go_wp2
  refine bodyPost_ret (v := .tuple #[.agg #[.int .i64 0, .int .i64 0, .slice none 0 0, .slice none 0 0], .int .i64 5]) (by simp [results, Tryd.results20, go_sem, K6d]) rfl ⟨rfl, ?_⟩
  exact Below.setCell (Below.setCell (Below.setCell (Below.setCell hbw4 (by simp only; omega) _) (by simp only; omega) _) (by simp only; omega) _) (by simp only; omega) _
end Go.Proofs.YtbkajbjhffdlfaaDoor
