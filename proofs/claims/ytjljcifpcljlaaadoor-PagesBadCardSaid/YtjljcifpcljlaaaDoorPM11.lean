/- Blk15: texts of this claim, joined. -/
import Derived.Test.YtjljcifpcljlaaaDoorPM2
/- Contract of package buddy: TypeAt. -/
namespace Go.Proofs.YtjljcifpcljlaaaDoor
open Go.RowKit
set_option linter.unusedVariables false

theorem typeAt_ok (a1 a2 : Option Addr) (n1 n2 c1 c2 : Nat) (z : Zn) (p : Nat) (w : World) (hat : ZAt w a1 a2 n1 n2 z) (hz : z.ok) (h1 : z.f ≤ p) (h2 : p < z.e) :
    Calls Tryd.prog 48 #[.agg #[.int .i64 z.f, .int .i64 z.e, .slice a1 n1 c1, .slice a2 n2 c2], .int .i64 p] w fun ev w' => ev = .returned (.tuple #[.int .i64 (z.y.getD ((p - z.f) / 8) 0 : Nat), .int .i64 0]) ∧ Below w.heap.size w w' := by
  have hee := hz.1.e2
  obtain ⟨K1, F1, hsz, hbw⟩ := boxes1 w #[.int .i64 (z.f : Int), .int .i64 (z.e : Int), .slice a1 n1 c1, .slice a2 n2 c2] 55
  have hat0 := hat.below hbw
  have l2 := hat.l2
  have hj : (p - z.f) / 8 < z.y.length := by rw [hz.1.len]; have := hz.1.f16; have := hz.1.e16; omega
  have hgetD : z.y.getD ((p - z.f) / 8) 0 = z.y[(p - z.f) / 8] := by rw [List.getD_eq_getElem?_getD, List.getElem?_eq_getElem hj]; rfl
  rw [hgetD]
  obtain ⟨ty, hty⟩ : ∃ ty, z.y[(p - z.f) / 8] = ty := ⟨_, rfl⟩
  rw [hty]
  have HTY := Hid.mk hty
  clear hat hgetD hty
  have d1 : decide (p < z.f) = false := decide_eq_false (by omega)
  have d2 : (p : Int) < z.e := by omega
  have d3 : (z.f : Int) ≤ p := by omega
  have hjx : ((p : Int) - z.f) / 8 = (((p - z.f) / 8 : Nat) : Int) := by omega
  have hjn : ((((p - z.f) / 8 : Nat) : Int)) < n2 := by omega
  go_enter Tryd.func48, Tryd.ntmps48
  go_wp2_with fail
  generalize w.alloc (.cells #[.int .i64 (z.f : Int), .int .i64 (z.e : Int), .slice a1 n1 c1, .slice a2 n2 c2] 55) = w0 at *
  refine (check_ok _ _ _ _ _ _ z _ hat0 hz).mono ?_
  rintro ev w1 ⟨rfl, hb1⟩
  have K1b := box_step K1 hsz hb1
  have hat1 := hat0.below hb1
  obtain ⟨tb, toff, ht1, htb, htc⟩ := row_elem encT_length (by decide) hat1.r2 hj
  obtain rfl := ht1
  have htc0 := encT_cells htc
  rw [Nat.mul_one] at htc0
  have hbw1 := Below.step hbw hb1
  clear htc hat1 hat0 K1 F1 hb1 hbw
  rw [HTY.out] at htc0
  clear HTY
  generalize (p - z.f) / 8 = J at *
  go_wp2
  go_ret2
  exact ⟨rfl, hbw1⟩
end Go.Proofs.YtjljcifpcljlaaaDoor
