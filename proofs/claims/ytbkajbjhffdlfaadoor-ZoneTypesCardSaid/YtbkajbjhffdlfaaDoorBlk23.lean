/- Contract of slices.EqualFunc at Block, with the law's comparison of place and order. -/
import Derived.Test.YtbkajbjhffdlfaaDoorBlk8
import Derived.Test.YtbkajbjhffdlfaaDoorZn4
namespace Go.Proofs.YtbkajbjhffdlfaaDoor
open Go.RowKit
set_option linter.unusedVariables false

theorem sameBk (x y : Bk) (w : World) (h : keyB x = keyB y) :
    Calls Tryd.prog 24 #[.agg #[.int .i64 x.a, .int .i64 x.o, .int .i64 x.t], .agg #[.int .i64 y.a, .int .i64 y.o, .int .i64 y.t]] w fun ev w' => ev = .returned (.bool true) ∧ Below w.heap.size w w' := by
  unfold keyB at h
  simp only [Prod.mk.injEq] at h
  obtain ⟨h1, h2⟩ := h
  obtain ⟨xa, xo, xt⟩ := x
  obtain ⟨ya, yo, yt⟩ := y
  simp only at h1 h2
  subst h1 h2
  obtain ⟨K0, K1, F0, F1, hsz, hbw⟩ := boxes2 w #[.int .i64 (xa : Int), .int .i64 (xo : Int), .int .i64 (xt : Int)] 36 #[.int .i64 (xa : Int), .int .i64 (xo : Int), .int .i64 (yt : Int)] 36
  go_enter Tryd.func24, Tryd.ntmps24
  go_wp2
  go_ret
  exact ⟨rfl, hbw⟩

set_option maxHeartbeats 4000000 in
set_option maxRecDepth 100000 in
theorem equalF_bk (a a2 : Option Addr) (n1 n2 c1 c2 : Nat) (xs ys : List Bk) (w : World) (e1 : xs.length = n1) (e2 : ys.length = n2) (hl : n1 ≤ 1000) (hr : Row w a (flat encBk xs)) (hr2 : Row w a2 (flat encBk ys)) (hk : xs.map keyB = ys.map keyB) :
    Calls Tryd.prog 23 #[.slice a n1 c1, .slice a2 n2 c2, .func (.func 24) #[] #[]] w fun ev w' => ev = .returned (.bool true) ∧ Below w.heap.size w w' := by
  obtain rfl : n1 = n2 := by rw [← e1, ← e2]; simpa using congrArg List.length hk
  have eg : ∀ args w, (callFunc 24 args).run Tryd.prog w = .ok (.enter 24 args) w := enters_of Tryd.func24 (by kernel_rfl) rfl
  go_enter Tryd.func23, Tryd.ntmps23
  go_wp2
  go_loopw [7, 17] (fun _ s17 wr => ∃ k : Nat, k ≤ n1 ∧ s17 = .int .i64 (k : Int) ∧ Hid (Below w.heap.size w wr)) (fun _ s17 _ => n1 - (intOf s17).toNat)
  case atStart => exact ⟨0, Nat.zero_le _, rfl, Below.refl _ _⟩
  case round =>
    obtain ⟨k, hkn, rfl, hb⟩ := hrel
    by_cases hlt : k < n1
    · have hx : k < xs.length := by omega
      have hy : k < ys.length := by omega
      obtain ⟨b, off, rfl, hbb, hc⟩ := row_elem encBk_length (by decide) (hr.below hb.out) hx
      obtain ⟨hc0, hc1, hc2⟩ := encBk_cells hc
      obtain ⟨b2, off2, rfl, hbb2, hc'⟩ := row_elem encBk_length (by decide) (hr2.below hb.out) hy
      obtain ⟨hd0, hd1, hd2⟩ := encBk_cells hc'
      have hkey : keyB xs[k] = keyB ys[k] := by
        have h1 : (xs.map keyB)[k]? = some (keyB xs[k]) := by simp [hx]
        rw [hk] at h1
        have h2 : (ys.map keyB)[k]? = some (keyB ys[k]) := by simp [hy]
        rw [h2] at h1
        exact (Option.some.inj h1).symm
      have HK := Hid.mk hkey
      clear hr hr2 hc hc' hkey hk
      generalize xs[k] = x at *
      generalize ys[k] = y at *
      have hlti : (k : Int) < n1 := by omega
      have hba := below_alloc wr (.cells #[.int .i64 (x.a : Int), .int .i64 (x.o : Int), .int .i64 (x.t : Int)] 36)
      have hbb' := below_alloc (wr.alloc (.cells #[.int .i64 (x.a : Int), .int .i64 (x.o : Int), .int .i64 (x.t : Int)] 36)) (.cells #[.int .i64 (y.a : Int), .int .i64 (y.o : Int), .int .i64 (y.t : Int)] 36)
      have HB := Hid.mk (Below.step hb.out (Below.step hba hbb'))
      clear hba hbb'
      go_wp2_with (go_at_fn 24; refine (sameBk x y _ HK.out).mono ?_; rintro e w' ⟨rfl, hb'⟩)
      go_roundw
      case rel => exact ⟨k + 1, by omega, by go_num, Below.step HB.out hb'⟩
      case measure => simp [intOf]; omega
    · obtain rfl : k = n1 := by omega
      go_wp2
      go_ret
      exact ⟨rfl, hb.out⟩
end Go.Proofs.YtbkajbjhffdlfaaDoor
