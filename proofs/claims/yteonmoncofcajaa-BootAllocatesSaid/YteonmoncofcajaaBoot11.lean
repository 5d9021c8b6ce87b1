/- Contracts: slices.Equal at Region; region of raw numbers. -/
import Derived.Test.YteonmoncofcajaaBoot10
import Derived.Laws.StructEq
import Derived.Shelf.RegionOpenPlain
namespace Go.Proofs.Yteonmoncofcajaa
open Go.RowKit
set_option linter.unusedVariables false

theorem neqRg (x y : Rg) (w : World) : (binOp .neq 51 (.agg (encRg x).toArray) (.agg (encRg y).toArray)).run Try.prog w = .ok (.bool (!decide (x = y))) w := by
  have u3 := Try.underlying3
  have hS : Try.prog.underlying 51 = some (.struct (Try.prog.fieldsOf 51)) := by kernel_rfl
  have hp : Try.prog.stoodInHeld 51 = false := by kernel_rfl
  simp only [encRg]
  rw [run_neq_struct, show (10000 : Nat) = 9999 + 1 from rfl, run_equalIn_agg w 9999 51 _ _ hS hp]
  simp only [Program.fieldsOf, Try.underlying51]
  simp only [vI]
  go_simp
  obtain ⟨a, b⟩ := x
  obtain ⟨c, d⟩ := y
  simp only [Rg.mk.injEq]
  by_cases h1 : a = c <;> by_cases h2 : b = d <;> simp [h1, h2]

/-- slices.Equal at api.Region -/
theorem equalRg (a a2 : Option Addr) (cap cap2 n1 n2 : Nat) (xs ys : List Rg) (w : World) (e1 : xs.length = n1) (e2 : ys.length = n2) (hl : n1 ≤ 9223372036854775807) (hl2 : n2 ≤ 9223372036854775807) (hr : Row w a (flat encRg xs)) (hr2 : Row w a2 (flat encRg ys)) :
    Calls Try.prog 31 #[.slice a n1 cap, .slice a2 n2 cap2] w fun e w' => e = .returned (.bool (decide (xs = ys))) ∧ Below w.heap.size w w' := by
  subst e1 e2
  have hgd' : ∀ (op : BinOp) (p q : Operand) (x y : Rg) (w : World), Sem.run Try.prog (eqGuard op 51 p q (.agg (encRg x).toArray) (.agg (encRg y).toArray)) w = .ok () w := fun op p q x y w => run_eqGuard_agg w op 51 p q (encRg x).toArray (encRg y).toArray (by kernel_rfl)
  simp only [encRg, vI] at hgd'
  have mixed : Try.prog.follows Departure.mixedOrders = true := by kernel_rfl
  by_cases hlen : xs.length = ys.length
  · have hb0 : ((xs.length : Int) == (ys.length : Int)) = true := by simp [hlen]
    have hbn : ((xs.length : Int) != (ys.length : Int)) = false := by simp [hlen]
    have HL : Hid (xs.length = ys.length) := hlen
    have hlt0 : xs.length ≤ ys.length := by omega
    have hlt1 : ys.length ≤ xs.length := by omega
    clear hlen
    go_enter Try.func31, Try.ntmps31
    go_wp2
    go_loopw [5, 13] (fun _ s13 wr => ∃ k : Nat, k ≤ xs.length ∧ s13 = .int .i64 k ∧ Hid (xs.take k = ys.take k) ∧ ∃ m, wr = w.drewN m) (fun _ s13 _ => xs.length - (intOf s13).toNat)
    case atStart => exact ⟨0, Nat.zero_le _, rfl, by simp [Hid], 0, rfl⟩
    case round =>
      obtain ⟨k, hk, rfl, heq, m, rfl⟩ := hrel
      by_cases hlt : k < xs.length
      · have hlt2 : k < ys.length := by omega
        obtain ⟨b, off, rfl, hb, hc⟩ := row_elem encRg_length (by decide) hr hlt
        obtain ⟨hc0, hc1⟩ := encRg_cells hc
        obtain ⟨b2, off2, rfl, hb2, hc2⟩ := row_elem encRg_length (by decide) hr2 hlt2
        obtain ⟨hd0, hd1⟩ := encRg_cells hc2
        clear hr hr2 hc hc2
        have hsx := Hid.mk (List.take_succ_eq_append_getElem hlt)
        have hsy := Hid.mk (List.take_succ_eq_append_getElem hlt2)
        have hmx := Hid.mk (show xs[k]? = some xs[k] from List.getElem?_eq_getElem hlt)
        have hmy := Hid.mk (show ys[k]? = some ys[k] from List.getElem?_eq_getElem hlt2)
        generalize xs[k] = x at *
        generalize ys[k] = y at *
        have hne' := neqRg x y
        simp only [encRg, vI] at hne'
        cases hv : decide (x = y) with
        | true =>
          rw [hv] at hne'
          go_wp2_with fail
          go_quiet_o (fail)
          go_wp2
          go_roundw
          case rel => exact ⟨k + 1, by omega, by go_num, by
            show xs.take (k + 1) = ys.take (k + 1)
            rw [hsx.out, hsy.out, heq.out, of_decide_eq_true hv], _, rfl⟩
          case measure => simp [intOf]; omega
        | false =>
          rw [hv] at hne'
          go_wp2_with fail
          go_quiet_o (fail)
          go_wp2
          go_ret
          refine ⟨ret_bool ?_, Below.step (below_drewN (Below.refl _ _) m) (below_drewN (Below.refl _ _) _)⟩
          symm
          refine decide_eq_false fun h => ?_
          have h1 := hmx.out
          rw [h, hmy.out] at h1
          exact of_decide_eq_false hv (by simpa using h1.symm)
      · obtain rfl : k = xs.length := by omega
        have h := heq.out
        rw [List.take_of_length_le (Nat.le_refl _), HL.out, List.take_of_length_le (Nat.le_refl _)] at h
        have HH := Hid.mk h
        go_wp2
        go_ret
        exact ⟨ret_bool (decide_eq_true HH.out).symm, below_drewN (Below.refl _ _) m⟩
  · have hb0 : ((xs.length : Int) == (ys.length : Int)) = false := by simp; omega
    go_enter Try.func31, Try.ntmps31
    go_wp2
    go_ret
    exact ⟨ret_bool (by symm; exact decide_eq_false fun h => hlen (by rw [h])), Below.refl _ _⟩


/-! ## Raw numbers -/
structure Rw where
  k : Int
  a : Int
  b : Int
  c : Int
def encRw (r : Rw) : List Value := [vI r.k, vI r.a, vI r.b, vI r.c]
theorem encRw_length (r : Rw) : (encRw r).length = 4 := rfl
theorem encRw_cells {w : World} {b o : Nat} {r : Rw} (hc : ∀ i v, (encRw r)[i]? = some v → w.cell? ⟨b, o + i, none⟩ = some v) : w.cell? ⟨b, o, none⟩ = some (.int .i64 r.k) ∧ w.cell? ⟨b, o + 1, none⟩ = some (.int .i64 r.a) ∧ w.cell? ⟨b, o + 2, none⟩ = some (.int .i64 r.b) ∧ w.cell? ⟨b, o + 3, none⟩ = some (.int .i64 r.c) := ⟨hc 0 _ rfl, hc 1 _ rfl, hc 2 _ rfl, hc 3 _ rfl⟩
def in64 (x : Int) : Prop := -9223372036854775808 ≤ x ∧ x ≤ 9223372036854775807
def Rw.wf (r : Rw) : Prop := in64 r.k ∧ in64 r.a ∧ in64 r.b ∧ in64 r.c

/-- the region of raw numbers -/
def Rw.rs (r : Rw) : Nat := (1 + pk r.b 40).toNat
def Rw.rf (r : Rw) : Nat := (pk r.a (256 - (1 + pk r.b 40) + 1)).toNat
theorem Rw.rs_eq (r : Rw) : (r.rs : Int) = 1 + pk r.b 40 := by have := pk_nonneg r.b 40 (by omega); unfold Rw.rs; omega
theorem Rw.rs_lt (r : Rw) : 1 ≤ r.rs ∧ r.rs ≤ 40 := by have := r.rs_eq; have := pk_nonneg r.b 40 (by omega); have := pk_lt r.b 40 (by omega); omega
theorem Rw.rf_eq (r : Rw) : (r.rf : Int) = pk r.a (256 - (1 + pk r.b 40) + 1) := by
  have := r.rs_eq; have := r.rs_lt
  have := pk_nonneg r.a (256 - (1 + pk r.b 40) + 1) (by omega)
  unfold Rw.rf; omega
theorem Rw.rf_lt (r : Rw) : r.rf + r.rs ≤ 256 := by
  have := r.rs_eq; have := r.rs_lt; have := r.rf_eq
  have := pk_lt r.a (256 - (1 + pk r.b 40) + 1) (by omega)
  omega

theorem region_any (r : Rw) (w : World) (h : r.wf) :
    Calls Try.prog 34 #[.agg #[.int .i64 r.k, .int .i64 r.a, .int .i64 r.b, .int .i64 r.c]] w fun e w' => e = .returned (.agg #[.int .i64 (r.rf : Int), .int .i64 (r.rs : Int)]) ∧ Below w.heap.size w w' := by
  obtain ⟨⟨k1, k2⟩, ⟨a1, a2⟩, ⟨b1, b2⟩, ⟨c1, c2⟩⟩ := h
  have p0 := pk_nonneg r.b 40 (by omega)
  have p1 := pk_lt r.b 40 (by omega)
  obtain ⟨K0, K1, F0, F1, hsz, hbw⟩ := boxes2 w #[.int .i64 r.k, .int .i64 r.a, .int .i64 r.b, .int .i64 r.c] 66 #[.int .i64 0, .int .i64 0] 51
  go_enter Try.func34, Try.ntmps34
  go_wp2_with fail
  generalize (w.alloc (.cells #[.int .i64 r.k, .int .i64 r.a, .int .i64 r.b, .int .i64 r.c] 66)).alloc (.cells #[.int .i64 0, .int .i64 0] 51) = w0 at *
  refine (picked_any _ _ _ b1 b2 (by omega) (by omega)).mono ?_
  rintro e w' ⟨rfl, rfl⟩
  go_wp2_with fail
  refine (picked_any _ _ _ a1 a2 (by omega) (by omega)).mono ?_
  rintro e w' ⟨rfl, rfl⟩
  go_wp2
  refine bodyPost_ret (v := .agg #[.int .i64 (pk r.a (256 - (1 + pk r.b 40) + 1)), .int .i64 (1 + pk r.b 40)]) (by simp [results, Try.results34, go_sem, K1]) rfl ⟨by rw [r.rs_eq, r.rf_eq], ?_⟩
  exact Below.setCell (Below.setCell hbw (by simp only; omega) _) (by simp only; omega) _
end Go.Proofs.Yteonmoncofcajaa
