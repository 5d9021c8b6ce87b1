/- Contract of package buddy: Pages. -/
import Derived.Test.YtbkajbjhffdlfaaDoorBlk8
namespace Go.Proofs.YtbkajbjhffdlfaaDoor
open Go.RowKit
set_option linter.unusedVariables false

def sumB : List Bk → Nat
  | [] => 0
  | b :: l => 2 ^ b.o + sumB l
theorem sumB_take (l : List Bk) (i : Nat) (hi : i < l.length) : sumB (l.take (i + 1)) = sumB (l.take i) + 2 ^ l[i].o := by
  induction l generalizing i with
  | nil => simp at hi
  | cons b l ih =>
    cases i with
    | zero => simp [sumB]
    | succ i =>
      have hi' : i < l.length := by simpa using hi
      rw [List.take_succ_cons, List.take_succ_cons, sumB, sumB, ih i hi']
      simp only [List.getElem_cons_succ]
      omega
theorem sumB_le (l : List Bk) (h : ∀ b ∈ l, b.o ≤ 4) : sumB l ≤ l.length * 16 := by
  induction l with
  | nil => simp [sumB]
  | cons b l ih =>
    have h1 := ih (fun b hb => h b (by simp [hb]))
    have h2 := pow_bk (h b (by simp))
    simp only [sumB, List.length_cons]
    omega

set_option maxHeartbeats 4000000 in
set_option maxRecDepth 100000 in
theorem pages_ok (a1 a2 : Option Addr) (n1 n2 c1 c2 : Nat) (z : Zn) (w : World) (hat : ZAt w a1 a2 n1 n2 z) (hz : z.ok) :
    Calls Tryd.prog 21 #[.agg #[.int .i64 z.f, .int .i64 z.e, .slice a1 n1 c1, .slice a2 n2 c2]] w fun ev w' => ev = .returned (.tuple #[.int .i64 (sumB z.l : Nat), .int .i64 0]) ∧ Below w.heap.size w w' := by
  have hlen : z.l.length ≤ 256 := Nat.le_trans (OkL.length_le hz.2 (fun b hb => (hz.2.fit b hb).1.2.2.1)) hz.1.e2
  obtain ⟨K1, F1, hsz, hbw⟩ := boxes1 w #[.int .i64 (z.f : Int), .int .i64 (z.e : Int), .slice a1 n1 c1, .slice a2 n2 c2] 26
  have hat0 := hat.below hbw
  have l1 := hat.l1
  clear hat
  go_enter Tryd.func21, Tryd.ntmps21
  go_wp2_with fail
  generalize w.alloc (.cells #[.int .i64 (z.f : Int), .int .i64 (z.e : Int), .slice a1 n1 c1, .slice a2 n2 c2] 26) = w0 at *
  refine (check_ok _ _ _ _ _ _ z _ hat0 hz).mono ?_
  rintro ev w1 ⟨rfl, hb1⟩
  have K1b := box_step K1 hsz hb1
  have hat1 := hat0.below hb1
  have hbw1 := Below.step hbw hb1
  have hs1 := Nat.lt_of_lt_of_le hsz hb1.size
  clear K1 F1 hat0 hbw hb1
  dsimp only
  go_wp2
  go_loopw [5, 16] (fun s5 s16 wr => ∃ i : Nat, i ≤ n1 ∧ s16 = .int .i64 (i : Int) ∧ s5 = .int .i64 (sumB (z.l.take i) : Nat) ∧ Hid (Below w1.heap.size w1 wr)) (fun _ s16 _ => n1 - (intOf s16).toNat)
  case atStart => exact ⟨0, Nat.zero_le _, rfl, rfl, Below.refl _ _⟩
  case round =>
    obtain ⟨i, hi, rfl, rfl, hb⟩ := hrel
    by_cases hlt : i < n1
    · have hlt2 : i < z.l.length := by omega
      obtain ⟨bb, off, ha1, hbb, hc⟩ := row_elem encBk_length (by decide) (hat1.r1.below hb.out) hlt2
      obtain rfl := ha1
      obtain ⟨hc0, hc1, hc2⟩ := encBk_cells hc
      have hfit := (hz.2.fit _ (List.getElem_mem hlt2)).1
      have hsum := Hid.mk (sumB_take z.l i hlt2)
      have hle := sumB_le (z.l.take i) (fun b hb => (hz.2.fit b (List.mem_of_mem_take hb)).1.1)
      rw [List.length_take] at hle
      have hle2 : sumB (z.l.take i) ≤ 5000 := by omega
      clear hc hle
      generalize z.l[i] = x at *
      have hsh := shl_bk hfit.1
      have hpw := pow_bk hfit.1
      have hNew := Hid.mk (Below.step hb.out (below_alloc wr (.cells #[.int .i64 (x.a : Int), .int .i64 (x.o : Int), .int .i64 (x.t : Int)] 36)))
      obtain ⟨S, hS⟩ : ∃ S, sumB (z.l.take i) = S := ⟨_, rfl⟩
      rw [hS] at hle2 hsum ⊢
      clear hS
      have hlti : (i : Int) < n1 := by omega
      have hw : wrap64 ((S : Int) + wrap64 (2 ^ min x.o 64)) = ((S + 2 ^ x.o : Nat) : Int) := by
        rw [show min x.o 64 = x.o by have := hfit.1; omega, hsh]
        generalize 2 ^ x.o = q at *
        have := IntWalk.wrap64_in ((S : Int) + q) (by omega)
        rw [Int.natCast_add]
        exact this
      go_wp2
      go_roundw
      case rel => exact ⟨i + 1, by omega, by go_num, by rw [hsum.out]; simp only [Value.int.injEq, true_and]; exact hw, hNew⟩
      case measure => simp [intOf]; omega
    · obtain rfl : i = n1 := by omega
      have he : z.l.take i = z.l := by rw [← l1, List.take_length]
      rw [he]
      go_wp2
      go_ret2
      exact ⟨rfl, Below.step hbw1 hb.out⟩
end Go.Proofs.YtbkajbjhffdlfaaDoor
