/- texts of this claim, joined. -/
import Derived.Test.YtcmpmobhongkiaaGreatDoorCG0
import Derived.Test.YtcmpmobhongkiaaGreatDoorCG10
import Derived.Test.YtcmpmobhongkiaaGreatDoorCG11
import Derived.Test.YtcmpmobhongkiaaGreatDoorCG35
set_option linter.unusedVariables false
set_option linter.unusedSimpArgs false
namespace Go.Proofs.YtcmpmobhongkiaaGreatDoor
section
open Go.RowKit

theorem RQ {α : Type} {q : α → Bool} : ∀ {l : List α}, (∀ i j (hi : i < l.length) (hj : j < l.length), i < j → q l[j] = true → q l[i] = true) → ∀ k (hk : k < l.length), k < (l.takeWhile q).length ↔ q l[k] = true
 | [], _, k, hk => by simp at hk
 | a :: l, h, k, hk => by
  by_cases ha : q a = true
  ·rw [List.takeWhile_cons_of_pos ha]
   cases k with
   | zero => simpa using ha
   | succ k =>
    have ih := RQ (l := l) (fun i j hi hj hij hq => h (i + 1) (j + 1) (by simpa using hi) (by simpa using hj) (by omega) hq) k (by simpa using hk)
    simpa using ih
  ·rw [List.takeWhile_cons_of_neg ha]
   cases k with
   | zero => simpa using ha
   | succ k =>
    simp only [List.length_nil, Nat.not_lt_zero, false_iff, List.getElem_cons_succ]
    intro hq
    exact ha (h 0 (k + 1) (by simp) hk (by omega) hq)
theorem MG {l : List (List UInt8)} {v : List UInt8} (hl : l.Pairwise fun a b => Go.Op.bytesLess a b = true) {k : Nat} (hk : k < l.length) : k < vV l v ↔ Go.Op.bytesLess l[k] v = true :=
 RQ (q := fun x => Go.Op.bytesLess x v) (fun i j hi hj hij hq => zY (List.pairwise_iff_getElem.1 hl i j hi hj hij) hq) k hk
theorem RS (l : List (List UInt8)) (v : List UInt8) : vV l v ≤ l.length := (List.takeWhile_sublist _).length_le

theorem OE {x y : List UInt8} (w : World) {b : Bool} (h : Go.Op.bytesLess x y = b) : (binOp .lss 9 (.string ⟨x.toArray⟩) (.string ⟨y.toArray⟩)).run Tryz.prog w = .ok (.bool b) w := by
 simp [binOp, Go.Op.stringOp]
 exact h
theorem Dh (x : List UInt8) (w : World) : (binOp .neq 9 (.string ⟨x.toArray⟩) (.string ⟨x.toArray⟩)).run Tryz.prog w = .ok (.bool false) w := by
 simp [binOp, Go.Op.stringOp]
theorem Vk (x : List UInt8) (w : World) : Calls Tryz.prog 158 #[.string ⟨x.toArray⟩] w fun ev w' => ev = .returned (.bool false) ∧ w = w' := by
 have h := Dh x w
 go_enter Tryz.func158, Tryz.ntmps158
 go_wp2
 go_ret
 exact ⟨rfl, rfl⟩
theorem MH (x : List UInt8) (w : World) : Calls Tryz.prog 120 #[.string ⟨x.toArray⟩] w fun ev w' => ev = .returned (.bool false) ∧ w = w' := by
 have h := Dh x w
 go_enter Tryz.func120, Tryz.ntmps120
 go_wp2
 go_ret
 exact ⟨rfl, rfl⟩
theorem GY (x y : List UInt8) (w : World) : Calls Tryz.prog 119 #[.string ⟨x.toArray⟩, .string ⟨y.toArray⟩] w fun ev w' => ev = .returned (.bool (Go.Op.bytesLess x y)) ∧ w = w' := by
 have h := OE (x := x) (y := y) w rfl
 go_enter Tryz.func119, Tryz.ntmps119
 go_wp2_with (go_at_call 158; refine (Vk x _).mono ?_; rintro ev w' ⟨rfl, rfl⟩)
 go_ret
 exact ⟨rfl, rfl⟩
def aD8 (l : List (List UInt8)) (v : List UInt8) (w : World) (e : Ending) (w' : World) : Prop := ∃ b : Bool, e = .returned (.tuple #[.int .i64 (vV l v : Int), .bool b]) ∧ w = w'
set_option maxHeartbeats 4000000 in
set_option maxRecDepth 100000 in
theorem MI (a : Option Addr) (n cap : Nat) (l : List (List UInt8)) (v : List UInt8) (w : World) (hn : l.length = n) (hl : n ≤ 1000) (hr : Row w a (flat encS l)) (hrise : l.Pairwise fun a b => Go.Op.bytesLess a b = true) :
  Calls Tryz.prog 68 #[.slice a n cap, .string ⟨v.toArray⟩] w (aD8 l v w) := by
 subst hn
 have hle := RS l v
 go_enter Tryz.func68, Tryz.ntmps68
 go_wp2
 go_loopw [7, 8, 9] (fun s7 s8 _ wr => wr = w ∧ ∃ i j : Nat, i ≤ vV l v ∧ vV l v ≤ j ∧ j ≤ l.length ∧ s7 = .int .i64 i ∧ s8 = .int .i64 j) (fun s7 s8 _ _ => (intOf s8).toNat - (intOf s7).toNat)
 case atStart => exact ⟨rfl, 0, l.length, Nat.zero_le _, hle, Nat.le_refl _, rfl, rfl⟩
 case round =>
  obtain ⟨rfl, i, j, h1, h2, h3, rfl, rfl⟩ := hrel
  by_cases hlt : i < j
  ·have Le : (i + j) / 2 < l.length := by omega
   have hiff := gO (MG hrise (v := v) Le)
   obtain ⟨b, off, rfl, hb, hc⟩ := aN aU (by decide) hr Le
   have hc0 := mD hc
   rw [Nat.mul_one] at hc0
   clear hr hc
   generalize l[(i + j) / 2] = y at *
   cases hb2 : Go.Op.bytesLess y v with
   | true =>
    have h4 := hiff.out.2 hb2
    have HL := gO (GY y v wr)
    rw [hb2] at HL
    clear hb2
    go_wp2_with (go_at_call 119; refine HL.out.mono ?_; rintro ev w' ⟨rfl, rfl⟩)
    go_roundw
    case rel => exact ⟨by first | rfl | trivial, (i + j) / 2 + 1, j, by omega, h2, h3, by go_num, rfl⟩
    case measure => simp [intOf]; omega
   | false =>
    have h4 : ¬ (i + j) / 2 < vV l v := fun h => by rw [hiff.out.1 h] at hb2; cases hb2
    have HL := gO (GY y v wr)
    rw [hb2] at HL
    clear hb2
    go_wp2_with (go_at_call 119; refine HL.out.mono ?_; rintro ev w' ⟨rfl, rfl⟩)
    go_roundw
    case rel => exact ⟨by first | rfl | trivial, i, (i + j) / 2, h1, by omega, by omega, rfl, by go_num⟩
    case measure => simp [intOf]; omega
  ·obtain rfl : i = vV l v := by omega
   have hkk : (vV l v : Int) ≤ l.length := by omega
   by_cases hk : vV l v < l.length
   ·obtain ⟨b, off, rfl, hb, hc⟩ := aN aU (by decide) hr hk
    have hc0 := mD hc
    rw [Nat.mul_one] at hc0
    have hk2 : (vV l v : Int) < l.length := by omega
    clear hr hc
    generalize l[vV l v] = y at *
    generalize hK0 : vV l v = K at *
    have HK := gO hK0
    clear hK0
    cases Zt : y == v with
    | true =>
     have h5 := (bytes_eq y v).trans Zt
     go_wp2_with (go_at_call 120; refine (MH _ _).mono ?_; rintro ev w' ⟨rfl, rfl⟩)
     exact bodyPost_ret (v := .tuple #[.int .i64 (K : Int), .bool true]) (by simp [results, Tryz.results68, go_sem]) rfl ⟨true, by rw [HK.out], rfl⟩
    | false =>
     have h5 := (bytes_eq y v).trans Zt
     go_wp2_with (go_at_call 120; refine (MH _ _).mono ?_; rintro ev w' ⟨rfl, rfl⟩)
     exact bodyPost_ret (v := .tuple #[.int .i64 (K : Int), .bool false]) (by simp [results, Tryz.results68, go_sem]) rfl ⟨false, by rw [HK.out], rfl⟩
   ·have hk2 : ¬ (vV l v : Int) < l.length := by omega
    clear hr
    generalize hK0 : vV l v = K at *
    have HK := gO hK0
    clear hK0
    go_wp2
    exact bodyPost_ret (v := .tuple #[.int .i64 (K : Int), .bool false]) (by simp [results, Tryz.results68, go_sem]) rfl ⟨false, by rw [HK.out], rfl⟩
end
section
open Go.RowKit

def Ca.idle (c : Ca) (x : Sl) : Bool := decide (x.n = c.r) && !c.ac.contains (x.p : Int)
set_option maxHeartbeats 4000000 in
set_option maxRecDepth 100000 in
theorem SV (y : Cc) (x : Sl) (w : World) (hl : y.c.ac.length = y.n3) (hn : y.n3 ≤ 1000) (hr : Row w y.a3 (y.c.ac.map vI)) :
  Calls Tryz.prog 73 #[.agg #[.slice y.a1 y.n1 y.c1, .int .i64 y.c.z, .int .i64 y.c.r, .int .i64 y.c.o, .slice y.a2 y.n2 y.c2, .slice y.a3 y.n3 y.c3], .agg #[.int .i64 x.p, .int .i64 x.n, .int .i64 x.h]] w fun ev w' => ev = .returned (.bool (y.c.idle x)) ∧ Below w.heap.size w w' := by
 obtain ⟨K1, K2, F1, F2, hsz, hbw⟩ := boxes2 w #[.slice y.a1 y.n1 y.c1, .int .i64 (y.c.z : Int), .int .i64 (y.c.r : Int), .int .i64 (y.c.o : Int), .slice y.a2 y.n2 y.c2, .slice y.a3 y.n3 y.c3] 94 #[.int .i64 (x.p : Int), .int .i64 (x.n : Int), .int .i64 x.h] 137
 have k2 := K1 2
 have k5 := K1 5
 have m0 := K2 0
 have m1 := K2 1
 simp only [gB, gC, gD] at k2 k5 m0 m1
 have h := jC y.a3 y.c3 y.c.ac (x.p : Int) _ (by omega) (hr.below hbw)
 rw [hl] at h
 have HC := gO h
 have HB := gO hbw
 clear h hbw hr K1 K2 F1 F2
 by_cases hx : x.n = y.c.r
 ·have hxi : ((x.n : Int) == (y.c.r : Int)) = true := by rw [beq_iff_eq, hx]
  have HX := gO hx
  clear hx
  go_enter Tryz.func73, Tryz.ntmps73
  go_wp2_with (go_at_call 35; refine HC.out.mono ?_; rintro ev w2 ⟨rfl, rfl⟩)
  go_ret
  refine ⟨aX ?_, HB.out⟩
  unfold Ca.idle
  rw [decide_eq_true HX.out]
  rfl
 ·have hxi : ((x.n : Int) == (y.c.r : Int)) = false := by rw [beq_eq_false_iff_ne]; omega
  have HX := gO hx
  clear hx
  go_enter Tryz.func73, Tryz.ntmps73
  go_wp2_with fail
  go_ret
  refine ⟨aX ?_, HB.out⟩
  unfold Ca.idle
  rw [decide_eq_false HX.out]
  rfl
end
end Go.Proofs.YtcmpmobhongkiaaGreatDoor
