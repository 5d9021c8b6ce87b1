/- texts of this claim, joined. -/
import Derived.Test.YtcmpmobhongkiaaGreatDoorSE0
import Derived.Test.YtcmpmobhongkiaaGreatDoorSE10
import Derived.Test.YtcmpmobhongkiaaGreatDoorSE16
import Derived.Test.YtcmpmobhongkiaaGreatDoorSE18
import Derived.Test.YtcmpmobhongkiaaGreatDoorSE20
import Derived.Test.YtcmpmobhongkiaaGreatDoorSE9
set_option linter.unusedVariables false
set_option linter.unusedSimpArgs false
namespace Go.Proofs.YtcmpmobhongkiaaGreatDoor
section
open Go.RowKit

def oC (f : Nat → Bool) (b : Bool) : Array Value := (((List.range 256).map fun p => Value.bool (f p)) ++ [Value.bool b]).toArray
theorem vN (f : Nat → Bool) (b : Bool) : (oC f b).size = 257 := by simp [oC]
theorem yN (f : Nat → Bool) (b : Bool) (p : Nat) (h : p < 256) : (oC f b)[p]? = some (.bool (f p)) := by
 unfold oC
 rw [gB, List.getElem?_append_left (by simpa using h), List.getElem?_map, List.getElem?_range h]
 rfl
theorem uD (f : Nat → Bool) (b : Bool) : (oC f b)[256]? = some (.bool b) := by
 unfold oC
 rw [gB, List.getElem?_append_right (by simp)]
 simp
theorem OJ (f g : Nat → Bool) (b : Bool) (q : Nat) (hq : q < 256) (v : Bool) (hv : g q = v) (h : ∀ p, p < 256 → p ≠ q → g p = f p) : (oC f b).setIfInBounds q (.bool v) = oC g b := by
 apply Array.ext_getElem?
 intro i
 rw [Array.getElem?_setIfInBounds]
 by_cases hi : i < 256
 ·rw [yN g b i hi]
  by_cases hiq : q = i
  ·subst hiq
   rw [if_pos rfl, if_pos (by rw [vN]; omega), hv]
  ·rw [if_neg hiq, yN f b i hi, h i hi (fun e => hiq e.symm)]
 ·by_cases hi6 : i = 256
  ·subst hi6
   rw [if_neg (by omega), uD, uD]
  ·rw [Array.getElem?_eq_none (show (oC g b).size ≤ i by rw [vN]; omega), if_neg (by omega), Array.getElem?_eq_none (show (oC f b).size ≤ i by rw [vN]; omega)]
theorem Ht {f g : Nat → Bool} {b : Bool} (h : ∀ p, p < 256 → f p = g p) : oC f b = oC g b := by
 unfold oC
 congr 1
 congr 1
 exact List.map_congr_left fun p hp => by rw [h p (List.mem_range.1 hp)]
def marked (f : Nat → Bool) (a q p : Nat) : Bool := f p || decide (a ≤ p ∧ p < q)
theorem Hu (f : Nat → Bool) (a p : Nat) : marked f a a p = f p := by unfold marked; rw [decide_eq_false (by omega), Bool.or_false]
theorem Lj (f : Nat → Bool) (a q : Nat) : marked f a q q = f q := by unfold marked; rw [decide_eq_false (by omega), Bool.or_false]
theorem EI (f : Nat → Bool) (a q : Nat) (h : a ≤ q) (hq : q < 256) (b : Bool) : (oC (marked f a q) b).setIfInBounds q (.bool true) = oC (marked f a (q + 1)) b := by
 refine OJ _ _ b q hq true ?_ fun p hp hne => ?_
 ·unfold marked; rw [decide_eq_true (by omega), Bool.or_true]
 ·unfold marked
  congr 1
  exact decide_eq_decide.2 (by omega)

structure vO (W : World) (G : Nat) (f : Nat → Bool) (b : Bool) : Prop where
 k : ∀ o, W.cell? ⟨G, o, none⟩ = (oC f b)[o]?
 fz : ∀ o, W.frozen? ⟨G, o, none⟩ = false
 hi : G < W.heap.size
theorem vO.below {W W' : World} {G : Nat} {f : Nat → Bool} {b : Bool} (h : vO W G f b) (hb : Below W.heap.size W W') : vO W' G f b := ⟨aB h.k h.hi hb, aJ h.fz h.hi hb, gI h.hi hb.size⟩
theorem vO.mark {W : World} {G : Nat} {f g : Nat → Bool} {b : Bool} (h : vO W G f b) (q : Nat) (v : Bool) (he : (oC f b).setIfInBounds q (.bool v) = oC g b) : vO (W.setCell ⟨G, q, none⟩ (.bool v)) G g b := ⟨he ▸ aH h.k q _, aG h.fz _ _, by simpa using h.hi⟩
theorem vO.congr {W : World} {G : Nat} {f g : Nat → Bool} {b : Bool} (h : vO W G f b) (hfg : ∀ p, p < 256 → f p = g p) : vO W G g b := ⟨by rw [← Ht hfg]; exact h.k, h.fz, h.hi⟩

set_option maxHeartbeats 4000000 in
set_option maxRecDepth 100000 in
theorem Ro (G a n : Nat) (f : Nat → Bool) (b : Bool) (w : World) (hm : vO w G f b) (hn : a + n ≤ 256) (h1 : a < 256) (hf : ∀ p, a ≤ p → p < a + n → f p = false) :
  Calls Tryz.prog 128 #[.pointer (some ⟨G, 0, none⟩), .int .i64 a, .int .i64 n] w fun ev w' => ev = .returned (.tuple #[]) ∧ vO w' G (marked f a (a + n)) b ∧ Safe (fun k => k ≠ G) w w' := by
 have d1 : decide ((256 : Int) ≤ a) = false := decide_eq_false (by omega)
 have d2 : decide (256 ≤ a) = false := decide_eq_false (by omega)
 have d3 : decide ((256 : Int) - a < n) = false := decide_eq_false (by omega)
 have HM := gO hm
 clear hm
 go_enter Tryz.func128, Tryz.ntmps128
 go_wp2
 go_loopw [6] (fun s6 wr => ∃ q : Nat, a ≤ q ∧ q ≤ a + n ∧ s6 = .int .i64 (q : Int) ∧ Hid (vO wr G (marked f a q) b) ∧ Hid (Safe (fun k => k ≠ G) w wr)) (fun s6 _ => a + n - (intOf s6).toNat)
 case atStart => exact ⟨a, Nat.le_refl _, by omega, rfl, HM.out.congr (fun p _ => (Hu f a p).symm), Safe.refl _ _⟩
 case round =>
  obtain ⟨q, hq1, hq2, rfl, HK, HB⟩ := hrel
  clear HM
  have hHi := HK.out.hi
  by_cases hlt : q < a + n
  ·have hlt2 : (q : Int) < a + n := by omega
   have aCJ : (q : Int) < 256 := by omega
   have OL : q < 256 := by omega
   have hcell := (HK.out.k q).trans (yN _ b q OL)
   rw [Lj, hf q hq1 hlt] at hcell
   have hfz := HK.out.fz q
   have HK2 := gO (HK.out.mark q true (EI f a q hq1 OL b))
   have HB2 := gO (HB.out.set (g := G) (fun e => e rfl) q (.bool true))
   go_wp2
   go_roundw
   case rel => exact ⟨q + 1, by omega, by omega, by go_num, HK2, HB2⟩
   case measure => simp [intOf]; omega
  ·obtain rfl : q = a + n := by omega
   have d4 : ¬ ((a : Int) + n < a + n) := by omega
   go_wp2
   refine bodyPost_end (v := .tuple #[]) (by simp [results, Tryz.results128, go_sem]) rfl ⟨rfl, HK.out, HB.out⟩
end
section
open Go.RowKit

theorem Qa {α : Type} {q : α → Bool} : ∀ {l : List α}, (∀ i j (hi : i < l.length) (hj : j < l.length), i < j → q l[j] = true → q l[i] = true) → ∀ k (hk : k < l.length), k < (l.takeWhile q).length ↔ q l[k] = true
 | [], _, k, hk => by simp at hk
 | a :: l, h, k, hk => by
  by_cases ha : q a = true
  ·rw [List.takeWhile_cons_of_pos ha]
   cases k with
   | zero => simpa using ha
   | succ k =>
    have ih := Qa (l := l) (fun i j hi hj hij hq => h (i + 1) (j + 1) (by simpa using hi) (by simpa using hj) (by omega) hq) k (by simpa using hk)
    simpa using ih
  ·rw [List.takeWhile_cons_of_neg ha]
   cases k with
   | zero => simpa using ha
   | succ k =>
    simp only [List.length_nil, Nat.not_lt_zero, false_iff, List.getElem_cons_succ]
    intro hq
    exact ha (h 0 (k + 1) (by simp) hk (by omega) hq)
theorem Sz {l : List (List UInt8)} {v : List UInt8} (hl : l.Pairwise fun a b => Go.Op.bytesLess a b = true) {k : Nat} (hk : k < l.length) : k < xR l v ↔ Go.Op.bytesLess l[k] v = true :=
 Qa (q := fun x => Go.Op.bytesLess x v) (fun i j hi hj hij hq => yA (List.pairwise_iff_getElem.1 hl i j hi hj hij) hq) k hk
theorem Qb (l : List (List UInt8)) (v : List UInt8) : xR l v ≤ l.length := (List.takeWhile_sublist _).length_le

theorem MB {x y : List UInt8} (w : World) {b : Bool} (h : Go.Op.bytesLess x y = b) : (binOp .lss 9 (.string ⟨x.toArray⟩) (.string ⟨y.toArray⟩)).run Tryz.prog w = .ok (.bool b) w := by
 simp [binOp, Go.Op.stringOp]
 exact h
theorem BH (x : List UInt8) (w : World) : (binOp .neq 9 (.string ⟨x.toArray⟩) (.string ⟨x.toArray⟩)).run Tryz.prog w = .ok (.bool false) w := by
 simp [binOp, Go.Op.stringOp]
theorem SE (x : List UInt8) (w : World) : Calls Tryz.prog 158 #[.string ⟨x.toArray⟩] w fun ev w' => ev = .returned (.bool false) ∧ w = w' := by
 have h := BH x w
 go_enter Tryz.func158, Tryz.ntmps158
 go_wp2
 go_ret
 exact ⟨rfl, rfl⟩
theorem JA (x : List UInt8) (w : World) : Calls Tryz.prog 120 #[.string ⟨x.toArray⟩] w fun ev w' => ev = .returned (.bool false) ∧ w = w' := by
 have h := BH x w
 go_enter Tryz.func120, Tryz.ntmps120
 go_wp2
 go_ret
 exact ⟨rfl, rfl⟩
theorem Fb (x y : List UInt8) (w : World) : Calls Tryz.prog 119 #[.string ⟨x.toArray⟩, .string ⟨y.toArray⟩] w fun ev w' => ev = .returned (.bool (Go.Op.bytesLess x y)) ∧ w = w' := by
 have h := MB (x := x) (y := y) w rfl
 go_enter Tryz.func119, Tryz.ntmps119
 go_wp2_with (go_at_call 158; refine (SE x _).mono ?_; rintro ev w' ⟨rfl, rfl⟩)
 go_ret
 exact ⟨rfl, rfl⟩
def aBP (l : List (List UInt8)) (v : List UInt8) (w : World) (e : Ending) (w' : World) : Prop := ∃ b : Bool, e = .returned (.tuple #[.int .i64 (xR l v : Int), .bool b]) ∧ w = w'
set_option maxHeartbeats 4000000 in
set_option maxRecDepth 100000 in
theorem SG (a : Option Addr) (n cap : Nat) (l : List (List UInt8)) (v : List UInt8) (w : World) (hn : l.length = n) (hl : n ≤ 1000) (hr : Row w a (flat encS l)) (hrise : l.Pairwise fun a b => Go.Op.bytesLess a b = true) :
  Calls Tryz.prog 68 #[.slice a n cap, .string ⟨v.toArray⟩] w (aBP l v w) := by
 subst hn
 have hle := Qb l v
 go_enter Tryz.func68, Tryz.ntmps68
 go_wp2
 go_loopw [7, 8, 9] (fun s7 s8 _ wr => wr = w ∧ ∃ i j : Nat, i ≤ xR l v ∧ xR l v ≤ j ∧ j ≤ l.length ∧ s7 = .int .i64 i ∧ s8 = .int .i64 j) (fun s7 s8 _ _ => (intOf s8).toNat - (intOf s7).toNat)
 case atStart => exact ⟨rfl, 0, l.length, Nat.zero_le _, hle, Nat.le_refl _, rfl, rfl⟩
 case round =>
  obtain ⟨rfl, i, j, h1, h2, h3, rfl, rfl⟩ := hrel
  by_cases hlt : i < j
  ·have Dx : (i + j) / 2 < l.length := by omega
   have hiff := gO (Sz hrise (v := v) Dx)
   obtain ⟨b, off, rfl, hb, hc⟩ := aK aV (by decide) hr Dx
   have hc0 := lM hc
   rw [Nat.mul_one] at hc0
   clear hr hc
   generalize l[(i + j) / 2] = y at *
   cases hb2 : Go.Op.bytesLess y v with
   | true =>
    have h4 := hiff.out.2 hb2
    have HL := gO (Fb y v wr)
    rw [hb2] at HL
    clear hb2
    go_wp2_with (go_at_call 119; refine HL.out.mono ?_; rintro ev w' ⟨rfl, rfl⟩)
    go_roundw
    case rel => exact ⟨by first | rfl | trivial, (i + j) / 2 + 1, j, by omega, h2, h3, by go_num, rfl⟩
    case measure => simp [intOf]; omega
   | false =>
    have h4 : ¬ (i + j) / 2 < xR l v := fun h => by rw [hiff.out.1 h] at hb2; cases hb2
    have HL := gO (Fb y v wr)
    rw [hb2] at HL
    clear hb2
    go_wp2_with (go_at_call 119; refine HL.out.mono ?_; rintro ev w' ⟨rfl, rfl⟩)
    go_roundw
    case rel => exact ⟨by first | rfl | trivial, i, (i + j) / 2, h1, by omega, by omega, rfl, by go_num⟩
    case measure => simp [intOf]; omega
  ·obtain rfl : i = xR l v := by omega
   have hkk : (xR l v : Int) ≤ l.length := by omega
   by_cases hk : xR l v < l.length
   ·obtain ⟨b, off, rfl, hb, hc⟩ := aK aV (by decide) hr hk
    have hc0 := lM hc
    rw [Nat.mul_one] at hc0
    have hk2 : (xR l v : Int) < l.length := by omega
    clear hr hc
    generalize l[xR l v] = y at *
    generalize hK0 : xR l v = K at *
    have HK := gO hK0
    clear hK0
    cases Xl : y == v with
    | true =>
     have h5 := (bytes_eq y v).trans Xl
     go_wp2_with (go_at_call 120; refine (JA _ _).mono ?_; rintro ev w' ⟨rfl, rfl⟩)
     exact bodyPost_ret (v := .tuple #[.int .i64 (K : Int), .bool true]) (by simp [results, Tryz.results68, go_sem]) rfl ⟨true, by rw [HK.out], rfl⟩
    | false =>
     have h5 := (bytes_eq y v).trans Xl
     go_wp2_with (go_at_call 120; refine (JA _ _).mono ?_; rintro ev w' ⟨rfl, rfl⟩)
     exact bodyPost_ret (v := .tuple #[.int .i64 (K : Int), .bool false]) (by simp [results, Tryz.results68, go_sem]) rfl ⟨false, by rw [HK.out], rfl⟩
   ·have hk2 : ¬ (xR l v : Int) < l.length := by omega
    clear hr
    generalize hK0 : xR l v = K at *
    have HK := gO hK0
    clear hK0
    go_wp2
    exact bodyPost_ret (v := .tuple #[.int .i64 (K : Int), .bool false]) (by simp [results, Tryz.results68, go_sem]) rfl ⟨false, by rw [HK.out], rfl⟩
end
end Go.Proofs.YtcmpmobhongkiaaGreatDoor
