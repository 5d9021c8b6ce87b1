/- texts of this claim, joined. -/
import Derived.Test.YtcmpmobhongkiaaGreatDoorCM0
import Derived.Test.YtcmpmobhongkiaaGreatDoorCM10
import Derived.Test.YtcmpmobhongkiaaGreatDoorCM13
import Derived.Test.YtcmpmobhongkiaaGreatDoorCM17
import Derived.Test.YtcmpmobhongkiaaGreatDoorCM18
set_option linter.unusedVariables false
set_option linter.unusedSimpArgs false
namespace Go.Proofs.YtcmpmobhongkiaaGreatDoor
section
open Go.RowKit

def MG (c : UInt8) : List Value := [.int .u8 (c.toNat : Int)]
theorem qB (c : UInt8) : (MG c).length = 1 := rfl
theorem IC {w : World} {g o : Nat} {r : UInt8} (hc : ∀ i v, (MG r)[i]? = some v → w.cell? ⟨g, o + i, none⟩ = some v) : w.cell? ⟨g, o, none⟩ = some (.int .u8 (r.toNat : Int)) := hc 0 _ rfl
theorem IE (a : Option Addr) (n cap : Nat) (l : List UInt8) (g : Nat) (lb : Array Value) (p : UInt8 → Bool) (w : World) (hn : l.length = n) (hl : n ≤ 9223372036854775807) (hr : Row w a (flat MG l)) (eg : ∀ args w, (callFunc g args).run Tryz.prog w = .ok (.enter g args) w)
  (hp : ∀ W, Below w.heap.size w W → ∀ x ∈ l, Calls Tryz.prog g (#[.int .u8 (x.toNat : Int)] ++ lb) W fun e w' => e = .returned (.bool (p x)) ∧ Below W.heap.size W w') :
  Calls Tryz.prog 157 #[.slice a n cap, .func (.func g) #[] lb] w fun e w' => e = .returned (.int .i64 (bZ p l)) ∧ Below w.heap.size w w' := by
 subst hn
 go_enter Tryz.func157, Tryz.ntmps157
 go_wp2
 go_loopw [5, 8] (fun _ s8 wr => ∃ k : Nat, k ≤ l.length ∧ s8 = .int .i64 k ∧ Hid (∀ x ∈ l.take k, p x = false) ∧ Below w.heap.size w wr) (fun _ s8 _ => l.length - (intOf s8).toNat)
 case atStart => exact ⟨0, Nat.zero_le _, rfl, by simp [Hid], Below.refl _ _⟩
 case round =>
  obtain ⟨k, hk, rfl, hnot, hbw⟩ := hrel
  by_cases hlt : k < l.length
  ·obtain ⟨b, off, rfl, hb, hc⟩ := aN qB (by decide) (hr.below hbw) hlt
   obtain hc0 := IC hc
   rw [Nat.mul_one] at hc0
   have hcall := hp wr hbw l[k] (gL hlt)
   clear hr hp hc
   cases hv : p l[k] with
   | true =>
    have HH := gO (kP hlt hv hnot.out)
    rw [hv] at hcall
    generalize l[k] = y at *
    go_wp2_with (go_at_fn g; refine hcall.mono ?_; rintro e w' ⟨rfl, hb'⟩)
    go_ret
    exact ⟨dK HH.out.symm, Below.step hbw hb'⟩
   | false =>
    rw [hv] at hcall
    have HH : Hid (∀ x ∈ l.take (k + 1), p x = false) := fun x hx => by
     rw [List.take_succ_eq_append_getElem hlt, List.mem_append, List.mem_singleton] at hx
     rcases hx with hx | rfl
     ·exact hnot.out x hx
     ·exact hv
    generalize l[k] = y at *
    go_wp2_with (go_at_fn g; refine hcall.mono ?_; rintro e w' ⟨rfl, hb'⟩)
    go_roundw
    case rel => exact ⟨k + 1, by omega, by go_num, HH.out, Below.step hbw hb'⟩
    case measure => simp [intOf]; omega
  ·obtain rfl : k = l.length := by omega
   go_wp2
   go_ret
   exact ⟨dK (jQ (by simpa [Hid] using hnot)).symm, hbw⟩

theorem AU (a : Option Addr) (n cap : Nat) (l : List UInt8) (g : Nat) (lb : Array Value) (p : UInt8 → Bool) (w : World) (hn : l.length = n) (hl : n ≤ 9223372036854775807) (hr : Row w a (flat MG l)) (eg : ∀ args w, (callFunc g args).run Tryz.prog w = .ok (.enter g args) w)
  (hp : ∀ W, Below w.heap.size w W → ∀ x ∈ l, Calls Tryz.prog g (#[.int .u8 (x.toNat : Int)] ++ lb) W fun e w' => e = .returned (.bool (p x)) ∧ Below W.heap.size W w') :
  Calls Tryz.prog 116 #[.slice a n cap, .func (.func g) #[] lb] w fun e w' => e = .returned (.bool (l.any p)) ∧ Below w.heap.size w w' := by
 go_enter Tryz.func116, Tryz.ntmps116
 go_wp2_with (go_at_call 157; refine (IE _ _ _ l _ _ p _ hn hl hr eg hp).mono ?_; rintro e w' ⟨rfl, hb'⟩)
 go_ret
 exact ⟨aW (fO p l), hb'⟩


def MH (c : UInt8) : Bool := !(decide ((97 ≤ c ∧ c ≤ 122) ∨ (48 ≤ c ∧ c ≤ 57)))
theorem Ph (c : UInt8) : MH c = !(decide ((97 ≤ c.toNat ∧ c.toNat ≤ 122) ∨ (48 ≤ c.toNat ∧ c.toNat ≤ 57))) := by
 unfold MH
 simp only [UInt8.le_iff_toNat_le]
 rfl
theorem MI (l : List UInt8) : nameB l = (decide (0 < l.length ∧ l.length ≤ 8) && !(l.any MH)) := by
 unfold nameB MH
 rw [List.not_any_eq_all_not]
 simp
set_option maxRecDepth 100000 in
theorem Pj (c : UInt8) (w : World) :
  Calls Tryz.prog 117 (#[.int .u8 (c.toNat : Int)] ++ #[]) w fun ev w' => ev = .returned (.bool (MH c)) ∧ Below w.heap.size w w' := by
 show Calls Tryz.prog 117 #[.int .u8 (c.toNat : Int)] w _
 rw [Ph]
 generalize c.toNat = n
 by_cases h1 : n < 97
 ·by_cases h2 : n < 48
  ·go_enter Tryz.func117, Tryz.ntmps117
   go_wp2
   go_ret
   exact ⟨aW (by rw [Bool.eq_iff_iff]; simp <;> omega), Below.refl _ _⟩
  ·by_cases h3 : 57 < n
   ·go_enter Tryz.func117, Tryz.ntmps117
    go_wp2
    go_ret
    exact ⟨aW (by rw [Bool.eq_iff_iff]; simp <;> omega), Below.refl _ _⟩
   ·go_enter Tryz.func117, Tryz.ntmps117
    go_wp2
    go_ret
    exact ⟨aW (by rw [Bool.eq_iff_iff]; simp <;> omega), Below.refl _ _⟩
 ·by_cases h4 : 122 < n
  ·have h5 : 57 < n := by omega
   have h6 : ¬ n < 48 := by omega
   go_enter Tryz.func117, Tryz.ntmps117
   go_wp2
   go_ret
   exact ⟨aW (by rw [Bool.eq_iff_iff]; simp <;> omega), Below.refl _ _⟩
  ·go_enter Tryz.func117, Tryz.ntmps117
   go_wp2
   go_ret
   exact ⟨aW (by rw [Bool.eq_iff_iff]; simp <;> omega), Below.refl _ _⟩

set_option maxRecDepth 100000 in
theorem yV (l : List UInt8) (w : World) (hl : l.length ≤ 1000000) :
  Calls Tryz.prog 64 #[sV l] w fun ev w' => ev = .returned (.bool (nameB l)) ∧ Below w.heap.size w w' := by
 rw [MI]
 unfold sV
 have hsz : (ByteArray.mk l.toArray).size = l.length := by simp [ByteArray.size]
 by_cases h0 : l = []
 ·subst h0
  go_enter Tryz.func64, Tryz.ntmps64
  go_wp2
  go_ret
  exact ⟨rfl, Below.refl _ _⟩
 ·have hpos : 0 < l.length := List.length_pos_iff.2 h0
  have hemp : l.isEmpty = false := by rw [List.isEmpty_eq_false_iff]; exact h0
  by_cases h8 : 8 < l.length
  ·have h8i : (8 : Int) < l.length := by omega
   go_enter Tryz.func64, Tryz.ntmps64
   go_wp2
   go_ret
   exact ⟨aW (by rw [decide_eq_false (by omega)]; rfl), Below.refl _ _⟩
  ·have h8i : ¬ (8 : Int) < l.length := by omega
   have hcv := fun (W : World) => Lib.run_convert_string_bytes (P := Tryz.prog) W 9 188 5 ⟨l.toArray⟩ Tryz.underlying9 Tryz.underlying188 Tryz.underlying5
   have hb : Below w.heap.size w (Lib.bytesWorld w 5 ⟨l.toArray⟩) := ⟨rfl, rfl, rfl, by rw [Lib.bytesWorld_size]; omega, fun j hj => Lib.bytesWorld_at_old w 5 ⟨l.toArray⟩ j hj⟩
   have hrow : Row (Lib.bytesWorld w 5 ⟨l.toArray⟩) (some ⟨w.heap.size, 0, none⟩) (flat MG l) := by
    intro j v hj
    have hjl : j < l.length * 1 := by have := (List.getElem?_eq_some_iff.1 hj).1; rwa [flat_length qB] at this
    refine ⟨w.heap.size, 0, rfl, by rw [Lib.bytesWorld_size]; omega, ?_⟩
    have h1 := flat_get qB l j (by omega) 0 (by decide)
    rw [Nat.mul_one, Nat.add_zero, hj] at h1
    have h2 : v = .int .u8 ((l[j]'(by omega)).toNat : Int) := by simpa [MG] using h1
    rw [Nat.zero_add, Lib.bytesWorld_cell w 5 ⟨l.toArray⟩ j (by rw [hsz]; omega), h2]
    simp [List.getD, show j < l.length by omega]
   have eg : ∀ args w, (callFunc 117 args).run Tryz.prog w = .ok (.enter 117 args) w := enters_of Tryz.func117 (by kernel_rfl) rfl
   have HC := gO (AU (some ⟨w.heap.size, 0, none⟩) l.length (grownCap w l.length 0 5) l 117 #[] MH (Lib.bytesWorld w 5 ⟨l.toArray⟩) rfl (by omega) hrow eg (fun W hW x hx => Pj x W))
   have HB := gO hb
   clear hrow eg hb
   go_enter Tryz.func64, Tryz.ntmps64
   go_wp2_with fail
   refine HC.out.mono ?_
   rintro ev w2 ⟨rfl, hb2⟩
   have HB2 := gO (Below.step HB.out hb2)
   go_wp2
   go_ret
   refine ⟨aW ?_, HB2.out⟩
   rw [decide_eq_true (by omega)]
   rfl
end
section
open Go.RowKit

theorem bytes_eq (v y : List UInt8) : ((ByteArray.mk v.toArray) == (ByteArray.mk y.toArray)) = (v == y) := by
 show (v.toArray == y.toArray) = _
 simp
set_option maxRecDepth 100000 in
theorem MJ (a : Option Addr) (n cap : Nat) (l : List (List UInt8)) (v : List UInt8) (w : World) (hn : l.length = n) (hl : n ≤ 1000000) (hr : Row w a (flat encS l)) :
  Calls Tryz.prog 92 #[.slice a n cap, sV v] w fun e w' => e = .returned (.int .i64 (bZ (v == ·) l)) ∧ w = w' := by
 subst hn
 unfold sV
 go_enter Tryz.func92, Tryz.ntmps92
 go_wp2
 go_loop [5, 8] (fun _ s8 => ∃ k : Nat, k ≤ l.length ∧ s8 = .int .i64 k ∧ Hid (∀ x ∈ l.take k, (v == x) = false)) (fun _ s8 => l.length - (intOf s8).toNat)
 case atStart => exact ⟨0, Nat.zero_le _, rfl, by simp [Hid]⟩
 case round =>
  obtain ⟨k, hk, rfl, hnot⟩ := hrel
  by_cases hlt : k < l.length
  ·obtain ⟨b, off, rfl, hb, hc⟩ := aN aU (by decide) hr hlt
   have hc0 := l9 hc
   rw [Nat.mul_one] at hc0
   clear hr hc
   have YK : ((ByteArray.mk v.toArray) == (ByteArray.mk (l[k]).toArray)) = (v == l[k]) := (bytes_eq _ _)
   cases hv : v == l[k] with
   | true =>
    rw [hv] at YK
    have HH := gO (kP (p := fun x => v == x) hlt hv hnot.out)
    generalize l[k] = y at *
    go_wp2
    go_ret
    exact ⟨dK HH.out.symm, rfl⟩
   | false =>
    rw [hv] at YK
    have HH : Hid (∀ x ∈ l.take (k + 1), (v == x) = false) := fun x hx => by
     rw [List.take_succ_eq_append_getElem hlt, List.mem_append, List.mem_singleton] at hx
     rcases hx with hx | rfl
     ·exact hnot.out x hx
     ·exact hv
    generalize l[k] = y at *
    go_wp2
    go_round
    case rel => exact ⟨k + 1, by omega, by go_num, HH⟩
    case measure => simp [intOf]; omega
  ·obtain rfl : k = l.length := by omega
   go_wp2
   go_ret
   exact ⟨dK (jQ (by simpa [Hid] using hnot)).symm, rfl⟩
set_option maxRecDepth 100000 in
theorem DC (a : Option Addr) (n cap : Nat) (l : List (List UInt8)) (v : List UInt8) (w : World) (hn : l.length = n) (hl : n ≤ 1000000) (hr : Row w a (flat encS l)) :
  Calls Tryz.prog 44 #[.slice a n cap, sV v] w fun e w' => e = .returned (.bool (l.contains v)) ∧ w = w' := by
 have HC := gO (fun (W : World) (h : W = w) => MJ a n cap l v W hn hl (h ▸ hr))
 unfold sV at *
 go_enter Tryz.func44, Tryz.ntmps44
 go_wp2_with (go_at_call 92; refine (HC.out _ rfl).mono ?_; rintro e w' ⟨rfl, rfl⟩)
 go_ret
 exact ⟨aW (by rw [fO, List.contains_eq_any_beq]), rfl⟩

theorem MK (y : Cc) (v : List UInt8) (B : Nat) (W : World) (hy : IB W y) (hn : y.n1 ≤ 1000000) (hB : B < W.heap.size) (hc : W.cell? ⟨B, 0, none⟩ = some (sV v)) :
  Calls Tryz.prog 118 (#[.agg (bV y).toArray] ++ #[.pointer (some ⟨B, 0, none⟩)]) W fun ev w' => ev = .returned (.bool (y.c.ns.contains v)) ∧ Below W.heap.size W w' := by
 show Calls Tryz.prog 118 #[.agg #[.slice y.a1 y.n1 y.c1, .int .i64 y.c.z, .int .i64 y.c.r, .int .i64 y.c.o, .slice y.a2 y.n2 y.c2, .slice y.a3 y.n3 y.c3], .pointer (some ⟨B, 0, none⟩)] W _
 have hb := aB W (.cells #[.slice y.a1 y.n1 y.c1, .int .i64 (y.c.z : Int), .int .i64 (y.c.r : Int), .int .i64 (y.c.o : Int), .slice y.a2 y.n2 y.c2, .slice y.a3 y.n3 y.c3] 94)
 have K := bC W #[.slice y.a1 y.n1 y.c1, .int .i64 (y.c.z : Int), .int .i64 (y.c.r : Int), .int .i64 (y.c.o : Int), .slice y.a2 y.n2 y.c2, .slice y.a3 y.n3 y.c3] 94
 have k0 := K 0
 simp only [gB, gC, gD] at k0
 have hc2 := (hb.cell (p := ⟨B, 0, none⟩) hB).trans hc
 have HC := gO (DC y.a1 y.n1 y.c1 y.c.ns v _ hy.l1 hn (hy.r1.below hb))
 have HB := gO hb
 have hne : B ≠ W.heap.size := by omega
 clear hb K hc hy
 unfold sV at *
 go_enter Tryz.func118, Tryz.ntmps118
 go_wp2_with (go_at_call 44; refine HC.out.mono ?_; rintro e w' ⟨rfl, rfl⟩)
 go_ret
 exact ⟨aW (by rw [Bool.eq_iff_iff]; simp), HB.out⟩
theorem qC (a : Option Addr) (n cap : Nat) (l : List Cc) (g : Nat) (lb : Array Value) (p : Cc → Bool) (w : World) (hn : l.length = n) (hl : n ≤ 9223372036854775807) (hr : Row w a (flat bV l)) (eg : ∀ args w, (callFunc g args).run Tryz.prog w = .ok (.enter g args) w)
  (hp : ∀ W, Below w.heap.size w W → ∀ x ∈ l, Calls Tryz.prog g (#[.agg (bV x).toArray] ++ lb) W fun e w' => e = .returned (.bool (p x)) ∧ Below W.heap.size W w') :
  Calls Tryz.prog 66 #[.slice a n cap, .func (.func g) #[] lb] w fun e w' => e = .returned (.int .i64 (bZ p l)) ∧ Below w.heap.size w w' := by
 subst hn
 go_enter Tryz.func66, Tryz.ntmps66
 go_wp2
 go_loopw [5, 8] (fun _ s8 wr => ∃ k : Nat, k ≤ l.length ∧ s8 = .int .i64 k ∧ Hid (∀ x ∈ l.take k, p x = false) ∧ Below w.heap.size w wr) (fun _ s8 _ => l.length - (intOf s8).toNat)
 case atStart => exact ⟨0, Nat.zero_le _, rfl, by simp [Hid], Below.refl _ _⟩
 case round =>
  obtain ⟨k, hk, rfl, hnot, hbw⟩ := hrel
  by_cases hlt : k < l.length
  ·obtain ⟨b, off, rfl, hb, hc⟩ := aN cZ (by decide) (hr.below hbw) hlt
   obtain ⟨hc0, hc1, hc2, hc3, hc4, hc5⟩ := mZ hc
   skip
   have hcall := hp wr hbw l[k] (gL hlt)
   clear hr hp hc
   cases hv : p l[k] with
   | true =>
    have HH := gO (kP hlt hv hnot.out)
    rw [hv] at hcall
    generalize l[k] = y at *
    go_wp2_with (go_at_fn g; refine hcall.mono ?_; rintro e w' ⟨rfl, hb'⟩)
    go_ret
    exact ⟨dK HH.out.symm, Below.step hbw hb'⟩
   | false =>
    rw [hv] at hcall
    have HH : Hid (∀ x ∈ l.take (k + 1), p x = false) := fun x hx => by
     rw [List.take_succ_eq_append_getElem hlt, List.mem_append, List.mem_singleton] at hx
     rcases hx with hx | rfl
     ·exact hnot.out x hx
     ·exact hv
    generalize l[k] = y at *
    go_wp2_with (go_at_fn g; refine hcall.mono ?_; rintro e w' ⟨rfl, hb'⟩)
    go_roundw
    case rel => exact ⟨k + 1, by omega, by go_num, HH.out, Below.step hbw hb'⟩
    case measure => simp [intOf]; omega
  ·obtain rfl : k = l.length := by omega
   go_wp2
   go_ret
   exact ⟨dK (jQ (by simpa [Hid] using hnot)).symm, hbw⟩

theorem yX (a : Option Addr) (n cap : Nat) (l : List Cc) (g : Nat) (lb : Array Value) (p : Cc → Bool) (w : World) (hn : l.length = n) (hl : n ≤ 9223372036854775807) (hr : Row w a (flat bV l)) (eg : ∀ args w, (callFunc g args).run Tryz.prog w = .ok (.enter g args) w)
  (hp : ∀ W, Below w.heap.size w W → ∀ x ∈ l, Calls Tryz.prog g (#[.agg (bV x).toArray] ++ lb) W fun e w' => e = .returned (.bool (p x)) ∧ Below W.heap.size W w') :
  Calls Tryz.prog 83 #[.slice a n cap, .func (.func g) #[] lb] w fun e w' => e = .returned (.bool (l.any p)) ∧ Below w.heap.size w w' := by
 go_enter Tryz.func83, Tryz.ntmps83
 go_wp2_with (go_at_call 66; refine (qC _ _ _ l _ _ p _ hn hl hr eg hp).mono ?_; rintro e w' ⟨rfl, hb'⟩)
 go_ret
 exact ⟨aW (fO p l), hb'⟩

theorem qE (a : Option Addr) (n cap : Nat) (l : List Sl) (g : Nat) (lb : Array Value) (p : Sl → Bool) (w : World) (hn : l.length = n) (hl : n ≤ 9223372036854775807) (hr : Row w a (flat aX l)) (eg : ∀ args w, (callFunc g args).run Tryz.prog w = .ok (.enter g args) w)
  (hp : ∀ W, Below w.heap.size w W → ∀ x ∈ l, Calls Tryz.prog g (#[.agg (aX x).toArray] ++ lb) W fun e w' => e = .returned (.bool (p x)) ∧ Below W.heap.size W w') :
  Calls Tryz.prog 125 #[.slice a n cap, .func (.func g) #[] lb] w fun e w' => e = .returned (.int .i64 (bZ p l)) ∧ Below w.heap.size w w' := by
 subst hn
 go_enter Tryz.func125, Tryz.ntmps125
 go_wp2
 go_loopw [5, 8] (fun _ s8 wr => ∃ k : Nat, k ≤ l.length ∧ s8 = .int .i64 k ∧ Hid (∀ x ∈ l.take k, p x = false) ∧ Below w.heap.size w wr) (fun _ s8 _ => l.length - (intOf s8).toNat)
 case atStart => exact ⟨0, Nat.zero_le _, rfl, by simp [Hid], Below.refl _ _⟩
 case round =>
  obtain ⟨k, hk, rfl, hnot, hbw⟩ := hrel
  by_cases hlt : k < l.length
  ·obtain ⟨b, off, rfl, hb, hc⟩ := aN aK (by decide) (hr.below hbw) hlt
   obtain ⟨hc0, hc1, hc2⟩ := fA hc
   skip
   have hcall := hp wr hbw l[k] (gL hlt)
   clear hr hp hc
   cases hv : p l[k] with
   | true =>
    have HH := gO (kP hlt hv hnot.out)
    rw [hv] at hcall
    generalize l[k] = y at *
    go_wp2_with (go_at_fn g; refine hcall.mono ?_; rintro e w' ⟨rfl, hb'⟩)
    go_ret
    exact ⟨dK HH.out.symm, Below.step hbw hb'⟩
   | false =>
    rw [hv] at hcall
    have HH : Hid (∀ x ∈ l.take (k + 1), p x = false) := fun x hx => by
     rw [List.take_succ_eq_append_getElem hlt, List.mem_append, List.mem_singleton] at hx
     rcases hx with hx | rfl
     ·exact hnot.out x hx
     ·exact hv
    generalize l[k] = y at *
    go_wp2_with (go_at_fn g; refine hcall.mono ?_; rintro e w' ⟨rfl, hb'⟩)
    go_roundw
    case rel => exact ⟨k + 1, by omega, by go_num, HH.out, Below.step hbw hb'⟩
    case measure => simp [intOf]; omega
  ·obtain rfl : k = l.length := by omega
   go_wp2
   go_ret
   exact ⟨dK (jQ (by simpa [Hid] using hnot)).symm, hbw⟩

theorem yY (a : Option Addr) (n cap : Nat) (l : List Sl) (g : Nat) (lb : Array Value) (p : Sl → Bool) (w : World) (hn : l.length = n) (hl : n ≤ 9223372036854775807) (hr : Row w a (flat aX l)) (eg : ∀ args w, (callFunc g args).run Tryz.prog w = .ok (.enter g args) w)
  (hp : ∀ W, Below w.heap.size w W → ∀ x ∈ l, Calls Tryz.prog g (#[.agg (aX x).toArray] ++ lb) W fun e w' => e = .returned (.bool (p x)) ∧ Below W.heap.size W w') :
  Calls Tryz.prog 76 #[.slice a n cap, .func (.func g) #[] lb] w fun e w' => e = .returned (.bool (l.any p)) ∧ Below w.heap.size w w' := by
 go_enter Tryz.func76, Tryz.ntmps76
 go_wp2_with (go_at_call 125; refine (qE _ _ _ l _ _ p _ hn hl hr eg hp).mono ?_; rintro e w' ⟨rfl, hb'⟩)
 go_ret
 exact ⟨aW (fO p l), hb'⟩


theorem Pm (x : Sl) (p : Int) (C : Nat) (W : World) (hx : x.p ≤ 1000000) (hp : -1000000 ≤ p ∧ p ≤ 1000000) (hC : C < W.heap.size) (hc : W.cell? ⟨C, 0, none⟩ = some (.int .i64 p)) :
  Calls Tryz.prog 166 (#[.agg (aX x).toArray] ++ #[.pointer (some ⟨C, 0, none⟩)]) W fun ev w' => ev = .returned (.bool (decide ((x.p : Int) = p))) ∧ Below W.heap.size W w' := by
 have hne : C ≠ W.heap.size := by omega
 show Calls Tryz.prog 166 #[.agg #[.int .i64 x.p, .int .i64 x.n, .int .i64 x.h], .pointer (some ⟨C, 0, none⟩)] W _
 go_enter Tryz.func166, Tryz.ntmps166
 go_wp2
 go_ret
 exact ⟨aW (by rw [Bool.eq_iff_iff]; simp only [beq_iff_eq, decide_eq_true_eq]), aB _ _⟩
end
section
open Go.RowKit
def put5 (W : World) (b : Nat) (u0 u1 u2 u3 u4 : Value) : World := ((((W.setCell ⟨b, 0, none⟩ u0).setCell ⟨b, 1, none⟩ u1).setCell ⟨b, 2, none⟩ u2).setCell ⟨b, 3, none⟩ u3).setCell ⟨b, 4, none⟩ u4
theorem HS.move {W : World} {g B : Nat} {X : Nat → Prop} {h : Hp} {c : Hc} (hs : HS W g X h c) (hB : X B) {a0 a1 a2 a3 a4 : Value} (hk : ∀ o, W.cell? ⟨B, o, none⟩ = (#[a0, a1, a2, a3, a4] : Array Value)[o]?) (hf : ∀ o, W.frozen? ⟨B, o, none⟩ = false) :
  HS (put5 W B (.slice c.az 2 c.cz) (.slice c.am 2 c.cm) (.int .i64 (h.aF : Int)) (.slice c.al c.lc.length c.cl) (.slice c.av h.live.length c.cv)) B (fun k => X k ∧ k ≠ B) h c := by
 have h1 := ((((hs.far hB 0 (.slice c.az 2 c.cz)).far hB 1 (.slice c.am 2 c.cm)).far hB 2 (.int .i64 (h.aF : Int))).far hB 3 (.slice c.al c.lc.length c.cl)).far hB 4 (.slice c.av h.live.length c.cv)
 have h2 := aG (aG (aG (aG (aG hk 0 (.slice c.az 2 c.cz)) 1 (.slice c.am 2 c.cm)) 2 (.int .i64 (h.aF : Int))) 3 (.slice c.al c.lc.length c.cl)) 4 (.slice c.av h.live.length c.cv)
 refine ⟨⟨h1.r.own, h1.r.ro, h1.r.ds, fun r hr k hk' => ⟨fun e => (h1.r.og r hr k hk').2 (by rw [e]; exact hB), fun e => (h1.r.og r hr k hk').2 e.1⟩, fun r hr e => h1.r.rx r hr B e hB, fun r hr k hk' e => h1.r.rx r hr k hk' e.1, h1.r.xs B hB, fun e => e.2 rfl, fun k hk' => h1.r.xs k hk'.1, h1.r.e0, h1.r.e1, h1.r.ll⟩, h2, aH (aH (aH (aH (aH hf _ _) _ _) _ _) _ _) _ _⟩
end
section
open Go.RowKit
def lK (W : World) (B : Nat) (h : Hp) (c : Hc) : Prop := HR W B (fun k => k < B) h c
theorem lK.at {W : World} {B : Nat} {h : Hp} {c : Hc} (hs : lK W B h c) : HAt W c.az c.am c.al c.av c.lc.length h.live.length c.y0 c.y1 c.lc h := HR.at hs
theorem ret5 {W0 W4 W : World} {B b G : Nat} {X : Nat → Prop} {h : Hp} {c : Hc} {a0 a1 a2 a3 a4 : Value} (hb : Below B W0 W4) (sf : Safe X W4 W) (hs : HS W G X h c) (K2 : ∀ o, W4.cell? ⟨b, o, none⟩ = (#[a0, a1, a2, a3, a4] : Array Value)[o]?) (F2 : ∀ o, W4.frozen? ⟨b, o, none⟩ = false) (hsz : b < W4.heap.size) (hX : X b) (WM : ∀ k, k < B → X k) (hB : B ≤ W4.heap.size) (hbB : B ≤ b) (u0 u1 u2 u3 u4 : Value) :
  (W.cell? ⟨b, 0, none⟩ = some a0 ∧ W.cell? ⟨b, 1, none⟩ = some a1 ∧ W.cell? ⟨b, 2, none⟩ = some a2 ∧ W.cell? ⟨b, 3, none⟩ = some a3 ∧ W.cell? ⟨b, 4, none⟩ = some a4) ∧
  (W.frozen? ⟨b, 0, none⟩ = false ∧ W.frozen? ⟨b, 1, none⟩ = false ∧ W.frozen? ⟨b, 2, none⟩ = false ∧ W.frozen? ⟨b, 3, none⟩ = false ∧ W.frozen? ⟨b, 4, none⟩ = false) ∧
  HS (put5 W b u0 u1 u2 u3 u4) G X h c ∧ Below B W0 (put5 W b u0 u1 u2 u3 u4) ∧ ∀ o, (put5 W b u0 u1 u2 u3 u4).cell? ⟨b, o, none⟩ = (#[u0, u1, u2, u3, u4] : Array Value)[o]? := by
 have K := sf.box K2 hsz hX
 have F := sf.Pg F2 hsz hX
 exact ⟨⟨K 0, K 1, K 2, K 3, K 4⟩, ⟨F 0, F 1, F 2, F 3, F 4⟩, ((((hs.far hX 0 u0).far hX 1 u1).far hX 2 u2).far hX 3 u3).far hX 4 u4, Below.setCell (Below.setCell (Below.setCell (Below.setCell (Below.setCell (Safe.after hb sf WM hB) hbB u0) hbB u1) hbB u2) hbB u3) hbB u4, aG (aG (aG (aG (aG K 0 u0) 1 u1) 2 u2) 3 u3) 4 u4⟩
end
section
theorem rG (h : Hp) : (dY h 6).named [120, 97] = none := rfl
theorem uF {h : Hp} (hk : dW h) : ∀ j, j ≤ 6 → fC (dY h j)
 | 0, _ => GR hk
 | j + 1, hj => by
  obtain ⟨h1, h2, h3⟩ := tX h (j := j) (by omega)
  have hz : 1 ≤ [1, 2, 4, 8, 16, 32].getD j 0 ∧ [1, 2, 4, 8, 16, 32].getD j 0 ≤ 64 := by
   obtain rfl | rfl | rfl | rfl | rfl | rfl : j = 0 ∨ j = 1 ∨ j = 2 ∨ j = 3 ∨ j = 4 ∨ j = 5 := by omega
   all_goals decide
  exact ((uF hk j (by omega)).create h3 hz h1 h2).1
end
end Go.Proofs.YtcmpmobhongkiaaGreatDoor
