/- texts of this claim, joined. -/
import Derived.Test.YtcmpmobhongkiaaGreatDoorSE0
import Derived.Test.YtcmpmobhongkiaaGreatDoorSE10
set_option linter.unusedVariables false
set_option linter.unusedSimpArgs false
namespace Go.Proofs.YtcmpmobhongkiaaGreatDoor
section
open Go.RowKit

def KE (c : UInt8) : List Value := [.int .u8 (c.toNat : Int)]
theorem pV (c : UInt8) : (KE c).length = 1 := rfl
theorem GL {w : World} {g o : Nat} {r : UInt8} (hc : ∀ i v, (KE r)[i]? = some v → w.cell? ⟨g, o + i, none⟩ = some v) : w.cell? ⟨g, o, none⟩ = some (.int .u8 (r.toNat : Int)) := hc 0 _ rfl
theorem GN (a : Option Addr) (n cap : Nat) (l : List UInt8) (g : Nat) (lb : Array Value) (p : UInt8 → Bool) (w : World) (hn : l.length = n) (hl : n ≤ 9223372036854775807) (hr : Row w a (flat KE l)) (eg : ∀ args w, (callFunc g args).run Tryz.prog w = .ok (.enter g args) w)
  (hp : ∀ W, Below w.heap.size w W → ∀ x ∈ l, Calls Tryz.prog g (#[.int .u8 (x.toNat : Int)] ++ lb) W fun e w' => e = .returned (.bool (p x)) ∧ Below W.heap.size W w') :
  Calls Tryz.prog 157 #[.slice a n cap, .func (.func g) #[] lb] w fun e w' => e = .returned (.int .i64 (bZ p l)) ∧ Below w.heap.size w w' := by
 subst hn
 go_enter Tryz.func157, Tryz.ntmps157
 go_wp2
 go_loopw [5, 8] (fun _ s8 wr => ∃ k : Nat, k ≤ l.length ∧ s8 = .int .i64 k ∧ Hid (∀ x ∈ l.take k, p x = false) ∧ Below w.heap.size w wr) (fun _ s8 _ => l.length - (intOf s8).toNat)
 case atStart => exact ⟨0, Nat.zero_le _, rfl, by simp [Hid], Below.refl _ _⟩
 case round =>
  obtain ⟨k, hk, rfl, hnot, hbw⟩ := hrel
  by_cases hlt : k < l.length
  ·obtain ⟨b, off, rfl, hb, hc⟩ := aK pV (by decide) (hr.below hbw) hlt
   obtain hc0 := GL hc
   rw [Nat.mul_one] at hc0
   have hcall := hp wr hbw l[k] (gL hlt)
   clear hr hp hc
   cases hv : p l[k] with
   | true =>
    have HH := gO (kE hlt hv hnot.out)
    rw [hv] at hcall
    generalize l[k] = y at *
    go_wp2_with (go_at_fn g; refine hcall.mono ?_; rintro e w' ⟨rfl, hb'⟩)
    go_ret
    exact ⟨dF HH.out.symm, Below.step hbw hb'⟩
   | false =>
    rw [hv] at hcall
    have HH : Hid (∀ x ∈ l.take (k + 1), p x = false) := fun x hx => by
     rw [List.take_succ_eq_append_getElem hlt, List.mem_append, List.mem_singleton] at hx
     rcases hx with hx | rfl
     ·exact hnot.out x hx
     ·exact hv
    generalize l[k] = y at *
    go_wp2_with (go_at_fn g; refine hcall.mono ?_; rintro e w' ⟨rfl, hb'⟩)
    go_roundw
    case rel => exact ⟨k + 1, by omega, by go_num, HH.out, Below.step hbw hb'⟩
    case measure => simp [intOf]; omega
  ·obtain rfl : k = l.length := by omega
   go_wp2
   go_ret
   exact ⟨dF (jC (by simpa [Hid] using hnot)).symm, hbw⟩

theorem zW (a : Option Addr) (n cap : Nat) (l : List UInt8) (g : Nat) (lb : Array Value) (p : UInt8 → Bool) (w : World) (hn : l.length = n) (hl : n ≤ 9223372036854775807) (hr : Row w a (flat KE l)) (eg : ∀ args w, (callFunc g args).run Tryz.prog w = .ok (.enter g args) w)
  (hp : ∀ W, Below w.heap.size w W → ∀ x ∈ l, Calls Tryz.prog g (#[.int .u8 (x.toNat : Int)] ++ lb) W fun e w' => e = .returned (.bool (p x)) ∧ Below W.heap.size W w') :
  Calls Tryz.prog 116 #[.slice a n cap, .func (.func g) #[] lb] w fun e w' => e = .returned (.bool (l.any p)) ∧ Below w.heap.size w w' := by
 go_enter Tryz.func116, Tryz.ntmps116
 go_wp2_with (go_at_call 157; refine (GN _ _ _ l _ _ p _ hn hl hr eg hp).mono ?_; rintro e w' ⟨rfl, hb'⟩)
 go_ret
 exact ⟨aU (fE p l), hb'⟩


def KF (c : UInt8) : Bool := !(decide ((97 ≤ c ∧ c ≤ 122) ∨ (48 ≤ c ∧ c ≤ 57)))
theorem Ol (c : UInt8) : KF c = !(decide ((97 ≤ c.toNat ∧ c.toNat ≤ 122) ∨ (48 ≤ c.toNat ∧ c.toNat ≤ 57))) := by
 unfold KF
 simp only [UInt8.le_iff_toNat_le]
 rfl
theorem KH (l : List UInt8) : nameB l = (decide (0 < l.length ∧ l.length ≤ 8) && !(l.any KF)) := by
 unfold nameB KF
 rw [List.not_any_eq_all_not]
 simp
set_option maxRecDepth 100000 in
theorem Om (c : UInt8) (w : World) :
  Calls Tryz.prog 117 (#[.int .u8 (c.toNat : Int)] ++ #[]) w fun ev w' => ev = .returned (.bool (KF c)) ∧ Below w.heap.size w w' := by
 show Calls Tryz.prog 117 #[.int .u8 (c.toNat : Int)] w _
 rw [Ol]
 generalize c.toNat = n
 by_cases h1 : n < 97
 ·by_cases h2 : n < 48
  ·go_enter Tryz.func117, Tryz.ntmps117
   go_wp2
   go_ret
   exact ⟨aU (by rw [Bool.eq_iff_iff]; simp <;> omega), Below.refl _ _⟩
  ·by_cases h3 : 57 < n
   ·go_enter Tryz.func117, Tryz.ntmps117
    go_wp2
    go_ret
    exact ⟨aU (by rw [Bool.eq_iff_iff]; simp <;> omega), Below.refl _ _⟩
   ·go_enter Tryz.func117, Tryz.ntmps117
    go_wp2
    go_ret
    exact ⟨aU (by rw [Bool.eq_iff_iff]; simp <;> omega), Below.refl _ _⟩
 ·by_cases h4 : 122 < n
  ·have h5 : 57 < n := by omega
   have h6 : ¬ n < 48 := by omega
   go_enter Tryz.func117, Tryz.ntmps117
   go_wp2
   go_ret
   exact ⟨aU (by rw [Bool.eq_iff_iff]; simp <;> omega), Below.refl _ _⟩
  ·go_enter Tryz.func117, Tryz.ntmps117
   go_wp2
   go_ret
   exact ⟨aU (by rw [Bool.eq_iff_iff]; simp <;> omega), Below.refl _ _⟩

set_option maxRecDepth 100000 in
theorem En (l : List UInt8) (w : World) (hl : l.length ≤ 1000000) :
  Calls Tryz.prog 64 #[sV l] w fun ev w' => ev = .returned (.bool (nameB l)) ∧ Below w.heap.size w w' := by
 rw [KH]
 unfold sV
 have hsz : (ByteArray.mk l.toArray).size = l.length := by simp [ByteArray.size]
 by_cases h0 : l = []
 ·subst h0
  go_enter Tryz.func64, Tryz.ntmps64
  go_wp2
  go_ret
  exact ⟨rfl, Below.refl _ _⟩
 ·have hpos : 0 < l.length := List.length_pos_iff.2 h0
  have hemp : l.isEmpty = false := by rw [List.isEmpty_eq_false_iff]; exact h0
  by_cases h8 : 8 < l.length
  ·have h8i : (8 : Int) < l.length := by omega
   go_enter Tryz.func64, Tryz.ntmps64
   go_wp2
   go_ret
   exact ⟨aU (by rw [decide_eq_false (by omega)]; rfl), Below.refl _ _⟩
  ·have h8i : ¬ (8 : Int) < l.length := by omega
   have hcv := fun (W : World) => Lib.run_convert_string_bytes (P := Tryz.prog) W 9 188 5 ⟨l.toArray⟩ Tryz.underlying9 Tryz.underlying188 Tryz.underlying5
   have hb : Below w.heap.size w (Lib.bytesWorld w 5 ⟨l.toArray⟩) := ⟨rfl, rfl, rfl, by rw [Lib.bytesWorld_size]; omega, fun j hj => Lib.bytesWorld_at_old w 5 ⟨l.toArray⟩ j hj⟩
   have hrow : Row (Lib.bytesWorld w 5 ⟨l.toArray⟩) (some ⟨w.heap.size, 0, none⟩) (flat KE l) := by
    intro j v hj
    have hjl : j < l.length * 1 := by have := (List.getElem?_eq_some_iff.1 hj).1; rwa [flat_length pV] at this
    refine ⟨w.heap.size, 0, rfl, by rw [Lib.bytesWorld_size]; omega, ?_⟩
    have h1 := flat_get pV l j (by omega) 0 (by decide)
    rw [Nat.mul_one, Nat.add_zero, hj] at h1
    have h2 : v = .int .u8 ((l[j]'(by omega)).toNat : Int) := by simpa [KE] using h1
    rw [Nat.zero_add, Lib.bytesWorld_cell w 5 ⟨l.toArray⟩ j (by rw [hsz]; omega), h2]
    simp [List.getD, show j < l.length by omega]
   have eg : ∀ args w, (callFunc 117 args).run Tryz.prog w = .ok (.enter 117 args) w := enters_of Tryz.func117 (by kernel_rfl) rfl
   have HC := gO (zW (some ⟨w.heap.size, 0, none⟩) l.length (grownCap w l.length 0 5) l 117 #[] KF (Lib.bytesWorld w 5 ⟨l.toArray⟩) rfl (by omega) hrow eg (fun W hW x hx => Om x W))
   have HB := gO hb
   clear hrow eg hb
   go_enter Tryz.func64, Tryz.ntmps64
   go_wp2_with fail
   refine HC.out.mono ?_
   rintro ev w2 ⟨rfl, hb2⟩
   have HB2 := gO (Below.step HB.out hb2)
   go_wp2
   go_ret
   refine ⟨aU ?_, HB2.out⟩
   rw [decide_eq_true (by omega)]
   rfl
end
section
open Go.RowKit

theorem bytes_eq (v y : List UInt8) : ((ByteArray.mk v.toArray) == (ByteArray.mk y.toArray)) = (v == y) := by
 show (v.toArray == y.toArray) = _
 simp
set_option maxRecDepth 100000 in
theorem KI (a : Option Addr) (n cap : Nat) (l : List (List UInt8)) (v : List UInt8) (w : World) (hn : l.length = n) (hl : n ≤ 1000000) (hr : Row w a (flat encS l)) :
  Calls Tryz.prog 92 #[.slice a n cap, sV v] w fun e w' => e = .returned (.int .i64 (bZ (v == ·) l)) ∧ w = w' := by
 subst hn
 unfold sV
 go_enter Tryz.func92, Tryz.ntmps92
 go_wp2
 go_loop [5, 8] (fun _ s8 => ∃ k : Nat, k ≤ l.length ∧ s8 = .int .i64 k ∧ Hid (∀ x ∈ l.take k, (v == x) = false)) (fun _ s8 => l.length - (intOf s8).toNat)
 case atStart => exact ⟨0, Nat.zero_le _, rfl, by simp [Hid]⟩
 case round =>
  obtain ⟨k, hk, rfl, hnot⟩ := hrel
  by_cases hlt : k < l.length
  ·obtain ⟨b, off, rfl, hb, hc⟩ := aK aV (by decide) hr hlt
   have hc0 := lM hc
   rw [Nat.mul_one] at hc0
   clear hr hc
   have Xl : ((ByteArray.mk v.toArray) == (ByteArray.mk (l[k]).toArray)) = (v == l[k]) := (bytes_eq _ _)
   cases hv : v == l[k] with
   | true =>
    rw [hv] at Xl
    have HH := gO (kE (p := fun x => v == x) hlt hv hnot.out)
    generalize l[k] = y at *
    go_wp2
    go_ret
    exact ⟨dF HH.out.symm, rfl⟩
   | false =>
    rw [hv] at Xl
    have HH : Hid (∀ x ∈ l.take (k + 1), (v == x) = false) := fun x hx => by
     rw [List.take_succ_eq_append_getElem hlt, List.mem_append, List.mem_singleton] at hx
     rcases hx with hx | rfl
     ·exact hnot.out x hx
     ·exact hv
    generalize l[k] = y at *
    go_wp2
    go_round
    case rel => exact ⟨k + 1, by omega, by go_num, HH⟩
    case measure => simp [intOf]; omega
  ·obtain rfl : k = l.length := by omega
   go_wp2
   go_ret
   exact ⟨dF (jC (by simpa [Hid] using hnot)).symm, rfl⟩
set_option maxRecDepth 100000 in
theorem tH (a : Option Addr) (n cap : Nat) (l : List (List UInt8)) (v : List UInt8) (w : World) (hn : l.length = n) (hl : n ≤ 1000000) (hr : Row w a (flat encS l)) :
  Calls Tryz.prog 44 #[.slice a n cap, sV v] w fun e w' => e = .returned (.bool (l.contains v)) ∧ w = w' := by
 have HC := gO (fun (W : World) (h : W = w) => KI a n cap l v W hn hl (h ▸ hr))
 unfold sV at *
 go_enter Tryz.func44, Tryz.ntmps44
 go_wp2_with (go_at_call 92; refine (HC.out _ rfl).mono ?_; rintro e w' ⟨rfl, rfl⟩)
 go_ret
 exact ⟨aU (by rw [fE, List.contains_eq_any_beq]), rfl⟩

theorem KJ (y : Cc) (v : List UInt8) (B : Nat) (W : World) (hy : CB W y) (hn : y.n1 ≤ 1000000) (hB : B < W.heap.size) (hc : W.cell? ⟨B, 0, none⟩ = some (sV v)) :
  Calls Tryz.prog 118 (#[.agg (dP y).toArray] ++ #[.pointer (some ⟨B, 0, none⟩)]) W fun ev w' => ev = .returned (.bool (y.c.ns.contains v)) ∧ Below W.heap.size W w' := by
 show Calls Tryz.prog 118 #[.agg #[.slice y.a1 y.n1 y.c1, .int .i64 y.c.z, .int .i64 y.c.r, .int .i64 y.c.o, .slice y.a2 y.n2 y.c2, .slice y.a3 y.n3 y.c3], .pointer (some ⟨B, 0, none⟩)] W _
 have hb := aC W (.cells #[.slice y.a1 y.n1 y.c1, .int .i64 (y.c.z : Int), .int .i64 (y.c.r : Int), .int .i64 (y.c.o : Int), .slice y.a2 y.n2 y.c2, .slice y.a3 y.n3 y.c3] 94)
 have K := aY W #[.slice y.a1 y.n1 y.c1, .int .i64 (y.c.z : Int), .int .i64 (y.c.r : Int), .int .i64 (y.c.o : Int), .slice y.a2 y.n2 y.c2, .slice y.a3 y.n3 y.c3] 94
 have k0 := K 0
 simp only [gB, gC, gD] at k0
 have hc2 := (hb.cell (p := ⟨B, 0, none⟩) hB).trans hc
 have HC := gO (tH y.a1 y.n1 y.c1 y.c.ns v _ hy.l1 hn (hy.r1.below hb))
 have HB := gO hb
 have hne : B ≠ W.heap.size := by omega
 clear hb K hc hy
 unfold sV at *
 go_enter Tryz.func118, Tryz.ntmps118
 go_wp2_with (go_at_call 44; refine HC.out.mono ?_; rintro e w' ⟨rfl, rfl⟩)
 go_ret
 exact ⟨aU (by rw [Bool.eq_iff_iff]; simp), HB.out⟩
theorem pW (a : Option Addr) (n cap : Nat) (l : List Cc) (g : Nat) (lb : Array Value) (p : Cc → Bool) (w : World) (hn : l.length = n) (hl : n ≤ 9223372036854775807) (hr : Row w a (flat dP l)) (eg : ∀ args w, (callFunc g args).run Tryz.prog w = .ok (.enter g args) w)
  (hp : ∀ W, Below w.heap.size w W → ∀ x ∈ l, Calls Tryz.prog g (#[.agg (dP x).toArray] ++ lb) W fun e w' => e = .returned (.bool (p x)) ∧ Below W.heap.size W w') :
  Calls Tryz.prog 66 #[.slice a n cap, .func (.func g) #[] lb] w fun e w' => e = .returned (.int .i64 (bZ p l)) ∧ Below w.heap.size w w' := by
 subst hn
 go_enter Tryz.func66, Tryz.ntmps66
 go_wp2
 go_loopw [5, 8] (fun _ s8 wr => ∃ k : Nat, k ≤ l.length ∧ s8 = .int .i64 k ∧ Hid (∀ x ∈ l.take k, p x = false) ∧ Below w.heap.size w wr) (fun _ s8 _ => l.length - (intOf s8).toNat)
 case atStart => exact ⟨0, Nat.zero_le _, rfl, by simp [Hid], Below.refl _ _⟩
 case round =>
  obtain ⟨k, hk, rfl, hnot, hbw⟩ := hrel
  by_cases hlt : k < l.length
  ·obtain ⟨b, off, rfl, hb, hc⟩ := aK dR (by decide) (hr.below hbw) hlt
   obtain ⟨hc0, hc1, hc2, hc3, hc4, hc5⟩ := kQ hc
   skip
   have hcall := hp wr hbw l[k] (gL hlt)
   clear hr hp hc
   cases hv : p l[k] with
   | true =>
    have HH := gO (kE hlt hv hnot.out)
    rw [hv] at hcall
    generalize l[k] = y at *
    go_wp2_with (go_at_fn g; refine hcall.mono ?_; rintro e w' ⟨rfl, hb'⟩)
    go_ret
    exact ⟨dF HH.out.symm, Below.step hbw hb'⟩
   | false =>
    rw [hv] at hcall
    have HH : Hid (∀ x ∈ l.take (k + 1), p x = false) := fun x hx => by
     rw [List.take_succ_eq_append_getElem hlt, List.mem_append, List.mem_singleton] at hx
     rcases hx with hx | rfl
     ·exact hnot.out x hx
     ·exact hv
    generalize l[k] = y at *
    go_wp2_with (go_at_fn g; refine hcall.mono ?_; rintro e w' ⟨rfl, hb'⟩)
    go_roundw
    case rel => exact ⟨k + 1, by omega, by go_num, HH.out, Below.step hbw hb'⟩
    case measure => simp [intOf]; omega
  ·obtain rfl : k = l.length := by omega
   go_wp2
   go_ret
   exact ⟨dF (jC (by simpa [Hid] using hnot)).symm, hbw⟩

theorem pX (a : Option Addr) (n cap : Nat) (l : List Cc) (g : Nat) (lb : Array Value) (p : Cc → Bool) (w : World) (hn : l.length = n) (hl : n ≤ 9223372036854775807) (hr : Row w a (flat dP l)) (eg : ∀ args w, (callFunc g args).run Tryz.prog w = .ok (.enter g args) w)
  (hp : ∀ W, Below w.heap.size w W → ∀ x ∈ l, Calls Tryz.prog g (#[.agg (dP x).toArray] ++ lb) W fun e w' => e = .returned (.bool (p x)) ∧ Below W.heap.size W w') :
  Calls Tryz.prog 83 #[.slice a n cap, .func (.func g) #[] lb] w fun e w' => e = .returned (.bool (l.any p)) ∧ Below w.heap.size w w' := by
 go_enter Tryz.func83, Tryz.ntmps83
 go_wp2_with (go_at_call 66; refine (pW _ _ _ l _ _ p _ hn hl hr eg hp).mono ?_; rintro e w' ⟨rfl, hb'⟩)
 go_ret
 exact ⟨aU (fE p l), hb'⟩

theorem pY (a : Option Addr) (n cap : Nat) (l : List Sl) (g : Nat) (lb : Array Value) (p : Sl → Bool) (w : World) (hn : l.length = n) (hl : n ≤ 9223372036854775807) (hr : Row w a (flat aW l)) (eg : ∀ args w, (callFunc g args).run Tryz.prog w = .ok (.enter g args) w)
  (hp : ∀ W, Below w.heap.size w W → ∀ x ∈ l, Calls Tryz.prog g (#[.agg (aW x).toArray] ++ lb) W fun e w' => e = .returned (.bool (p x)) ∧ Below W.heap.size W w') :
  Calls Tryz.prog 125 #[.slice a n cap, .func (.func g) #[] lb] w fun e w' => e = .returned (.int .i64 (bZ p l)) ∧ Below w.heap.size w w' := by
 subst hn
 go_enter Tryz.func125, Tryz.ntmps125
 go_wp2
 go_loopw [5, 8] (fun _ s8 wr => ∃ k : Nat, k ≤ l.length ∧ s8 = .int .i64 k ∧ Hid (∀ x ∈ l.take k, p x = false) ∧ Below w.heap.size w wr) (fun _ s8 _ => l.length - (intOf s8).toNat)
 case atStart => exact ⟨0, Nat.zero_le _, rfl, by simp [Hid], Below.refl _ _⟩
 case round =>
  obtain ⟨k, hk, rfl, hnot, hbw⟩ := hrel
  by_cases hlt : k < l.length
  ·obtain ⟨b, off, rfl, hb, hc⟩ := aK aO (by decide) (hr.below hbw) hlt
   obtain ⟨hc0, hc1, hc2⟩ := gX hc
   skip
   have hcall := hp wr hbw l[k] (gL hlt)
   clear hr hp hc
   cases hv : p l[k] with
   | true =>
    have HH := gO (kE hlt hv hnot.out)
    rw [hv] at hcall
    generalize l[k] = y at *
    go_wp2_with (go_at_fn g; refine hcall.mono ?_; rintro e w' ⟨rfl, hb'⟩)
    go_ret
    exact ⟨dF HH.out.symm, Below.step hbw hb'⟩
   | false =>
    rw [hv] at hcall
    have HH : Hid (∀ x ∈ l.take (k + 1), p x = false) := fun x hx => by
     rw [List.take_succ_eq_append_getElem hlt, List.mem_append, List.mem_singleton] at hx
     rcases hx with hx | rfl
     ·exact hnot.out x hx
     ·exact hv
    generalize l[k] = y at *
    go_wp2_with (go_at_fn g; refine hcall.mono ?_; rintro e w' ⟨rfl, hb'⟩)
    go_roundw
    case rel => exact ⟨k + 1, by omega, by go_num, HH.out, Below.step hbw hb'⟩
    case measure => simp [intOf]; omega
  ·obtain rfl : k = l.length := by omega
   go_wp2
   go_ret
   exact ⟨dF (jC (by simpa [Hid] using hnot)).symm, hbw⟩

theorem yD (a : Option Addr) (n cap : Nat) (l : List Sl) (g : Nat) (lb : Array Value) (p : Sl → Bool) (w : World) (hn : l.length = n) (hl : n ≤ 9223372036854775807) (hr : Row w a (flat aW l)) (eg : ∀ args w, (callFunc g args).run Tryz.prog w = .ok (.enter g args) w)
  (hp : ∀ W, Below w.heap.size w W → ∀ x ∈ l, Calls Tryz.prog g (#[.agg (aW x).toArray] ++ lb) W fun e w' => e = .returned (.bool (p x)) ∧ Below W.heap.size W w') :
  Calls Tryz.prog 76 #[.slice a n cap, .func (.func g) #[] lb] w fun e w' => e = .returned (.bool (l.any p)) ∧ Below w.heap.size w w' := by
 go_enter Tryz.func76, Tryz.ntmps76
 go_wp2_with (go_at_call 125; refine (pY _ _ _ l _ _ p _ hn hl hr eg hp).mono ?_; rintro e w' ⟨rfl, hb'⟩)
 go_ret
 exact ⟨aU (fE p l), hb'⟩


theorem Oo (x : Sl) (p : Int) (C : Nat) (W : World) (hx : x.p ≤ 1000000) (hp : -1000000 ≤ p ∧ p ≤ 1000000) (hC : C < W.heap.size) (hc : W.cell? ⟨C, 0, none⟩ = some (.int .i64 p)) :
  Calls Tryz.prog 166 (#[.agg (aW x).toArray] ++ #[.pointer (some ⟨C, 0, none⟩)]) W fun ev w' => ev = .returned (.bool (decide ((x.p : Int) = p))) ∧ Below W.heap.size W w' := by
 have hne : C ≠ W.heap.size := by omega
 show Calls Tryz.prog 166 #[.agg #[.int .i64 x.p, .int .i64 x.n, .int .i64 x.h], .pointer (some ⟨C, 0, none⟩)] W _
 go_enter Tryz.func166, Tryz.ntmps166
 go_wp2
 go_ret
 exact ⟨aU (by rw [Bool.eq_iff_iff]; simp only [beq_iff_eq, decide_eq_true_eq]), aC _ _⟩
end
end Go.Proofs.YtcmpmobhongkiaaGreatDoor
