/- texts of this claim, joined. -/
import Derived.Test.YtcmpmobhongkiaaGreatDoorCG0
import Derived.Test.YtcmpmobhongkiaaGreatDoorCG10
import Derived.Lib.SliceRun
import Derived.Deep.RegionHeld3
import Derived.Deep.DeepCutAuto
set_option linter.unusedVariables false
set_option linter.unusedSimpArgs false
namespace Go.Proofs.YtcmpmobhongkiaaGreatDoor
section
open Go.RowKit

def Ns (c : UInt8) : List Value := [.int .u8 (c.toNat : Int)]
theorem pW (c : UInt8) : (Ns c).length = 1 := rfl
theorem Ja {w : World} {g o : Nat} {r : UInt8} (hc : ∀ i v, (Ns r)[i]? = some v → w.cell? ⟨g, o + i, none⟩ = some v) : w.cell? ⟨g, o, none⟩ = some (.int .u8 (r.toNat : Int)) := hc 0 _ rfl
theorem Jb (a : Option Addr) (n cap : Nat) (l : List UInt8) (g : Nat) (lb : Array Value) (p : UInt8 → Bool) (w : World) (hn : l.length = n) (hl : n ≤ 9223372036854775807) (hr : Row w a (flat Ns l)) (eg : ∀ args w, (callFunc g args).run Tryz.prog w = .ok (.enter g args) w)
  (hp : ∀ W, Below w.heap.size w W → ∀ x ∈ l, Calls Tryz.prog g (#[.int .u8 (x.toNat : Int)] ++ lb) W fun e w' => e = .returned (.bool (p x)) ∧ Below W.heap.size W w') :
  Calls Tryz.prog 157 #[.slice a n cap, .func (.func g) #[] lb] w fun e w' => e = .returned (.int .i64 (bZ p l)) ∧ Below w.heap.size w w' := by
 subst hn
 go_enter Tryz.func157, Tryz.ntmps157
 go_wp2
 go_loopw [5, 8] (fun _ s8 wr => ∃ k : Nat, k ≤ l.length ∧ s8 = .int .i64 k ∧ Hid (∀ x ∈ l.take k, p x = false) ∧ Below w.heap.size w wr) (fun _ s8 _ => l.length - (intOf s8).toNat)
 case atStart => exact ⟨0, Nat.zero_le _, rfl, by simp [Hid], Below.refl _ _⟩
 case round =>
  obtain ⟨k, hk, rfl, hnot, hbw⟩ := hrel
  by_cases hlt : k < l.length
  ·obtain ⟨b, off, rfl, hb, hc⟩ := aN pW (by decide) (hr.below hbw) hlt
   obtain hc0 := Ja hc
   rw [Nat.mul_one] at hc0
   have hcall := hp wr hbw l[k] (gL hlt)
   clear hr hp hc
   cases hv : p l[k] with
   | true =>
    have HH := gO (kR hlt hv hnot.out)
    rw [hv] at hcall
    generalize l[k] = y at *
    go_wp2_with (go_at_fn g; refine hcall.mono ?_; rintro e w' ⟨rfl, hb'⟩)
    go_ret
    exact ⟨dJ HH.out.symm, Below.step hbw hb'⟩
   | false =>
    rw [hv] at hcall
    have HH : Hid (∀ x ∈ l.take (k + 1), p x = false) := fun x hx => by
     rw [List.take_succ_eq_append_getElem hlt, List.mem_append, List.mem_singleton] at hx
     rcases hx with hx | rfl
     ·exact hnot.out x hx
     ·exact hv
    generalize l[k] = y at *
    go_wp2_with (go_at_fn g; refine hcall.mono ?_; rintro e w' ⟨rfl, hb'⟩)
    go_roundw
    case rel => exact ⟨k + 1, by omega, by go_num, HH.out, Below.step hbw hb'⟩
    case measure => simp [intOf]; omega
  ·obtain rfl : k = l.length := by omega
   go_wp2
   go_ret
   exact ⟨dJ (jO (by simpa [Hid] using hnot)).symm, hbw⟩

theorem Bf (a : Option Addr) (n cap : Nat) (l : List UInt8) (g : Nat) (lb : Array Value) (p : UInt8 → Bool) (w : World) (hn : l.length = n) (hl : n ≤ 9223372036854775807) (hr : Row w a (flat Ns l)) (eg : ∀ args w, (callFunc g args).run Tryz.prog w = .ok (.enter g args) w)
  (hp : ∀ W, Below w.heap.size w W → ∀ x ∈ l, Calls Tryz.prog g (#[.int .u8 (x.toNat : Int)] ++ lb) W fun e w' => e = .returned (.bool (p x)) ∧ Below W.heap.size W w') :
  Calls Tryz.prog 116 #[.slice a n cap, .func (.func g) #[] lb] w fun e w' => e = .returned (.bool (l.any p)) ∧ Below w.heap.size w w' := by
 go_enter Tryz.func116, Tryz.ntmps116
 go_wp2_with (go_at_call 157; refine (Jb _ _ _ l _ _ p _ hn hl hr eg hp).mono ?_; rintro e w' ⟨rfl, hb'⟩)
 go_ret
 exact ⟨aX (fJ p l), hb'⟩


def Nu (c : UInt8) : Bool := !(decide ((97 ≤ c ∧ c ≤ 122) ∨ (48 ≤ c ∧ c ≤ 57)))
theorem Qh (c : UInt8) : Nu c = !(decide ((97 ≤ c.toNat ∧ c.toNat ≤ 122) ∨ (48 ≤ c.toNat ∧ c.toNat ≤ 57))) := by
 unfold Nu
 simp only [UInt8.le_iff_toNat_le]
 rfl
theorem Nv (l : List UInt8) : nameB l = (decide (0 < l.length ∧ l.length ≤ 8) && !(l.any Nu)) := by
 unfold nameB Nu
 rw [List.not_any_eq_all_not]
 simp
set_option maxRecDepth 100000 in
theorem Qi (c : UInt8) (w : World) :
  Calls Tryz.prog 117 (#[.int .u8 (c.toNat : Int)] ++ #[]) w fun ev w' => ev = .returned (.bool (Nu c)) ∧ Below w.heap.size w w' := by
 show Calls Tryz.prog 117 #[.int .u8 (c.toNat : Int)] w _
 rw [Qh]
 generalize c.toNat = n
 by_cases h1 : n < 97
 ·by_cases h2 : n < 48
  ·go_enter Tryz.func117, Tryz.ntmps117
   go_wp2
   go_ret
   exact ⟨aX (by rw [Bool.eq_iff_iff]; simp <;> omega), Below.refl _ _⟩
  ·by_cases h3 : 57 < n
   ·go_enter Tryz.func117, Tryz.ntmps117
    go_wp2
    go_ret
    exact ⟨aX (by rw [Bool.eq_iff_iff]; simp <;> omega), Below.refl _ _⟩
   ·go_enter Tryz.func117, Tryz.ntmps117
    go_wp2
    go_ret
    exact ⟨aX (by rw [Bool.eq_iff_iff]; simp <;> omega), Below.refl _ _⟩
 ·by_cases h4 : 122 < n
  ·have h5 : 57 < n := by omega
   have h6 : ¬ n < 48 := by omega
   go_enter Tryz.func117, Tryz.ntmps117
   go_wp2
   go_ret
   exact ⟨aX (by rw [Bool.eq_iff_iff]; simp <;> omega), Below.refl _ _⟩
  ·go_enter Tryz.func117, Tryz.ntmps117
   go_wp2
   go_ret
   exact ⟨aX (by rw [Bool.eq_iff_iff]; simp <;> omega), Below.refl _ _⟩

set_option maxRecDepth 100000 in
theorem Fp (l : List UInt8) (w : World) (hl : l.length ≤ 1000000) :
  Calls Tryz.prog 64 #[sV l] w fun ev w' => ev = .returned (.bool (nameB l)) ∧ Below w.heap.size w w' := by
 rw [Nv]
 unfold sV
 have hsz : (ByteArray.mk l.toArray).size = l.length := by simp [ByteArray.size]
 by_cases h0 : l = []
 ·subst h0
  go_enter Tryz.func64, Tryz.ntmps64
  go_wp2
  go_ret
  exact ⟨rfl, Below.refl _ _⟩
 ·have hpos : 0 < l.length := List.length_pos_iff.2 h0
  have hemp : l.isEmpty = false := by rw [List.isEmpty_eq_false_iff]; exact h0
  by_cases h8 : 8 < l.length
  ·have h8i : (8 : Int) < l.length := by omega
   go_enter Tryz.func64, Tryz.ntmps64
   go_wp2
   go_ret
   exact ⟨aX (by rw [decide_eq_false (by omega)]; rfl), Below.refl _ _⟩
  ·have h8i : ¬ (8 : Int) < l.length := by omega
   have hcv := fun (W : World) => Lib.run_convert_string_bytes (P := Tryz.prog) W 9 188 5 ⟨l.toArray⟩ Tryz.underlying9 Tryz.underlying188 Tryz.underlying5
   have hb : Below w.heap.size w (Lib.bytesWorld w 5 ⟨l.toArray⟩) := ⟨rfl, rfl, rfl, by rw [Lib.bytesWorld_size]; omega, fun j hj => Lib.bytesWorld_at_old w 5 ⟨l.toArray⟩ j hj⟩
   have hrow : Row (Lib.bytesWorld w 5 ⟨l.toArray⟩) (some ⟨w.heap.size, 0, none⟩) (flat Ns l) := by
    intro j v hj
    have hjl : j < l.length * 1 := by have := (List.getElem?_eq_some_iff.1 hj).1; rwa [flat_length pW] at this
    refine ⟨w.heap.size, 0, rfl, by rw [Lib.bytesWorld_size]; omega, ?_⟩
    have h1 := flat_get pW l j (by omega) 0 (by decide)
    rw [Nat.mul_one, Nat.add_zero, hj] at h1
    have h2 : v = .int .u8 ((l[j]'(by omega)).toNat : Int) := by simpa [Ns] using h1
    rw [Nat.zero_add, Lib.bytesWorld_cell w 5 ⟨l.toArray⟩ j (by rw [hsz]; omega), h2]
    simp [List.getD, show j < l.length by omega]
   have eg : ∀ args w, (callFunc 117 args).run Tryz.prog w = .ok (.enter 117 args) w := enters_of Tryz.func117 (by kernel_rfl) rfl
   have HC := gO (Bf (some ⟨w.heap.size, 0, none⟩) l.length (grownCap w l.length 0 5) l 117 #[] Nu (Lib.bytesWorld w 5 ⟨l.toArray⟩) rfl (by omega) hrow eg (fun W hW x hx => Qi x W))
   have HB := gO hb
   clear hrow eg hb
   go_enter Tryz.func64, Tryz.ntmps64
   go_wp2_with fail
   refine HC.out.mono ?_
   rintro ev w2 ⟨rfl, hb2⟩
   have HB2 := gO (Below.step HB.out hb2)
   go_wp2
   go_ret
   refine ⟨aX ?_, HB2.out⟩
   rw [decide_eq_true (by omega)]
   rfl
end
section
open Go.RowKit

theorem bytes_eq (v y : List UInt8) : ((ByteArray.mk v.toArray) == (ByteArray.mk y.toArray)) = (v == y) := by
 show (v.toArray == y.toArray) = _
 simp
set_option maxRecDepth 100000 in
theorem Nw (a : Option Addr) (n cap : Nat) (l : List (List UInt8)) (v : List UInt8) (w : World) (hn : l.length = n) (hl : n ≤ 1000000) (hr : Row w a (flat encS l)) :
  Calls Tryz.prog 92 #[.slice a n cap, sV v] w fun e w' => e = .returned (.int .i64 (bZ (v == ·) l)) ∧ w = w' := by
 subst hn
 unfold sV
 go_enter Tryz.func92, Tryz.ntmps92
 go_wp2
 go_loop [5, 8] (fun _ s8 => ∃ k : Nat, k ≤ l.length ∧ s8 = .int .i64 k ∧ Hid (∀ x ∈ l.take k, (v == x) = false)) (fun _ s8 => l.length - (intOf s8).toNat)
 case atStart => exact ⟨0, Nat.zero_le _, rfl, by simp [Hid]⟩
 case round =>
  obtain ⟨k, hk, rfl, hnot⟩ := hrel
  by_cases hlt : k < l.length
  ·obtain ⟨b, off, rfl, hb, hc⟩ := aN aU (by decide) hr hlt
   have hc0 := mD hc
   rw [Nat.mul_one] at hc0
   clear hr hc
   have Zt : ((ByteArray.mk v.toArray) == (ByteArray.mk (l[k]).toArray)) = (v == l[k]) := (bytes_eq _ _)
   cases hv : v == l[k] with
   | true =>
    rw [hv] at Zt
    have HH := gO (kR (p := fun x => v == x) hlt hv hnot.out)
    generalize l[k] = y at *
    go_wp2
    go_ret
    exact ⟨dJ HH.out.symm, rfl⟩
   | false =>
    rw [hv] at Zt
    have HH : Hid (∀ x ∈ l.take (k + 1), (v == x) = false) := fun x hx => by
     rw [List.take_succ_eq_append_getElem hlt, List.mem_append, List.mem_singleton] at hx
     rcases hx with hx | rfl
     ·exact hnot.out x hx
     ·exact hv
    generalize l[k] = y at *
    go_wp2
    go_round
    case rel => exact ⟨k + 1, by omega, by go_num, HH⟩
    case measure => simp [intOf]; omega
  ·obtain rfl : k = l.length := by omega
   go_wp2
   go_ret
   exact ⟨dJ (jO (by simpa [Hid] using hnot)).symm, rfl⟩
set_option maxRecDepth 100000 in
theorem DU (a : Option Addr) (n cap : Nat) (l : List (List UInt8)) (v : List UInt8) (w : World) (hn : l.length = n) (hl : n ≤ 1000000) (hr : Row w a (flat encS l)) :
  Calls Tryz.prog 44 #[.slice a n cap, sV v] w fun e w' => e = .returned (.bool (l.contains v)) ∧ w = w' := by
 have HC := gO (fun (W : World) (h : W = w) => Nw a n cap l v W hn hl (h ▸ hr))
 unfold sV at *
 go_enter Tryz.func44, Tryz.ntmps44
 go_wp2_with (go_at_call 92; refine (HC.out _ rfl).mono ?_; rintro e w' ⟨rfl, rfl⟩)
 go_ret
 exact ⟨aX (by rw [fJ, List.contains_eq_any_beq]), rfl⟩

theorem Ny (y : Cc) (v : List UInt8) (B : Nat) (W : World) (hy : IZ W y) (hn : y.n1 ≤ 1000000) (hB : B < W.heap.size) (hc : W.cell? ⟨B, 0, none⟩ = some (sV v)) :
  Calls Tryz.prog 118 (#[.agg (bW y).toArray] ++ #[.pointer (some ⟨B, 0, none⟩)]) W fun ev w' => ev = .returned (.bool (y.c.ns.contains v)) ∧ Below W.heap.size W w' := by
 show Calls Tryz.prog 118 #[.agg #[.slice y.a1 y.n1 y.c1, .int .i64 y.c.z, .int .i64 y.c.r, .int .i64 y.c.o, .slice y.a2 y.n2 y.c2, .slice y.a3 y.n3 y.c3], .pointer (some ⟨B, 0, none⟩)] W _
 have hb := aC W (.cells #[.slice y.a1 y.n1 y.c1, .int .i64 (y.c.z : Int), .int .i64 (y.c.r : Int), .int .i64 (y.c.o : Int), .slice y.a2 y.n2 y.c2, .slice y.a3 y.n3 y.c3] 94)
 have K := bC W #[.slice y.a1 y.n1 y.c1, .int .i64 (y.c.z : Int), .int .i64 (y.c.r : Int), .int .i64 (y.c.o : Int), .slice y.a2 y.n2 y.c2, .slice y.a3 y.n3 y.c3] 94
 have k0 := K 0
 simp only [gB, gC, gD] at k0
 have hc2 := (hb.cell (p := ⟨B, 0, none⟩) hB).trans hc
 have HC := gO (DU y.a1 y.n1 y.c1 y.c.ns v _ hy.l1 hn (hy.r1.below hb))
 have HB := gO hb
 have hne : B ≠ W.heap.size := by omega
 clear hb K hc hy
 unfold sV at *
 go_enter Tryz.func118, Tryz.ntmps118
 go_wp2_with (go_at_call 44; refine HC.out.mono ?_; rintro e w' ⟨rfl, rfl⟩)
 go_ret
 exact ⟨aX (by rw [Bool.eq_iff_iff]; simp), HB.out⟩
theorem pX (a : Option Addr) (n cap : Nat) (l : List Cc) (g : Nat) (lb : Array Value) (p : Cc → Bool) (w : World) (hn : l.length = n) (hl : n ≤ 9223372036854775807) (hr : Row w a (flat bW l)) (eg : ∀ args w, (callFunc g args).run Tryz.prog w = .ok (.enter g args) w)
  (hp : ∀ W, Below w.heap.size w W → ∀ x ∈ l, Calls Tryz.prog g (#[.agg (bW x).toArray] ++ lb) W fun e w' => e = .returned (.bool (p x)) ∧ Below W.heap.size W w') :
  Calls Tryz.prog 66 #[.slice a n cap, .func (.func g) #[] lb] w fun e w' => e = .returned (.int .i64 (bZ p l)) ∧ Below w.heap.size w w' := by
 subst hn
 go_enter Tryz.func66, Tryz.ntmps66
 go_wp2
 go_loopw [5, 8] (fun _ s8 wr => ∃ k : Nat, k ≤ l.length ∧ s8 = .int .i64 k ∧ Hid (∀ x ∈ l.take k, p x = false) ∧ Below w.heap.size w wr) (fun _ s8 _ => l.length - (intOf s8).toNat)
 case atStart => exact ⟨0, Nat.zero_le _, rfl, by simp [Hid], Below.refl _ _⟩
 case round =>
  obtain ⟨k, hk, rfl, hnot, hbw⟩ := hrel
  by_cases hlt : k < l.length
  ·obtain ⟨b, off, rfl, hb, hc⟩ := aN cO (by decide) (hr.below hbw) hlt
   obtain ⟨hc0, hc1, hc2, hc3, hc4, hc5⟩ := nC hc
   skip
   have hcall := hp wr hbw l[k] (gL hlt)
   clear hr hp hc
   cases hv : p l[k] with
   | true =>
    have HH := gO (kR hlt hv hnot.out)
    rw [hv] at hcall
    generalize l[k] = y at *
    go_wp2_with (go_at_fn g; refine hcall.mono ?_; rintro e w' ⟨rfl, hb'⟩)
    go_ret
    exact ⟨dJ HH.out.symm, Below.step hbw hb'⟩
   | false =>
    rw [hv] at hcall
    have HH : Hid (∀ x ∈ l.take (k + 1), p x = false) := fun x hx => by
     rw [List.take_succ_eq_append_getElem hlt, List.mem_append, List.mem_singleton] at hx
     rcases hx with hx | rfl
     ·exact hnot.out x hx
     ·exact hv
    generalize l[k] = y at *
    go_wp2_with (go_at_fn g; refine hcall.mono ?_; rintro e w' ⟨rfl, hb'⟩)
    go_roundw
    case rel => exact ⟨k + 1, by omega, by go_num, HH.out, Below.step hbw hb'⟩
    case measure => simp [intOf]; omega
  ·obtain rfl : k = l.length := by omega
   go_wp2
   go_ret
   exact ⟨dJ (jO (by simpa [Hid] using hnot)).symm, hbw⟩

theorem yX (a : Option Addr) (n cap : Nat) (l : List Cc) (g : Nat) (lb : Array Value) (p : Cc → Bool) (w : World) (hn : l.length = n) (hl : n ≤ 9223372036854775807) (hr : Row w a (flat bW l)) (eg : ∀ args w, (callFunc g args).run Tryz.prog w = .ok (.enter g args) w)
  (hp : ∀ W, Below w.heap.size w W → ∀ x ∈ l, Calls Tryz.prog g (#[.agg (bW x).toArray] ++ lb) W fun e w' => e = .returned (.bool (p x)) ∧ Below W.heap.size W w') :
  Calls Tryz.prog 83 #[.slice a n cap, .func (.func g) #[] lb] w fun e w' => e = .returned (.bool (l.any p)) ∧ Below w.heap.size w w' := by
 go_enter Tryz.func83, Tryz.ntmps83
 go_wp2_with (go_at_call 66; refine (pX _ _ _ l _ _ p _ hn hl hr eg hp).mono ?_; rintro e w' ⟨rfl, hb'⟩)
 go_ret
 exact ⟨aX (fJ p l), hb'⟩

theorem pY (a : Option Addr) (n cap : Nat) (l : List Sl) (g : Nat) (lb : Array Value) (p : Sl → Bool) (w : World) (hn : l.length = n) (hl : n ≤ 9223372036854775807) (hr : Row w a (flat aY l)) (eg : ∀ args w, (callFunc g args).run Tryz.prog w = .ok (.enter g args) w)
  (hp : ∀ W, Below w.heap.size w W → ∀ x ∈ l, Calls Tryz.prog g (#[.agg (aY x).toArray] ++ lb) W fun e w' => e = .returned (.bool (p x)) ∧ Below W.heap.size W w') :
  Calls Tryz.prog 125 #[.slice a n cap, .func (.func g) #[] lb] w fun e w' => e = .returned (.int .i64 (bZ p l)) ∧ Below w.heap.size w w' := by
 subst hn
 go_enter Tryz.func125, Tryz.ntmps125
 go_wp2
 go_loopw [5, 8] (fun _ s8 wr => ∃ k : Nat, k ≤ l.length ∧ s8 = .int .i64 k ∧ Hid (∀ x ∈ l.take k, p x = false) ∧ Below w.heap.size w wr) (fun _ s8 _ => l.length - (intOf s8).toNat)
 case atStart => exact ⟨0, Nat.zero_le _, rfl, by simp [Hid], Below.refl _ _⟩
 case round =>
  obtain ⟨k, hk, rfl, hnot, hbw⟩ := hrel
  by_cases hlt : k < l.length
  ·obtain ⟨b, off, rfl, hb, hc⟩ := aN aK (by decide) (hr.below hbw) hlt
   obtain ⟨hc0, hc1, hc2⟩ := fB hc
   skip
   have hcall := hp wr hbw l[k] (gL hlt)
   clear hr hp hc
   cases hv : p l[k] with
   | true =>
    have HH := gO (kR hlt hv hnot.out)
    rw [hv] at hcall
    generalize l[k] = y at *
    go_wp2_with (go_at_fn g; refine hcall.mono ?_; rintro e w' ⟨rfl, hb'⟩)
    go_ret
    exact ⟨dJ HH.out.symm, Below.step hbw hb'⟩
   | false =>
    rw [hv] at hcall
    have HH : Hid (∀ x ∈ l.take (k + 1), p x = false) := fun x hx => by
     rw [List.take_succ_eq_append_getElem hlt, List.mem_append, List.mem_singleton] at hx
     rcases hx with hx | rfl
     ·exact hnot.out x hx
     ·exact hv
    generalize l[k] = y at *
    go_wp2_with (go_at_fn g; refine hcall.mono ?_; rintro e w' ⟨rfl, hb'⟩)
    go_roundw
    case rel => exact ⟨k + 1, by omega, by go_num, HH.out, Below.step hbw hb'⟩
    case measure => simp [intOf]; omega
  ·obtain rfl : k = l.length := by omega
   go_wp2
   go_ret
   exact ⟨dJ (jO (by simpa [Hid] using hnot)).symm, hbw⟩

theorem yY (a : Option Addr) (n cap : Nat) (l : List Sl) (g : Nat) (lb : Array Value) (p : Sl → Bool) (w : World) (hn : l.length = n) (hl : n ≤ 9223372036854775807) (hr : Row w a (flat aY l)) (eg : ∀ args w, (callFunc g args).run Tryz.prog w = .ok (.enter g args) w)
  (hp : ∀ W, Below w.heap.size w W → ∀ x ∈ l, Calls Tryz.prog g (#[.agg (aY x).toArray] ++ lb) W fun e w' => e = .returned (.bool (p x)) ∧ Below W.heap.size W w') :
  Calls Tryz.prog 76 #[.slice a n cap, .func (.func g) #[] lb] w fun e w' => e = .returned (.bool (l.any p)) ∧ Below w.heap.size w w' := by
 go_enter Tryz.func76, Tryz.ntmps76
 go_wp2_with (go_at_call 125; refine (pY _ _ _ l _ _ p _ hn hl hr eg hp).mono ?_; rintro e w' ⟨rfl, hb'⟩)
 go_ret
 exact ⟨aX (fJ p l), hb'⟩


theorem Qj (x : Sl) (p : Int) (C : Nat) (W : World) (hx : x.p ≤ 1000000) (hp : -1000000 ≤ p ∧ p ≤ 1000000) (hC : C < W.heap.size) (hc : W.cell? ⟨C, 0, none⟩ = some (.int .i64 p)) :
  Calls Tryz.prog 166 (#[.agg (aY x).toArray] ++ #[.pointer (some ⟨C, 0, none⟩)]) W fun ev w' => ev = .returned (.bool (decide ((x.p : Int) = p))) ∧ Below W.heap.size W w' := by
 have hne : C ≠ W.heap.size := by omega
 show Calls Tryz.prog 166 #[.agg #[.int .i64 x.p, .int .i64 x.n, .int .i64 x.h], .pointer (some ⟨C, 0, none⟩)] W _
 go_enter Tryz.func166, Tryz.ntmps166
 go_wp2
 go_ret
 exact ⟨aX (by rw [Bool.eq_iff_iff]; simp only [beq_iff_eq, decide_eq_true_eq]), aC _ _⟩
end
section
open Go.RowKit

def encI (t : Int) : List Value := [vI t]
theorem qA (t : Int) : (encI t).length = 1 := rfl
theorem Jc {w : World} {g o : Nat} {r : Int} (hc : ∀ i v, (encI r)[i]? = some v → w.cell? ⟨g, o + i, none⟩ = some v) : w.cell? ⟨g, o, none⟩ = some (.int .i64 r) := hc 0 _ rfl
theorem kT (l : List Int) : flat encI l = l.map vI := by
 induction l with
 | nil => rfl
 | cons x l ih => rw [dG, ih]; rfl
theorem Jd (a : Option Addr) (n cap : Nat) (l : List Int) (g : Nat) (lb : Array Value) (p : Int → Bool) (w : World) (hn : l.length = n) (hl : n ≤ 9223372036854775807) (hr : Row w a (flat encI l)) (eg : ∀ args w, (callFunc g args).run Tryz.prog w = .ok (.enter g args) w)
  (hp : ∀ W, Below w.heap.size w W → ∀ x ∈ l, Calls Tryz.prog g (#[.int .i64 x] ++ lb) W fun e w' => e = .returned (.bool (p x)) ∧ Below W.heap.size W w') :
  Calls Tryz.prog 156 #[.slice a n cap, .func (.func g) #[] lb] w fun e w' => e = .returned (.int .i64 (bZ p l)) ∧ Below w.heap.size w w' := by
 subst hn
 go_enter Tryz.func156, Tryz.ntmps156
 go_wp2
 go_loopw [5, 8] (fun _ s8 wr => ∃ k : Nat, k ≤ l.length ∧ s8 = .int .i64 k ∧ Hid (∀ x ∈ l.take k, p x = false) ∧ Below w.heap.size w wr) (fun _ s8 _ => l.length - (intOf s8).toNat)
 case atStart => exact ⟨0, Nat.zero_le _, rfl, by simp [Hid], Below.refl _ _⟩
 case round =>
  obtain ⟨k, hk, rfl, hnot, hbw⟩ := hrel
  by_cases hlt : k < l.length
  ·obtain ⟨b, off, rfl, hb, hc⟩ := aN qA (by decide) (hr.below hbw) hlt
   obtain hc0 := Jc hc
   rw [Nat.mul_one] at hc0
   have hcall := hp wr hbw l[k] (gL hlt)
   clear hr hp hc
   cases hv : p l[k] with
   | true =>
    have HH := gO (kR hlt hv hnot.out)
    rw [hv] at hcall
    generalize l[k] = y at *
    go_wp2_with (go_at_fn g; refine hcall.mono ?_; rintro e w' ⟨rfl, hb'⟩)
    go_ret
    exact ⟨dJ HH.out.symm, Below.step hbw hb'⟩
   | false =>
    rw [hv] at hcall
    have HH : Hid (∀ x ∈ l.take (k + 1), p x = false) := fun x hx => by
     rw [List.take_succ_eq_append_getElem hlt, List.mem_append, List.mem_singleton] at hx
     rcases hx with hx | rfl
     ·exact hnot.out x hx
     ·exact hv
    generalize l[k] = y at *
    go_wp2_with (go_at_fn g; refine hcall.mono ?_; rintro e w' ⟨rfl, hb'⟩)
    go_roundw
    case rel => exact ⟨k + 1, by omega, by go_num, HH.out, Below.step hbw hb'⟩
    case measure => simp [intOf]; omega
  ·obtain rfl : k = l.length := by omega
   go_wp2
   go_ret
   exact ⟨dJ (jO (by simpa [Hid] using hnot)).symm, hbw⟩

theorem Bg (a : Option Addr) (n cap : Nat) (l : List Int) (g : Nat) (lb : Array Value) (p : Int → Bool) (w : World) (hn : l.length = n) (hl : n ≤ 9223372036854775807) (hr : Row w a (flat encI l)) (eg : ∀ args w, (callFunc g args).run Tryz.prog w = .ok (.enter g args) w)
  (hp : ∀ W, Below w.heap.size w W → ∀ x ∈ l, Calls Tryz.prog g (#[.int .i64 x] ++ lb) W fun e w' => e = .returned (.bool (p x)) ∧ Below W.heap.size W w') :
  Calls Tryz.prog 110 #[.slice a n cap, .func (.func g) #[] lb] w fun e w' => e = .returned (.bool (l.any p)) ∧ Below w.heap.size w w' := by
 go_enter Tryz.func110, Tryz.ntmps110
 go_wp2_with (go_at_call 156; refine (Jd _ _ _ l _ _ p _ hn hl hr eg hp).mono ?_; rintro e w' ⟨rfl, hb'⟩)
 go_ret
 exact ⟨aX (fJ p l), hb'⟩


set_option maxRecDepth 100000 in
theorem Ll (y : Cc) (p : Int) (w : World) (hy : IZ w y) (hn : y.n2 ≤ 1000000) (hs : ∀ x ∈ y.c.sl, x.p ≤ 1000000) (hp : -1000000 ≤ p ∧ p ≤ 1000000) :
  Calls Tryz.prog 131 #[.agg #[.slice y.a1 y.n1 y.c1, .int .i64 y.c.z, .int .i64 y.c.r, .int .i64 y.c.o, .slice y.a2 y.n2 y.c2, .slice y.a3 y.n3 y.c3], .int .i64 p] w fun ev w' => ev = .returned (.int .i64 (bZ (fun x => decide ((x.p : Int) = p)) y.c.sl)) ∧ Below w.heap.size w w' := by
 have eg : ∀ args w, (callFunc 166 args).run Tryz.prog w = .ok (.enter 166 args) w := enters_of Tryz.func166 (by kernel_rfl) rfl
 have hb1 := aC w (.cells #[.slice y.a1 y.n1 y.c1, .int .i64 (y.c.z : Int), .int .i64 (y.c.r : Int), .int .i64 (y.c.o : Int), .slice y.a2 y.n2 y.c2, .slice y.a3 y.n3 y.c3] 94)
 obtain ⟨K1, K2, F1, F2, hsz, hbw⟩ := boxes2 w #[.slice y.a1 y.n1 y.c1, .int .i64 (y.c.z : Int), .int .i64 (y.c.r : Int), .int .i64 (y.c.o : Int), .slice y.a2 y.n2 y.c2, .slice y.a3 y.n3 y.c3] 94 #[.int .i64 p] 3
 have k4 := K1 4
 have p0 := K2 0
 simp only [gB, gC, gD] at k4 p0
 have HC := gO (pY y.a2 y.n2 y.c2 y.c.sl 166 #[.pointer (some ⟨w.heap.size + 1, 0, none⟩)] (fun x => decide ((x.p : Int) = p)) _ hy.l2 (by omega) (hy.r2.below hbw) eg (fun W hW x hx => Qj x p (w.heap.size + 1) W (hs x hx) hp (gI hsz hW.size) ((hW.cell (p := ⟨w.heap.size + 1, 0, none⟩) hsz).trans p0)))
 have HB := gO hbw
 clear eg hb1 K1 K2 F1 F2 hbw hy hs
 go_enter Tryz.func131, Tryz.ntmps131
 go_wp2_with (go_at_call 125; refine HC.out.mono ?_; rintro e w' ⟨rfl, hb'⟩)
 go_ret
 exact ⟨rfl, Below.step HB.out hb'⟩

set_option maxRecDepth 100000 in
set_option maxHeartbeats 4000000 in
theorem Nz (y : Cc) (x : Sl) (a : Int) (B C : Nat) (W : World) (hz : 1 ≤ y.c.z) (hrz : y.c.r * y.c.z ≤ 100000) (hp : x.p ≤ 1000) (ha1 : -1000000000000 ≤ a) (ha2 : a ≤ 1000000000000)
  (hB : B < W.heap.size) (hC : C < W.heap.size) (kB : ∀ o, W.cell? ⟨B, o, none⟩ = (#[.slice y.a1 y.n1 y.c1, .int .i64 (y.c.z : Int), .int .i64 (y.c.r : Int), .int .i64 (y.c.o : Int), .slice y.a2 y.n2 y.c2, .slice y.a3 y.n3 y.c3] : Array Value)[o]?) (kC : ∀ o, W.cell? ⟨C, o, none⟩ = (#[.int .i64 (x.p : Int), .int .i64 (x.n : Int), .int .i64 x.h] : Array Value)[o]?) :
  Calls Tryz.prog 141 (#[.int .i64 a] ++ #[.pointer (some ⟨B, 0, none⟩), .pointer (some ⟨C, 0, none⟩)]) W fun ev w' => ev = .returned (.bool (!iH y.c x.p a)) ∧ Below W.heap.size W w' := by
 show Calls Tryz.prog 141 #[.int .i64 a, .pointer (some ⟨B, 0, none⟩), .pointer (some ⟨C, 0, none⟩)] W _
 have b0 := kB 0
 have b1 := kB 1
 have b2 := kB 2
 have b3 := kB 3
 have b4 := kB 4
 have b5 := kB 5
 have c0 := kC 0
 simp only [gB, gC, gD] at b0 b1 b2 b3 b4 b5 c0
 have HC := gO (yV y.c y.a1 y.a2 y.a3 y.n1 y.c1 y.n2 y.c2 y.n3 y.c3 x.p a W hz hrz hp ha1 ha2)
 clear kB kC
 go_enter Tryz.func141, Tryz.ntmps141
 go_wp2_with (go_at_call 90; refine HC.out.mono ?_; rintro e w' ⟨rfl, hb'⟩)
 go_ret
 exact ⟨rfl, hb'⟩
end
section
theorem UN {k : Nat} : dW k * k ≤ 64 := by
 unfold dW
 refine gQ (Nat.div_mul_le_self _ _) ?_
 have : dR k ≤ 2 := by unfold dR; split <;> (try split) <;> omega
 rcases (show dR k = 0 ∨ dR k = 1 ∨ dR k = 2 by omega) with h | h | h <;> rw [h] <;> decide
theorem xY (xs : List Int) (most : Int) : ∀ (f : Nat) (p : Int) (out l : List Int), (out.length : Int) ≤ most → gU xs most f p out = some l → (l.length : Int) ≤ most
 | 0, _, _, _, _, h => by simp [gU] at h
 | f + 1, p, out, l, ho, h => by
  unfold gU at h
  split at h
  ·rw [← gP h]; exact ho
  ·split at h
   ·cases h
   ·rename_i h2
    refine xY xs most f _ _ l ?_ h
    simp only [List.length_append, List.length_cons, List.length_nil]
    have : ¬ (most ≤ (out.length : Int)) := fun h3 => h2 (.inl h3)
    omega
theorem JB {xs : List Int} {p most : Int} {l : List Int} (hm : 0 ≤ most) (h : follow xs p most = some l) : (l.length : Int) ≤ most := xY xs most _ p [] l (by simpa using hm) h
theorem oM.rz {s : Sy} {c : Ca} (h : oM s c) : c.r * c.z ≤ 64 := by rw [h.r]; exact UN
theorem oM.r64 {s : Sy} {c : Ca} (h : oM s c) : c.r ≤ 64 := gQ (Nat.le_mul_of_pos_right _ h.z.1) h.rz
theorem pG.zW {s : Sy} {c : Ca} {x : Sl} (h : pG s c x) (hk : dX s.h) : x.p < 256 := by
 obtain ⟨b, hb, h1, _⟩ := h.live
 have := (hk.lv b hb).1.2.2.1
 omega
theorem pG.Gv {s : Sy} {c : Ca} {x : Sl} (h : pG s c x) : x.n ≤ c.r := by
 obtain ⟨l, h1, h2, _⟩ := h.chain
 have := JB (by omega) h1
 omega
theorem qW {c : Ca} {p : Nat} {a : Int} (h : iH c p a = true) : 16 * (p : Int) ≤ a ∧ a < 16 * p + c.r * c.z ∧ (a - 16 * p) % c.z = 0 := by
 have := of_decide_eq_true h
 omega
theorem CX : ∀ {l : List Sl} {k N : Nat}, (l.Pairwise fun a b => a.p < b.p) → (∀ x ∈ l, k ≤ x.p ∧ x.p < N) → l.length + k ≤ N ∨ l = []
 | [], _, _, _, _ => .inr rfl
 | c :: m, k, N, q1, q2 => by
  have q3 := List.pairwise_cons.1 q1
  have q4 := q2 c (by simp)
  rcases CX (k := c.p + 1) (N := N) q3.2 fun x hx => ⟨q3.1 x hx, (q2 x (by simp [hx])).2⟩ with q5 | rfl
  ·simp only [List.length_cons]; exact .inl (by omega)
  ·simp only [List.length_cons, List.length_nil]; exact .inl (by omega)
theorem oM.kV {s : Sy} {c : Ca} (h : oM s c) (hk : dX s.h) : c.sl.length ≤ 256 := by
 rcases CX (k := 0) (N := 256) h.sr fun x hx => ⟨Nat.zero_le _, (h.sk x hx).zW hk⟩ with h1 | h1
 ·omega
 ·rw [h1]; exact Nat.zero_le _
end
section
def Link (xs : List Int) : Int → List Int → Prop
 | p, [] => p = -1
 | p, a :: m => p = a ∧ Link xs (xs.getD a.toNat 0) m
theorem MB {n : Nat} {p : Int} : TS n p 1 = true ↔ 0 ≤ p ∧ p < n := by
 unfold TS
 simp only [decide_eq_true_eq]
 omega
theorem vH {xs : List Int} {most : Int} : ∀ (f : Nat) (p : Int) (out l : List Int), gU xs most f p out = some l → ∃ m, l = out ++ m ∧ Link xs p m ∧ (∀ a ∈ m, 0 ≤ a ∧ a < xs.length) ∧ (m ≠ [] → (l.length : Int) ≤ most) ∧ (out.Nodup → l.Nodup)
 | 0, _, _, _, h => by simp [gU] at h
 | f + 1, p, out, l, h => by
  unfold gU at h
  split at h
  ·rename_i hp
   obtain rfl := gP h
   exact ⟨[], by simp, hp, by simp, by simp, id⟩
  ·rename_i hp
   split at h
   ·cases h
   ·rename_i hn
    simp only [not_or, Bool.not_eq_false, Bool.not_eq_true] at hn
    obtain ⟨h1, h2, h3⟩ := hn
    obtain ⟨m, hm, hl, hr, hb, hd⟩ := vH f _ _ l h
    have hpr := MB.1 h2
    refine ⟨p :: m, by rw [hm]; simp, ⟨rfl, hl⟩, fun a ha => ?_, fun _ => ?_, fun ho => hd ?_⟩
    ·rcases List.mem_cons.1 ha with rfl | ha
     ·exact hpr
     ·exact hr a ha
    ·by_cases hme : m = []
     ·subst hme
      rw [hm]
      simp
      omega
     ·exact hb hme
    ·rw [List.nodup_append]
     refine ⟨ho, by simp, fun a ha b hb' e => ?_⟩
     simp only [List.mem_singleton] at hb'
     subst hb' e
     unfold rY at h3
     rw [List.contains_iff_mem.2 ha] at h3
     cases h3
theorem vJ {xs : List Int} {most : Int} : ∀ (m : List Int) (p : Int) (out : List Int) (f : Nat), Link xs p m → (∀ a ∈ m, 0 ≤ a ∧ a < xs.length) → (m ≠ [] → ((out ++ m).length : Int) ≤ most) → (out ++ m).Nodup → m.length + 1 ≤ f → gU xs most f p out = some (out ++ m)
 | [], p, out, f + 1, hl, _, _, _, _ => by
  unfold gU
  rw [if_pos (show p = -1 from hl), List.append_nil]
 | a :: m, p, out, f + 1, ⟨hp, hl⟩, hr, hb, hd, hf => by
  subst hp
  have hpr := hr p (by simp)
  have hb1 := hb (by simp)
  unfold gU
  rw [if_neg (by omega), if_neg, vJ m _ (out ++ [p]) f hl (fun a ha => hr a (List.mem_cons_of_mem _ ha)) (fun _ => by simpa using hb1) (by simpa using hd) (by simpa using hf)]
  ·simp
  ·simp only [not_or, Bool.not_eq_false, Bool.not_eq_true]
   refine ⟨by simp at hb1; omega, MB.2 hpr, ?_⟩
   unfold rY
   rw [← Bool.not_eq_true, List.contains_iff_mem]
   intro hm
   rw [List.nodup_append] at hd
   exact hd.2.2 p hm p (by simp) rfl
 | [], _, _, 0, _, _, _, _, h => by simp at h
 | _ :: _, _, _, 0, _, _, _, _, h => by simp at h
theorem fV {xs : List Int} {p most : Int} {l : List Int} : follow xs p most = some l ↔ Link xs p l ∧ (∀ a ∈ l, 0 ≤ a ∧ a < xs.length) ∧ (l ≠ [] → (l.length : Int) ≤ most) ∧ l.Nodup := by
 constructor
 ·intro h
  obtain ⟨m, hm, h1, h2, h3, h4⟩ := vH _ _ _ _ h
  simp only [List.nil_append] at hm
  subst hm
  exact ⟨h1, h2, h3, h4 (by simp)⟩
 ·rintro ⟨h1, h2, h3, h4⟩
  have h5 := yS xs.length l h4 h2
  exact vJ l p [] _ h1 h2 (by simpa using h3) (by simpa using h4) (by omega)
theorem Link.move {xs ys : List Int} : ∀ {m : List Int} {p : Int}, Link xs p m → (∀ a ∈ m, ys.getD a.toNat 0 = xs.getD a.toNat 0) → Link ys p m
 | [], _, h, _ => h
 | a :: m, _, ⟨h1, h2⟩, he => ⟨h1, by rw [he a (by simp)]; exact h2.move fun b hb => he b (List.mem_cons_of_mem _ hb)⟩

theorem pG.move {s s' : Sy} {c c' : Ca} {x : Sl} (h : pG s c x) (hz : c'.z = c.z) (hr : c'.r = c.r) (ho : c'.o = c.o) (hl : ∀ b ∈ s.h.live, b ∈ s'.h.live) (hw : s'.w.length = s.w.length) (hs : ∀ a : Int, iH c x.p a = true → s'.w.getD a.toNat 0 = s.w.getD a.toNat 0) : pG s' c' x := by
 obtain ⟨b, hb, h1, h2⟩ := h.live
 obtain ⟨l, h3, h4, h5⟩ := h.chain
 refine ⟨⟨b, hl b hb, h1, by rw [ho]; exact h2⟩, l, ?_, h4, fun a ha => ?_⟩
 ·rw [hr]
  rw [fV] at h3 ⊢
  rw [hw]
  exact ⟨h3.1.move fun a ha => hs a (h5 a ha), h3.2⟩
 ·have h6 := h5 a ha
  unfold iH at h6 ⊢
  rw [hz, hr]
  exact h6
theorem oM.move {s s' : Sy} {c : Ca} (h : oM s c) (hc : s'.h.aF = s.h.aF) (hs : ∀ x ∈ c.sl, pG s' c x) : oM s' c :=
 ⟨h.z, h.o, h.r, h.ns, h.nm, h.nr, by rw [hc]; exact h.ac, h.sr, hs, h.aw, h.ad⟩
theorem dM.upd {s s' : Sy} (hk : dM s) {i : Nat} {c c' : Ca} (hi : s.cs[i]? = some c) (hw : s'.w.length = 4096) (hh : dX s'.h) (hcs : s'.cs = s.cs.set i c') (hz : c'.z = c.z) (hn : c'.ns = c.ns) (hc : oM s' c') (ho : ∀ d ∈ s.cs, oM s' d)
  (hp : ∀ x ∈ c'.sl, (∃ y ∈ c.sl, y.p = x.p) ∨ ∀ d ∈ s.cs, ∀ y ∈ d.sl, y.p ≠ x.p) : dM s' := by
 obtain ⟨hil, hic⟩ := List.getElem?_eq_some_iff.1 hi
 have key : ∀ {R : Ca → Ca → Prop}, s.cs.Pairwise R → (∀ j (hj : j < s.cs.length), j < i → R s.cs[j] c → R s.cs[j] c') → (∀ j (hj : j < s.cs.length), i < j → R c s.cs[j] → R c' s.cs[j]) → s'.cs.Pairwise R := fun {R} h1 h2 h3 => by
  rw [hcs]
  rw [gN] at h1 ⊢
  intro j k hj hk' hjk
  rw [List.length_set] at hj hk'
  have h4 := h1 j k hj hk' hjk
  rw [List.getElem_set, List.getElem_set]
  split
  ·rename_i e
   subst e
   rw [if_neg (by omega)]
   exact h3 k hk' hjk (by rw [← hic]; exact h4)
  ·split
   ·rename_i e
    subst e
    exact h2 j hj hjk (by rw [← hic]; exact h4)
   ·exact h4
 refine ⟨hw, hh, by rw [hcs, List.length_set]; exact hk.cl, fun d hd => ?_, key hk.zd (fun _ _ _ h => by rw [hz]; exact h) (fun _ _ _ h => by rw [hz]; exact h), key hk.nd (fun _ _ _ h => by rw [hn]; exact h) (fun _ _ _ h => by rw [hn]; exact h), key hk.pd (fun j hj _ h x hx y hy => ?_) (fun j hj _ h x hx y hy => ?_)⟩
 ·rw [hcs] at hd
  rcases List.mem_or_eq_of_mem_set hd with h | rfl
  ·exact ho d h
  ·exact hc
 ·rcases hp y hy with ⟨y', hy', e⟩ | h'
  ·rw [← e]
   exact h x hx y' hy'
  ·exact h' _ (gL hj) x hx
 ·rcases hp x hx with ⟨x', hx', e⟩ | h'
  ·rw [← e]
   exact h x' hx' y hy
  ·exact fun e => h' _ (gL hj) y hy e.symm
end
section
open Go.RowKit

def aBu (b : Bt) (p : Nat) : Bool := dV b.m p && !dV b.r p
def iT (b : Bt) : List Rg := jX (aBu b)

set_option maxHeartbeats 2000000 in
set_option maxRecDepth 100000 in
theorem OL (a1 a2 : Option Addr) (n1 n2 c1 c2 : Nat) (b : Bt) (w : World) (hat : JX w a1 a2 n1 n2 b) (h1 : dU b.m = true) (h2 : dU b.r = true) :
  Calls Tryz.prog 56 #[.agg #[.slice a1 n1 c1, .slice a2 n2 c2]] w fun e w' => ∃ a' c', e = .returned (.tuple #[.slice a' (iT b).length c', .int .i64 0]) ∧ w'.ownsRow w.heap.size 55 2 (.slice a' (iT b).length c') (iT b).length (flat iO (iT b)) ∧ Below w.heap.size w w' := by
 have hb1 := tJ h1
 have hb2 := tJ h2
 obtain ⟨K0, F0, hsz, hbw⟩ := boxes1 w #[.slice a1 n1 c1, .slice a2 n2 c2] 27
 obtain ⟨l1, l2, q1, q2⟩ := hat.below hbw
 have aBv := o7 h1
 have aBw := o7 h2
 have hok1 := mO h1
 have hok2 := mO h2
 generalize hF : iT b = F
 have HF := gO hF
 clear hat hF
 go_enter Tryz.func56, Tryz.ntmps56
 go_wp2_with fail
 generalize w.alloc (.cells #[.slice a1 n1 c1, .slice a2 n2 c2] 27) = w0 at *
 refine (vN _ _ _ _ _ _ b.m b.r _ l1 l2 (by omega) (by omega) q1 q2 aBv aBw h1 h2).mono ?_
 rintro e w1 ⟨rfl, hb1'⟩
 have K0a := aB K0 hsz hb1'
 have q1a := q1.below hb1'
 have q2a := q2.below hb1'
 have sG := Below.step hbw hb1'
 have hsz1 : w.heap.size < w1.heap.size := gI hsz hb1'.size
 clear K0 F0 q1 q2 aBv aBw hb1' h1 h2
 have LK0 : ∀ W, Below w1.heap.size w1 W → ∀ o, W.cell? ⟨w.heap.size, o, none⟩ = (#[.slice a1 n1 c1, .slice a2 n2 c2] : Array Value)[o]? := fun W h o => aB K0a hsz1 h o
 go_upto_region 4 with fail
 go_cut [5, 6] (fun s5 s6 wx => ∃ (g5 g6 : Nat) (c5 c6 : Nat), s5 = .slice (some ⟨g5, 0, none⟩) 256 c5 ∧ s6 = .slice (some ⟨g6, 0, none⟩) 256 c6 ∧ wx.ownsRow w1.heap.size 4 1 (.slice (some ⟨g5, 0, none⟩) 256 c5) 256 ((bl (dV b.m)).map vB) ∧ wx.ownsRow w1.heap.size 4 1 (.slice (some ⟨g6, 0, none⟩) 256 c6) 256 ((bl (dV b.r)).map vB) ∧ g5 ≠ g6 ∧ Below w1.heap.size w1 wx)
 case first =>
  go_region_held3 (fun W => Below w1.heap.size w1 W) ((repeat (first | assumption | exact Below.refl _ _ | apply Below.drew | refine Below.step ?_ (by assumption)))) (first | (go_at_call_of 101 (Value.slice a1 n1 c1); refine (Di _ _ _ b.m _ l1 (q1a.below (by assumption)) hok1 (by omega)).mono ?_; rintro e wm ⟨am, cm, rfl, yJ, hbm⟩) | (go_at_call_of 101 (Value.slice a2 n2 c2); refine (Di _ _ _ b.r _ l2 (q2a.below (by assumption)) hok2 (by omega)).mono ?_; rintro e wr ⟨ar, cr, rfl, hor, hbr⟩))
  all_goals (go_wp2_with fail; go_meet)
  ·obtain ⟨g5, _, rfl, hg5, hs5, _, _⟩ := dZ yJ 0 (by rw [List.length_map, jD]; omega)
   obtain ⟨g6, _, rfl, hg6, hs6, _, _⟩ := dZ hor 0 (by rw [List.length_map, jD]; omega)
   exact ⟨g5, g6, cm, cr, rfl, rfl, own_base (own_below yJ hbr (Nat.le_refl _)) (Nat.le_refl _), own_base hor (by have := hbm.size; simpa using this), by omega, by assumption⟩
 case rest =>
  obtain ⟨g5, g6, c5, c6, rfl, rfl, ho5, ho6, hne, hbx⟩ := hcut
  have hbw2 := Below.step sG hbx
  have HO5 := gO ho5
  have HO6 := gO ho6
  clear LK0 K0a q1a q2a hok1 hok2 ho5 ho6
  go_wp2
  go_loopw [7, 21] (fun _ s21 wq => ∃ i : Nat, i ≤ 256 ∧ s21 = .int .i64 i ∧ Hid (wq.ownsRow w1.heap.size 4 1 (.slice (some ⟨g5, 0, none⟩) 256 c5) 256 ((bl (fun p => dV b.m p && !(decide (p < i) && dV b.r p))).map vB)) ∧ Hid (wq.ownsRow w1.heap.size 4 1 (.slice (some ⟨g6, 0, none⟩) 256 c6) 256 ((bl (dV b.r)).map vB)) ∧ Below w.heap.size w wq) (fun _ s21 _ => 256 - (intOf s21).toNat)
  case atStart =>
   refine ⟨0, by omega, rfl, ?_, HO6, hbw2⟩
   rw [show bl (fun p => dV b.m p && !(decide (p < 0) && dV b.r p)) = bl (dV b.m) from qJ fun p _ => by simp]
   exact HO5
  case round =>
   obtain ⟨i, hi, rfl, hown5, hown6, hb3⟩ := hrel
   clear HO5 HO6
   by_cases hlt : i < 256
   ·obtain ⟨b5, off5, e5, hb5, hc5⟩ := ED (aW hown5.out) hlt
    obtain ⟨rfl, rfl⟩ : g5 = b5 ∧ 0 = off5 := by simpa using e5
    obtain ⟨b6, off6, e6, hb6, hc6⟩ := ED (aW hown6.out) hlt
    obtain ⟨rfl, rfl⟩ : g6 = b6 ∧ 0 = off6 := by simpa using e6
    obtain ⟨g, v, eg, hg, hgs, hcg, hfg⟩ := dZ hown5.out i (by rw [List.length_map, jD]; omega)
    obtain rfl : g5 = g := by simpa using eg
    rw [decide_eq_false (show ¬ i < i by omega), Bool.false_and, Bool.not_false, Bool.and_true, Nat.zero_add] at hc5
    rw [Nat.zero_add] at hc6
    have HN : Hid (∀ v, v = (dV b.m i && !dV b.r i) → ((wr.setCell ⟨g5, i, none⟩ (.bool v)).ownsRow w1.heap.size 4 1 (.slice (some ⟨g5, 0, none⟩) 256 c5) 256 ((bl (fun p => dV b.m p && !(decide (p < i + 1) && dV b.r p))).map vB))) := fun v hv => by
     have h := (World.ownsRow.stored hown5.out i (vB v)).1
     rw [← List.map_set, Sr] at h
     rw [show bl (fun p => dV b.m p && !(decide (p < i + 1) && dV b.r p)) = bl (fun p => if p = i then v else dV b.m p && !(decide (p < i) && dV b.r p)) from qJ fun p _ => by
      by_cases e : p = i
      ·subst e
       rw [if_pos rfl, hv, decide_eq_true (Nat.lt_succ_self p), Bool.true_and]
      ·rw [if_neg e, decide_eq_decide.2 (show p < i + 1 ↔ p < i by omega)]]
     exact h
    have HM : Hid (∀ v, ((wr.setCell ⟨g5, i, none⟩ (.bool v)).ownsRow w1.heap.size 4 1 (.slice (some ⟨g6, 0, none⟩) 256 c6) 256 ((bl (dV b.r)).map vB))) := fun v => bJ hown6.out (by simp [Value.ownBlock]; exact fun h => hne h.symm) _
    have hz := sG.size
    clear hown5 hown6 hcg e5 e6 eg
    cases hm : dV b.m i with
    | false =>
     rw [hm] at hc5
     go_wp2
     go_roundw
     case rel => exact ⟨i + 1, by omega, by go_num, HN.out _ (by rw [hm]; rfl), HM.out _, hb3.setCell (by simp only; omega) _⟩
     case measure => simp [intOf]; omega
    | true =>
     rw [hm] at hc5
     cases hr : dV b.r i with
     | false =>
      rw [hr] at hc6
      go_wp2
      go_roundw
      case rel => exact ⟨i + 1, by omega, by go_num, HN.out _ (by rw [hm, hr]; rfl), HM.out _, hb3.setCell (by simp only; omega) _⟩
      case measure => simp [intOf]; omega
     | true =>
      rw [hr] at hc6
      go_wp2
      go_roundw
      case rel => exact ⟨i + 1, by omega, by go_num, HN.out _ (by rw [hm, hr]; rfl), HM.out _, hb3.setCell (by simp only; omega) _⟩
      case measure => simp [intOf]; omega
   ·obtain rfl : i = 256 := by omega
    have hrow := aW hown5.out
    clear hown5 hown6
    go_wp2_with fail
    refine (Ht _ _ _ _ hrow).mono ?_
    rw [show jX (fun p => dV b.m p && !(decide (p < 256) && dV b.r p)) = F from by
     rw [← HF.out]
     exact yL fun p hp => by rw [decide_eq_true hp, Bool.true_and]; rfl]
    rintro e w5 ⟨a', c', rfl, hown5, hb6⟩
    have H5 := gO (own_base hown5 hb3.size)
    clear hown5
    go_wp2
    go_ret2
    exact ⟨a', c', rfl, H5.out, Below.step hb3 hb6⟩
end
end Go.Proofs.YtcmpmobhongkiaaGreatDoor
