/- Sb2: texts of this claim, joined. -/
import Derived.Test.YtkcaheebaicinaaGreatDoorSN20
/- Contracts of package slab: name; the library's functions over bytes. -/
namespace Go.Proofs.YtkcaheebaicinaaGreatDoor
open Go.RowKit
set_option linter.unusedVariables false

def encU (c : UInt8) : List Value := [.int .u8 (c.toNat : Int)]
theorem encU_length (c : UInt8) : (encU c).length = 1 := rfl
theorem encU_cells {w : World} {g o : Nat} {r : UInt8} (hc : ∀ i v, (encU r)[i]? = some v → w.cell? ⟨g, o + i, none⟩ = some v) : w.cell? ⟨g, o, none⟩ = some (.int .u8 (r.toNat : Int)) := hc 0 _ rfl
/-- slices.IndexFunc at byte, with a predicate that may lay blocks of its own -/
theorem indexFuncU (a : Option Addr) (n cap : Nat) (l : List UInt8) (g : Nat) (lb : Array Value) (p : UInt8 → Bool) (w : World) (hn : l.length = n) (hl : n ≤ 9223372036854775807) (hr : Row w a (flat encU l)) (eg : ∀ args w, (callFunc g args).run Tryz.prog w = .ok (.enter g args) w)
    (hp : ∀ W, Below w.heap.size w W → ∀ x ∈ l, Calls Tryz.prog g (#[.int .u8 (x.toNat : Int)] ++ lb) W fun e w' => e = .returned (.bool (p x)) ∧ Below W.heap.size W w') :
    Calls Tryz.prog 96 #[.slice a n cap, .func (.func g) #[] lb] w fun e w' => e = .returned (.int .i64 (findI p l)) ∧ Below w.heap.size w w' := by
  subst hn
  go_enter Tryz.func96, Tryz.ntmps96
  go_wp2
  go_loopw [5, 8] (fun _ s8 wr => ∃ k : Nat, k ≤ l.length ∧ s8 = .int .i64 k ∧ Hid (∀ x ∈ l.take k, p x = false) ∧ Below w.heap.size w wr) (fun _ s8 _ => l.length - (intOf s8).toNat)
  case atStart => exact ⟨0, Nat.zero_le _, rfl, by simp [Hid], Below.refl _ _⟩
  case round =>
    obtain ⟨k, hk, rfl, hnot, hbw⟩ := hrel
    by_cases hlt : k < l.length
    · obtain ⟨b, off, rfl, hb, hc⟩ := row_elem encU_length (by decide) (hr.below hbw) hlt
      obtain hc0 := encU_cells hc
      rw [Nat.mul_one] at hc0
      have hcall := hp wr hbw l[k] (List.getElem_mem hlt)
      clear hr hp hc
      cases hv : p l[k] with
      | true =>
        have HH := Hid.mk (findI_hit hlt hv hnot.out)
        rw [hv] at hcall
        generalize l[k] = y at *
        go_wp2_with (go_at_fn g; refine hcall.mono ?_; rintro e w' ⟨rfl, hb'⟩)
        go_ret
        exact ⟨ret_int HH.out.symm, Below.step hbw hb'⟩
      | false =>
        rw [hv] at hcall
        have HH : Hid (∀ x ∈ l.take (k + 1), p x = false) := fun x hx => by
          rw [List.take_succ_eq_append_getElem hlt, List.mem_append, List.mem_singleton] at hx
          rcases hx with hx | rfl
          · exact hnot.out x hx
          · exact hv
        generalize l[k] = y at *
        go_wp2_with (go_at_fn g; refine hcall.mono ?_; rintro e w' ⟨rfl, hb'⟩)
        go_roundw
        case rel => exact ⟨k + 1, by omega, by go_num, HH.out, Below.step hbw hb'⟩
        case measure => simp [intOf]; omega
    · obtain rfl : k = l.length := by omega
      go_wp2
      go_ret
      exact ⟨ret_int (findI_miss (by simpa [Hid] using hnot)).symm, hbw⟩

/-- slices.ContainsFunc at byte -/
theorem containsFuncU (a : Option Addr) (n cap : Nat) (l : List UInt8) (g : Nat) (lb : Array Value) (p : UInt8 → Bool) (w : World) (hn : l.length = n) (hl : n ≤ 9223372036854775807) (hr : Row w a (flat encU l)) (eg : ∀ args w, (callFunc g args).run Tryz.prog w = .ok (.enter g args) w)
    (hp : ∀ W, Below w.heap.size w W → ∀ x ∈ l, Calls Tryz.prog g (#[.int .u8 (x.toNat : Int)] ++ lb) W fun e w' => e = .returned (.bool (p x)) ∧ Below W.heap.size W w') :
    Calls Tryz.prog 56 #[.slice a n cap, .func (.func g) #[] lb] w fun e w' => e = .returned (.bool (l.any p)) ∧ Below w.heap.size w w' := by
  go_enter Tryz.func56, Tryz.ntmps56
  go_wp2_with (go_at_call 96; refine (indexFuncU _ _ _ l _ _ p _ hn hl hr eg hp).mono ?_; rintro e w' ⟨rfl, hb'⟩)
  go_ret
  exact ⟨ret_bool (findI_nonneg p l), hb'⟩


/-- a letter or a digit that a name may not have -/
def badC (c : UInt8) : Bool := !(decide ((97 ≤ c ∧ c ≤ 122) ∨ (48 ≤ c ∧ c ≤ 57)))
theorem badC_nat (c : UInt8) : badC c = !(decide ((97 ≤ c.toNat ∧ c.toNat ≤ 122) ∨ (48 ≤ c.toNat ∧ c.toNat ≤ 57))) := by
  unfold badC
  simp only [UInt8.le_iff_toNat_le]
  rfl
theorem nameB_iff (l : List UInt8) : nameB l = (decide (0 < l.length ∧ l.length ≤ 8) && !(l.any badC)) := by
  unfold nameB badC
  rw [List.not_any_eq_all_not]
  simp
set_option maxRecDepth 100000 in
theorem nameC_ok (c : UInt8) (w : World) :
    Calls Tryz.prog 57 (#[.int .u8 (c.toNat : Int)] ++ #[]) w fun ev w' => ev = .returned (.bool (badC c)) ∧ Below w.heap.size w w' := by
  show Calls Tryz.prog 57 #[.int .u8 (c.toNat : Int)] w _
  rw [badC_nat]
  generalize c.toNat = n
  by_cases h1 : n < 97
  · by_cases h2 : n < 48
    · go_enter Tryz.func57, Tryz.ntmps57
      go_wp2
      go_ret
      exact ⟨ret_bool (by rw [Bool.eq_iff_iff]; simp <;> omega), Below.refl _ _⟩
    · by_cases h3 : 57 < n
      · go_enter Tryz.func57, Tryz.ntmps57
        go_wp2
        go_ret
        exact ⟨ret_bool (by rw [Bool.eq_iff_iff]; simp <;> omega), Below.refl _ _⟩
      · go_enter Tryz.func57, Tryz.ntmps57
        go_wp2
        go_ret
        exact ⟨ret_bool (by rw [Bool.eq_iff_iff]; simp <;> omega), Below.refl _ _⟩
  · by_cases h4 : 122 < n
    · have h5 : 57 < n := by omega
      have h6 : ¬ n < 48 := by omega
      go_enter Tryz.func57, Tryz.ntmps57
      go_wp2
      go_ret
      exact ⟨ret_bool (by rw [Bool.eq_iff_iff]; simp <;> omega), Below.refl _ _⟩
    · go_enter Tryz.func57, Tryz.ntmps57
      go_wp2
      go_ret
      exact ⟨ret_bool (by rw [Bool.eq_iff_iff]; simp <;> omega), Below.refl _ _⟩

set_option maxRecDepth 100000 in
theorem nameS_ok (l : List UInt8) (w : World) (hl : l.length ≤ 1000000) :
    Calls Tryz.prog 23 #[sV l] w fun ev w' => ev = .returned (.bool (nameB l)) ∧ Below w.heap.size w w' := by
  rw [nameB_iff]
  unfold sV
  have hsz : (ByteArray.mk l.toArray).size = l.length := by simp [ByteArray.size]
  by_cases h0 : l = []
  · subst h0
    go_enter Tryz.func23, Tryz.ntmps23
    go_wp2
    go_ret
    exact ⟨rfl, Below.refl _ _⟩
  · have hpos : 0 < l.length := List.length_pos_iff.2 h0
    have hemp : l.isEmpty = false := by rw [List.isEmpty_eq_false_iff]; exact h0
    by_cases h8 : 8 < l.length
    · have h8i : (8 : Int) < l.length := by omega
      go_enter Tryz.func23, Tryz.ntmps23
      go_wp2
      go_ret
      exact ⟨ret_bool (by rw [decide_eq_false (by omega)]; rfl), Below.refl _ _⟩
    · have h8i : ¬ (8 : Int) < l.length := by omega
      have hcv := fun (W : World) => Lib.run_convert_string_bytes (P := Tryz.prog) W 9 115 5 ⟨l.toArray⟩ Tryz.underlying9 Tryz.underlying115 Tryz.underlying5
      have hb : Below w.heap.size w (Lib.bytesWorld w 5 ⟨l.toArray⟩) := ⟨rfl, rfl, rfl, by rw [Lib.bytesWorld_size]; omega, fun j hj => Lib.bytesWorld_at_old w 5 ⟨l.toArray⟩ j hj⟩
      have hrow : Row (Lib.bytesWorld w 5 ⟨l.toArray⟩) (some ⟨w.heap.size, 0, none⟩) (flat encU l) := by
        intro j v hj
        have hjl : j < l.length * 1 := by have := (List.getElem?_eq_some_iff.1 hj).1; rwa [flat_length encU_length] at this
        refine ⟨w.heap.size, 0, rfl, by rw [Lib.bytesWorld_size]; omega, ?_⟩
        have h1 := flat_get encU_length l j (by omega) 0 (by decide)
        rw [Nat.mul_one, Nat.add_zero, hj] at h1
        have h2 : v = .int .u8 ((l[j]'(by omega)).toNat : Int) := by simpa [encU] using h1
        rw [Nat.zero_add, Lib.bytesWorld_cell w 5 ⟨l.toArray⟩ j (by rw [hsz]; omega), h2]
        simp [List.getD, show j < l.length by omega]
      have eg : ∀ args w, (callFunc 57 args).run Tryz.prog w = .ok (.enter 57 args) w := enters_of Tryz.func57 (by kernel_rfl) rfl
      have HC := Hid.mk (containsFuncU (some ⟨w.heap.size, 0, none⟩) l.length (grownCap w l.length 0 5) l 57 #[] badC (Lib.bytesWorld w 5 ⟨l.toArray⟩) rfl (by omega) hrow eg (fun W hW x hx => nameC_ok x W))
      have HB := Hid.mk hb
      clear hrow eg hb
      go_enter Tryz.func23, Tryz.ntmps23
      go_wp2_with fail
      refine HC.out.mono ?_
      rintro ev w2 ⟨rfl, hb2⟩
      have HB2 := Hid.mk (Below.step HB.out hb2)
      go_wp2
      go_ret
      refine ⟨ret_bool ?_, HB2.out⟩
      rw [decide_eq_true (by omega)]
      rfl
end Go.Proofs.YtkcaheebaicinaaGreatDoor
