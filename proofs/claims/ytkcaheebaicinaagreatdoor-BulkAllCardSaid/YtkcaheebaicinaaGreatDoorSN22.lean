/- Sb3, Sb4: texts of this claim, joined. -/
import Derived.Test.YtkcaheebaicinaaGreatDoorSN21
/- Contracts of package slab: find, chain; the library's functions over strings, slabs, caches. -/
namespace Go.Proofs.YtkcaheebaicinaaGreatDoor
open Go.RowKit
set_option linter.unusedVariables false
set_option linter.unusedSimpArgs false

theorem bytes_eq (v y : List UInt8) : ((ByteArray.mk v.toArray) == (ByteArray.mk y.toArray)) = (v == y) := by
  show (v.toArray == y.toArray) = _
  simp
/-! ## Names -/
set_option maxRecDepth 100000 in
theorem indexS_ok (a : Option Addr) (n cap : Nat) (l : List (List UInt8)) (v : List UInt8) (w : World) (hn : l.length = n) (hl : n ≤ 1000000) (hr : Row w a (flat encS l)) :
    Calls Tryz.prog 97 #[.slice a n cap, sV v] w fun e w' => e = .returned (.int .i64 (findI (v == ·) l)) ∧ w = w' := by
  subst hn
  unfold sV
  go_enter Tryz.func97, Tryz.ntmps97
  go_wp2
  go_loop [5, 8] (fun _ s8 => ∃ k : Nat, k ≤ l.length ∧ s8 = .int .i64 k ∧ Hid (∀ x ∈ l.take k, (v == x) = false)) (fun _ s8 => l.length - (intOf s8).toNat)
  case atStart => exact ⟨0, Nat.zero_le _, rfl, by simp [Hid]⟩
  case round =>
    obtain ⟨k, hk, rfl, hnot⟩ := hrel
    by_cases hlt : k < l.length
    · obtain ⟨b, off, rfl, hb, hc⟩ := row_elem encS_length (by decide) hr hlt
      have hc0 := encS_cells hc
      rw [Nat.mul_one] at hc0
      clear hr hc
      have hvx : ((ByteArray.mk v.toArray) == (ByteArray.mk (l[k]).toArray)) = (v == l[k]) := (bytes_eq _ _)
      cases hv : v == l[k] with
      | true =>
        rw [hv] at hvx
        have HH := Hid.mk (findI_hit (p := fun x => v == x) hlt hv hnot.out)
        generalize l[k] = y at *
        go_wp2
        go_ret
        exact ⟨ret_int HH.out.symm, rfl⟩
      | false =>
        rw [hv] at hvx
        have HH : Hid (∀ x ∈ l.take (k + 1), (v == x) = false) := fun x hx => by
          rw [List.take_succ_eq_append_getElem hlt, List.mem_append, List.mem_singleton] at hx
          rcases hx with hx | rfl
          · exact hnot.out x hx
          · exact hv
        generalize l[k] = y at *
        go_wp2
        go_round
        case rel => exact ⟨k + 1, by omega, by go_num, HH⟩
        case measure => simp [intOf]; omega
    · obtain rfl : k = l.length := by omega
      go_wp2
      go_ret
      exact ⟨ret_int (findI_miss (by simpa [Hid] using hnot)).symm, rfl⟩
set_option maxRecDepth 100000 in
theorem containsS_ok (a : Option Addr) (n cap : Nat) (l : List (List UInt8)) (v : List UInt8) (w : World) (hn : l.length = n) (hl : n ≤ 1000000) (hr : Row w a (flat encS l)) :
    Calls Tryz.prog 59 #[.slice a n cap, sV v] w fun e w' => e = .returned (.bool (l.contains v)) ∧ w = w' := by
  have HC := Hid.mk (fun (W : World) (h : W = w) => indexS_ok a n cap l v W hn hl (h ▸ hr))
  unfold sV at *
  go_enter Tryz.func59, Tryz.ntmps59
  go_wp2_with (go_at_call 97; refine (HC.out _ rfl).mono ?_; rintro e w' ⟨rfl, rfl⟩)
  go_ret
  exact ⟨ret_bool (by rw [findI_nonneg, List.contains_eq_any_beq]), rfl⟩

/-- has a cache this name? -/
theorem namedC_ok (y : Cc) (v : List UInt8) (B : Nat) (W : World) (hy : CcAt W y) (hn : y.n1 ≤ 1000000) (hB : B < W.heap.size) (hc : W.cell? ⟨B, 0, none⟩ = some (sV v)) :
    Calls Tryz.prog 58 (#[.agg (encCc y).toArray] ++ #[.pointer (some ⟨B, 0, none⟩)]) W fun ev w' => ev = .returned (.bool (y.c.ns.contains v)) ∧ Below W.heap.size W w' := by
  show Calls Tryz.prog 58 #[.agg #[.slice y.a1 y.n1 y.c1, .int .i64 y.c.z, .int .i64 y.c.r, .int .i64 y.c.o, .slice y.a2 y.n2 y.c2, .slice y.a3 y.n3 y.c3], .pointer (some ⟨B, 0, none⟩)] W _
  have hb := below_alloc W (.cells #[.slice y.a1 y.n1 y.c1, .int .i64 (y.c.z : Int), .int .i64 (y.c.r : Int), .int .i64 (y.c.o : Int), .slice y.a2 y.n2 y.c2, .slice y.a3 y.n3 y.c3] 72)
  have K := box_new W #[.slice y.a1 y.n1 y.c1, .int .i64 (y.c.z : Int), .int .i64 (y.c.r : Int), .int .i64 (y.c.o : Int), .slice y.a2 y.n2 y.c2, .slice y.a3 y.n3 y.c3] 72
  have k0 := K 0
  simp only [List.getElem?_toArray, List.getElem?_cons_zero, List.getElem?_cons_succ] at k0
  have hc2 := (hb.cell (p := ⟨B, 0, none⟩) hB).trans hc
  have HC := Hid.mk (containsS_ok y.a1 y.n1 y.c1 y.c.ns v _ hy.l1 hn (hy.r1.below hb))
  have HB := Hid.mk hb
  have hne : B ≠ W.heap.size := by omega
  clear hb K hc hy
  unfold sV at *
  go_enter Tryz.func58, Tryz.ntmps58
  go_wp2_with (go_at_call 59; refine HC.out.mono ?_; rintro e w' ⟨rfl, rfl⟩)
  go_ret
  exact ⟨ret_bool (by rw [Bool.eq_iff_iff]; simp), HB.out⟩
/-- slices.IndexFunc at api.Cache, with a predicate that may lay blocks of its own -/
theorem indexFuncCc (a : Option Addr) (n cap : Nat) (l : List Cc) (g : Nat) (lb : Array Value) (p : Cc → Bool) (w : World) (hn : l.length = n) (hl : n ≤ 9223372036854775807) (hr : Row w a (flat encCc l)) (eg : ∀ args w, (callFunc g args).run Tryz.prog w = .ok (.enter g args) w)
    (hp : ∀ W, Below w.heap.size w W → ∀ x ∈ l, Calls Tryz.prog g (#[.agg (encCc x).toArray] ++ lb) W fun e w' => e = .returned (.bool (p x)) ∧ Below W.heap.size W w') :
    Calls Tryz.prog 26 #[.slice a n cap, .func (.func g) #[] lb] w fun e w' => e = .returned (.int .i64 (findI p l)) ∧ Below w.heap.size w w' := by
  subst hn
  go_enter Tryz.func26, Tryz.ntmps26
  go_wp2
  go_loopw [5, 8] (fun _ s8 wr => ∃ k : Nat, k ≤ l.length ∧ s8 = .int .i64 k ∧ Hid (∀ x ∈ l.take k, p x = false) ∧ Below w.heap.size w wr) (fun _ s8 _ => l.length - (intOf s8).toNat)
  case atStart => exact ⟨0, Nat.zero_le _, rfl, by simp [Hid], Below.refl _ _⟩
  case round =>
    obtain ⟨k, hk, rfl, hnot, hbw⟩ := hrel
    by_cases hlt : k < l.length
    · obtain ⟨b, off, rfl, hb, hc⟩ := row_elem encCc_length (by decide) (hr.below hbw) hlt
      obtain ⟨hc0, hc1, hc2, hc3, hc4, hc5⟩ := encCc_cells hc
      skip
      have hcall := hp wr hbw l[k] (List.getElem_mem hlt)
      clear hr hp hc
      cases hv : p l[k] with
      | true =>
        have HH := Hid.mk (findI_hit hlt hv hnot.out)
        rw [hv] at hcall
        generalize l[k] = y at *
        go_wp2_with (go_at_fn g; refine hcall.mono ?_; rintro e w' ⟨rfl, hb'⟩)
        go_ret
        exact ⟨ret_int HH.out.symm, Below.step hbw hb'⟩
      | false =>
        rw [hv] at hcall
        have HH : Hid (∀ x ∈ l.take (k + 1), p x = false) := fun x hx => by
          rw [List.take_succ_eq_append_getElem hlt, List.mem_append, List.mem_singleton] at hx
          rcases hx with hx | rfl
          · exact hnot.out x hx
          · exact hv
        generalize l[k] = y at *
        go_wp2_with (go_at_fn g; refine hcall.mono ?_; rintro e w' ⟨rfl, hb'⟩)
        go_roundw
        case rel => exact ⟨k + 1, by omega, by go_num, HH.out, Below.step hbw hb'⟩
        case measure => simp [intOf]; omega
    · obtain rfl : k = l.length := by omega
      go_wp2
      go_ret
      exact ⟨ret_int (findI_miss (by simpa [Hid] using hnot)).symm, hbw⟩

/-- slices.ContainsFunc at api.Cache -/
theorem containsFuncCc (a : Option Addr) (n cap : Nat) (l : List Cc) (g : Nat) (lb : Array Value) (p : Cc → Bool) (w : World) (hn : l.length = n) (hl : n ≤ 9223372036854775807) (hr : Row w a (flat encCc l)) (eg : ∀ args w, (callFunc g args).run Tryz.prog w = .ok (.enter g args) w)
    (hp : ∀ W, Below w.heap.size w W → ∀ x ∈ l, Calls Tryz.prog g (#[.agg (encCc x).toArray] ++ lb) W fun e w' => e = .returned (.bool (p x)) ∧ Below W.heap.size W w') :
    Calls Tryz.prog 35 #[.slice a n cap, .func (.func g) #[] lb] w fun e w' => e = .returned (.bool (l.any p)) ∧ Below w.heap.size w w' := by
  go_enter Tryz.func35, Tryz.ntmps35
  go_wp2_with (go_at_call 26; refine (indexFuncCc _ _ _ l _ _ p _ hn hl hr eg hp).mono ?_; rintro e w' ⟨rfl, hb'⟩)
  go_ret
  exact ⟨ret_bool (findI_nonneg p l), hb'⟩

/-- slices.IndexFunc at api.Slab, with a predicate that may lay blocks of its own -/
theorem indexFuncSl (a : Option Addr) (n cap : Nat) (l : List Sl) (g : Nat) (lb : Array Value) (p : Sl → Bool) (w : World) (hn : l.length = n) (hl : n ≤ 9223372036854775807) (hr : Row w a (flat encSl l)) (eg : ∀ args w, (callFunc g args).run Tryz.prog w = .ok (.enter g args) w)
    (hp : ∀ W, Below w.heap.size w W → ∀ x ∈ l, Calls Tryz.prog g (#[.agg (encSl x).toArray] ++ lb) W fun e w' => e = .returned (.bool (p x)) ∧ Below W.heap.size W w') :
    Calls Tryz.prog 90 #[.slice a n cap, .func (.func g) #[] lb] w fun e w' => e = .returned (.int .i64 (findI p l)) ∧ Below w.heap.size w w' := by
  subst hn
  go_enter Tryz.func90, Tryz.ntmps90
  go_wp2
  go_loopw [5, 8] (fun _ s8 wr => ∃ k : Nat, k ≤ l.length ∧ s8 = .int .i64 k ∧ Hid (∀ x ∈ l.take k, p x = false) ∧ Below w.heap.size w wr) (fun _ s8 _ => l.length - (intOf s8).toNat)
  case atStart => exact ⟨0, Nat.zero_le _, rfl, by simp [Hid], Below.refl _ _⟩
  case round =>
    obtain ⟨k, hk, rfl, hnot, hbw⟩ := hrel
    by_cases hlt : k < l.length
    · obtain ⟨b, off, rfl, hb, hc⟩ := row_elem encSl_length (by decide) (hr.below hbw) hlt
      obtain ⟨hc0, hc1, hc2⟩ := encSl_cells hc
      skip
      have hcall := hp wr hbw l[k] (List.getElem_mem hlt)
      clear hr hp hc
      cases hv : p l[k] with
      | true =>
        have HH := Hid.mk (findI_hit hlt hv hnot.out)
        rw [hv] at hcall
        generalize l[k] = y at *
        go_wp2_with (go_at_fn g; refine hcall.mono ?_; rintro e w' ⟨rfl, hb'⟩)
        go_ret
        exact ⟨ret_int HH.out.symm, Below.step hbw hb'⟩
      | false =>
        rw [hv] at hcall
        have HH : Hid (∀ x ∈ l.take (k + 1), p x = false) := fun x hx => by
          rw [List.take_succ_eq_append_getElem hlt, List.mem_append, List.mem_singleton] at hx
          rcases hx with hx | rfl
          · exact hnot.out x hx
          · exact hv
        generalize l[k] = y at *
        go_wp2_with (go_at_fn g; refine hcall.mono ?_; rintro e w' ⟨rfl, hb'⟩)
        go_roundw
        case rel => exact ⟨k + 1, by omega, by go_num, HH.out, Below.step hbw hb'⟩
        case measure => simp [intOf]; omega
    · obtain rfl : k = l.length := by omega
      go_wp2
      go_ret
      exact ⟨ret_int (findI_miss (by simpa [Hid] using hnot)).symm, hbw⟩

/-- slices.ContainsFunc at api.Slab -/
theorem containsFuncSl (a : Option Addr) (n cap : Nat) (l : List Sl) (g : Nat) (lb : Array Value) (p : Sl → Bool) (w : World) (hn : l.length = n) (hl : n ≤ 9223372036854775807) (hr : Row w a (flat encSl l)) (eg : ∀ args w, (callFunc g args).run Tryz.prog w = .ok (.enter g args) w)
    (hp : ∀ W, Below w.heap.size w W → ∀ x ∈ l, Calls Tryz.prog g (#[.agg (encSl x).toArray] ++ lb) W fun e w' => e = .returned (.bool (p x)) ∧ Below W.heap.size W w') :
    Calls Tryz.prog 45 #[.slice a n cap, .func (.func g) #[] lb] w fun e w' => e = .returned (.bool (l.any p)) ∧ Below w.heap.size w w' := by
  go_enter Tryz.func45, Tryz.ntmps45
  go_wp2_with (go_at_call 90; refine (indexFuncSl _ _ _ l _ _ p _ hn hl hr eg hp).mono ?_; rintro e w' ⟨rfl, hb'⟩)
  go_ret
  exact ⟨ret_bool (findI_nonneg p l), hb'⟩


theorem findS_ok (x : Sl) (p : Int) (C : Nat) (W : World) (hx : x.p ≤ 1000000) (hp : -1000000 ≤ p ∧ p ≤ 1000000) (hC : C < W.heap.size) (hc : W.cell? ⟨C, 0, none⟩ = some (.int .i64 p)) :
    Calls Tryz.prog 111 (#[.agg (encSl x).toArray] ++ #[.pointer (some ⟨C, 0, none⟩)]) W fun ev w' => ev = .returned (.bool (decide ((x.p : Int) = p))) ∧ Below W.heap.size W w' := by
  have hne : C ≠ W.heap.size := by omega
  show Calls Tryz.prog 111 #[.agg #[.int .i64 x.p, .int .i64 x.n, .int .i64 x.h], .pointer (some ⟨C, 0, none⟩)] W _
  go_enter Tryz.func111, Tryz.ntmps111
  go_wp2
  go_ret
  exact ⟨ret_bool (by rw [Bool.eq_iff_iff]; simp only [beq_iff_eq, decide_eq_true_eq]), below_alloc _ _⟩
end Go.Proofs.YtkcaheebaicinaaGreatDoor
/- Contracts of package slab: find, chain, named. -/
namespace Go.Proofs.YtkcaheebaicinaaGreatDoor
open Go.RowKit
set_option linter.unusedVariables false
set_option linter.unusedSimpArgs false

def encI (t : Int) : List Value := [vI t]
theorem encI_length (t : Int) : (encI t).length = 1 := rfl
theorem encI_cells {w : World} {g o : Nat} {r : Int} (hc : ∀ i v, (encI r)[i]? = some v → w.cell? ⟨g, o + i, none⟩ = some v) : w.cell? ⟨g, o, none⟩ = some (.int .i64 r) := hc 0 _ rfl
theorem flat_encI (l : List Int) : flat encI l = l.map vI := by
  induction l with
  | nil => rfl
  | cons x l ih => rw [flat_cons, ih]; rfl
/-- slices.IndexFunc at int, with a predicate that may lay blocks of its own -/
theorem indexFuncI (a : Option Addr) (n cap : Nat) (l : List Int) (g : Nat) (lb : Array Value) (p : Int → Bool) (w : World) (hn : l.length = n) (hl : n ≤ 9223372036854775807) (hr : Row w a (flat encI l)) (eg : ∀ args w, (callFunc g args).run Tryz.prog w = .ok (.enter g args) w)
    (hp : ∀ W, Below w.heap.size w W → ∀ x ∈ l, Calls Tryz.prog g (#[.int .i64 x] ++ lb) W fun e w' => e = .returned (.bool (p x)) ∧ Below W.heap.size W w') :
    Calls Tryz.prog 106 #[.slice a n cap, .func (.func g) #[] lb] w fun e w' => e = .returned (.int .i64 (findI p l)) ∧ Below w.heap.size w w' := by
  subst hn
  go_enter Tryz.func106, Tryz.ntmps106
  go_wp2
  go_loopw [5, 8] (fun _ s8 wr => ∃ k : Nat, k ≤ l.length ∧ s8 = .int .i64 k ∧ Hid (∀ x ∈ l.take k, p x = false) ∧ Below w.heap.size w wr) (fun _ s8 _ => l.length - (intOf s8).toNat)
  case atStart => exact ⟨0, Nat.zero_le _, rfl, by simp [Hid], Below.refl _ _⟩
  case round =>
    obtain ⟨k, hk, rfl, hnot, hbw⟩ := hrel
    by_cases hlt : k < l.length
    · obtain ⟨b, off, rfl, hb, hc⟩ := row_elem encI_length (by decide) (hr.below hbw) hlt
      obtain hc0 := encI_cells hc
      rw [Nat.mul_one] at hc0
      have hcall := hp wr hbw l[k] (List.getElem_mem hlt)
      clear hr hp hc
      cases hv : p l[k] with
      | true =>
        have HH := Hid.mk (findI_hit hlt hv hnot.out)
        rw [hv] at hcall
        generalize l[k] = y at *
        go_wp2_with (go_at_fn g; refine hcall.mono ?_; rintro e w' ⟨rfl, hb'⟩)
        go_ret
        exact ⟨ret_int HH.out.symm, Below.step hbw hb'⟩
      | false =>
        rw [hv] at hcall
        have HH : Hid (∀ x ∈ l.take (k + 1), p x = false) := fun x hx => by
          rw [List.take_succ_eq_append_getElem hlt, List.mem_append, List.mem_singleton] at hx
          rcases hx with hx | rfl
          · exact hnot.out x hx
          · exact hv
        generalize l[k] = y at *
        go_wp2_with (go_at_fn g; refine hcall.mono ?_; rintro e w' ⟨rfl, hb'⟩)
        go_roundw
        case rel => exact ⟨k + 1, by omega, by go_num, HH.out, Below.step hbw hb'⟩
        case measure => simp [intOf]; omega
    · obtain rfl : k = l.length := by omega
      go_wp2
      go_ret
      exact ⟨ret_int (findI_miss (by simpa [Hid] using hnot)).symm, hbw⟩

/-- slices.ContainsFunc at int -/
theorem containsFuncI (a : Option Addr) (n cap : Nat) (l : List Int) (g : Nat) (lb : Array Value) (p : Int → Bool) (w : World) (hn : l.length = n) (hl : n ≤ 9223372036854775807) (hr : Row w a (flat encI l)) (eg : ∀ args w, (callFunc g args).run Tryz.prog w = .ok (.enter g args) w)
    (hp : ∀ W, Below w.heap.size w W → ∀ x ∈ l, Calls Tryz.prog g (#[.int .i64 x] ++ lb) W fun e w' => e = .returned (.bool (p x)) ∧ Below W.heap.size W w') :
    Calls Tryz.prog 70 #[.slice a n cap, .func (.func g) #[] lb] w fun e w' => e = .returned (.bool (l.any p)) ∧ Below w.heap.size w w' := by
  go_enter Tryz.func70, Tryz.ntmps70
  go_wp2_with (go_at_call 106; refine (indexFuncI _ _ _ l _ _ p _ hn hl hr eg hp).mono ?_; rintro e w' ⟨rfl, hb'⟩)
  go_ret
  exact ⟨ret_bool (findI_nonneg p l), hb'⟩


set_option maxRecDepth 100000 in
/-- a slab by its first page -/
theorem find_sl (y : Cc) (p : Int) (w : World) (hy : CcAt w y) (hn : y.n2 ≤ 1000000) (hs : ∀ x ∈ y.c.sl, x.p ≤ 1000000) (hp : -1000000 ≤ p ∧ p ≤ 1000000) :
    Calls Tryz.prog 77 #[.agg #[.slice y.a1 y.n1 y.c1, .int .i64 y.c.z, .int .i64 y.c.r, .int .i64 y.c.o, .slice y.a2 y.n2 y.c2, .slice y.a3 y.n3 y.c3], .int .i64 p] w fun ev w' => ev = .returned (.int .i64 (findI (fun x => decide ((x.p : Int) = p)) y.c.sl)) ∧ Below w.heap.size w w' := by
  have eg : ∀ args w, (callFunc 111 args).run Tryz.prog w = .ok (.enter 111 args) w := enters_of Tryz.func111 (by kernel_rfl) rfl
  have hb1 := below_alloc w (.cells #[.slice y.a1 y.n1 y.c1, .int .i64 (y.c.z : Int), .int .i64 (y.c.r : Int), .int .i64 (y.c.o : Int), .slice y.a2 y.n2 y.c2, .slice y.a3 y.n3 y.c3] 72)
  obtain ⟨K1, K2, F1, F2, hsz, hbw⟩ := boxes2 w #[.slice y.a1 y.n1 y.c1, .int .i64 (y.c.z : Int), .int .i64 (y.c.r : Int), .int .i64 (y.c.o : Int), .slice y.a2 y.n2 y.c2, .slice y.a3 y.n3 y.c3] 72 #[.int .i64 p] 3
  have k4 := K1 4
  have p0 := K2 0
  simp only [List.getElem?_toArray, List.getElem?_cons_zero, List.getElem?_cons_succ] at k4 p0
  have HC := Hid.mk (indexFuncSl y.a2 y.n2 y.c2 y.c.sl 111 #[.pointer (some ⟨w.heap.size + 1, 0, none⟩)] (fun x => decide ((x.p : Int) = p)) _ hy.l2 (by omega) (hy.r2.below hbw) eg (fun W hW x hx => findS_ok x p (w.heap.size + 1) W (hs x hx) hp (Nat.lt_of_lt_of_le hsz hW.size) ((hW.cell (p := ⟨w.heap.size + 1, 0, none⟩) hsz).trans p0)))
  have HB := Hid.mk hbw
  clear eg hb1 K1 K2 F1 F2 hbw hy hs
  go_enter Tryz.func77, Tryz.ntmps77
  go_wp2_with (go_at_call 90; refine HC.out.mono ?_; rintro e w' ⟨rfl, hb'⟩)
  go_ret
  exact ⟨rfl, Below.step HB.out hb'⟩

set_option maxRecDepth 100000 in
set_option maxHeartbeats 4000000 in
/-- is a number no address of an object? -/
theorem chainC_ok (y : Cc) (x : Sl) (a : Int) (B C : Nat) (W : World) (hz : 1 ≤ y.c.z) (hrz : y.c.r * y.c.z ≤ 100000) (hp : x.p ≤ 1000) (ha1 : -1000000000000 ≤ a) (ha2 : a ≤ 1000000000000)
    (hB : B < W.heap.size) (hC : C < W.heap.size) (kB : ∀ o, W.cell? ⟨B, o, none⟩ = (#[.slice y.a1 y.n1 y.c1, .int .i64 (y.c.z : Int), .int .i64 (y.c.r : Int), .int .i64 (y.c.o : Int), .slice y.a2 y.n2 y.c2, .slice y.a3 y.n3 y.c3] : Array Value)[o]?) (kC : ∀ o, W.cell? ⟨C, o, none⟩ = (#[.int .i64 (x.p : Int), .int .i64 (x.n : Int), .int .i64 x.h] : Array Value)[o]?) :
    Calls Tryz.prog 110 (#[.int .i64 a] ++ #[.pointer (some ⟨B, 0, none⟩), .pointer (some ⟨C, 0, none⟩)]) W fun ev w' => ev = .returned (.bool (!objB y.c x.p a)) ∧ Below W.heap.size W w' := by
  show Calls Tryz.prog 110 #[.int .i64 a, .pointer (some ⟨B, 0, none⟩), .pointer (some ⟨C, 0, none⟩)] W _
  have b0 := kB 0
  have b1 := kB 1
  have b2 := kB 2
  have b3 := kB 3
  have b4 := kB 4
  have b5 := kB 5
  have c0 := kC 0
  simp only [List.getElem?_toArray, List.getElem?_cons_zero, List.getElem?_cons_succ] at b0 b1 b2 b3 b4 b5 c0
  have HC := Hid.mk (objectS_ok y.c y.a1 y.a2 y.a3 y.n1 y.c1 y.n2 y.c2 y.n3 y.c3 x.p a W hz hrz hp ha1 ha2)
  clear kB kC
  go_enter Tryz.func110, Tryz.ntmps110
  go_wp2_with (go_at_call 83; refine HC.out.mono ?_; rintro e w' ⟨rfl, hb'⟩)
  go_ret
  exact ⟨rfl, hb'⟩
end Go.Proofs.YtkcaheebaicinaaGreatDoor
