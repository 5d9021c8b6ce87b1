/- Blk1: texts of this claim, joined. -/
import Derived.Test.YtkcaheebaicinaaGreatDoorSN2
import Derived.Test.YtkcaheebaicinaaGreatDoorSN3
import Derived.Deep.QuietTactic
import Derived.BigQuiet
import Derived.WalkSmall
import Derived.Shelf.Abstract
/- Contracts of package buddy: end, fits, find. -/
namespace Go.Proofs.YtkcaheebaicinaaGreatDoor
open Go.RowKit
set_option linter.unusedVariables false

def encBk (b : Bk) : List Value := [vI b.a, vI b.o, vI b.t]
theorem encBk_length (b : Bk) : (encBk b).length = 3 := rfl
theorem encBk_cells {w : World} {g o : Nat} {r : Bk} (hc : ∀ i v, (encBk r)[i]? = some v → w.cell? ⟨g, o + i, none⟩ = some v) : w.cell? ⟨g, o, none⟩ = some (.int .i64 r.a) ∧ w.cell? ⟨g, o + 1, none⟩ = some (.int .i64 r.o) ∧ w.cell? ⟨g, o + 2, none⟩ = some (.int .i64 r.t) := ⟨hc 0 _ rfl, hc 1 _ rfl, hc 2 _ rfl⟩
theorem info_bk : (Tryz.prog.info? 95).map (fun i => (i.zero, i.size, i.bytes)) = some (some (.agg #[.int .i64 0, .int .i64 0, .int .i64 0]), 3, 24) := by kernel_rfl
theorem encBk_one (l : List Bk) : ∀ u ∈ flat encBk l, u.oneCell' = true := by
  intro u hu
  obtain ⟨r, _, hr⟩ := List.mem_flatMap.1 hu
  simp only [encBk, List.mem_cons, List.not_mem_nil, or_false] at hr
  rcases hr with rfl | rfl | rfl <;> rfl

theorem shl_bk {o : Nat} (h : o ≤ 4) : wrap64 (2 ^ o) = ((2 ^ o : Nat) : Int) := by
  obtain rfl | rfl | rfl | rfl | rfl : o = 0 ∨ o = 1 ∨ o = 2 ∨ o = 3 ∨ o = 4 := by omega
  all_goals decide +kernel
theorem pow_bk {o : Nat} (h : o ≤ 4) : 1 ≤ 2 ^ o ∧ 2 ^ o ≤ 16 := by rcases pow_le4 h with h | h | h | h | h <;> omega

theorem end_bk (b : Bk) (w : World) (ho : b.o ≤ 4) (ha : b.a ≤ 1000) :
    Calls Tryz.prog 105 #[.agg #[.int .i64 b.a, .int .i64 b.o, .int .i64 b.t]] w fun e w' => e = .returned (.int .i64 (b.fin : Int)) ∧ Below w.heap.size w w' := by
  have hs := shl_bk ho
  have hp := pow_bk ho
  unfold Bk.fin
  generalize 2 ^ b.o = s at *
  go_enter Tryz.func105, Tryz.ntmps105
  go_wp2_with fail
  go_quiet (fail)
  go_wp2
  go_ret
  refine ⟨ret_int (by simp), Below.step (below_alloc _ _) (below_drewN (Below.refl _ _) _)⟩

theorem fits_yes (f e : Nat) (a1 a2 : Option Addr) (n1 n2 c1 c2 : Nat) (b : Bk) (w : World) (h : fitsB f e b.a b.o) (he : e ≤ 256) :
    Calls Tryz.prog 104 #[.agg #[.int .i64 f, .int .i64 e, .slice a1 n1 c1, .slice a2 n2 c2], .agg #[.int .i64 b.a, .int .i64 b.o, .int .i64 b.t]] w fun e w' => e = .returned (.bool true) ∧ Below w.heap.size w w' := by
  obtain ⟨h1, h2, h3, h4⟩ := h
  have hs := shl_bk h1
  have hp := pow_bk h1
  have hm : (b.a : Int) % ((2 ^ b.o : Nat) : Int) = 0 := by rw [← Int.natCast_emod, h4]; rfl
  have d1 : decide ((b.o : Int) ≤ 4) = true := decide_eq_true (by omega)
  have d2 : decide (f ≤ b.a) = true := decide_eq_true h2
  have d3 : decide (b.a < e) = true := decide_eq_true h3
  generalize 2 ^ b.o = s at *
  go_enter Tryz.func104, Tryz.ntmps104
  go_wp2_with fail
  go_quiet (fail)
  go_wp2
  go_ret
  exact ⟨rfl, Below.step (Below.step (below_alloc _ _) (below_alloc _ _)) (below_drewN (Below.refl _ _) _)⟩

/-- a page beside the zone -/
theorem fits_no (f e p : Nat) (a1 a2 : Option Addr) (n1 n2 c1 c2 : Nat) (w : World) (h : p < f ∨ e ≤ p) (he : e ≤ 256) (hf : f ≤ 256) (hp : p ≤ 1000) :
    Calls Tryz.prog 104 #[.agg #[.int .i64 f, .int .i64 e, .slice a1 n1 c1, .slice a2 n2 c2], .agg #[.int .i64 p, .int .i64 0, .int .i64 0]] w fun e w' => e = .returned (.bool false) ∧ Below w.heap.size w w' := by
  by_cases h1 : p < f
  · have d1 : decide (f ≤ p) = false := decide_eq_false (by omega)
    go_enter Tryz.func104, Tryz.ntmps104
    go_wp2_with fail
    go_quiet (fail)
    go_wp2
    go_ret
    exact ⟨rfl, Below.step (Below.step (below_alloc _ _) (below_alloc _ _)) (below_drewN (Below.refl _ _) _)⟩
  · have d1 : decide (f ≤ p) = true := decide_eq_true (by omega)
    have d2 : decide (p < e) = false := decide_eq_false (by omega)
    go_enter Tryz.func104, Tryz.ntmps104
    go_wp2_with fail
    go_quiet (fail)
    go_wp2
    go_ret
    exact ⟨rfl, Below.step (Below.step (below_alloc _ _) (below_alloc _ _)) (below_drewN (Below.refl _ _) _)⟩

theorem cmp_bk (b : Bk) (p : Nat) (w : World) (ha : b.a ≤ 1000) (hp : p ≤ 1000) :
    Calls Tryz.prog 138 #[.agg #[.int .i64 b.a, .int .i64 b.o, .int .i64 b.t], .int .i64 p] w fun e w' => e = .returned (.int .i64 ((b.a : Int) - p)) ∧ Below w.heap.size w w' := by
  go_enter Tryz.func138, Tryz.ntmps138
  go_wp2
  go_ret
  exact ⟨rfl, below_alloc _ _⟩

theorem lb_iff {l : List Bk} (h : Rise l) {a k : Nat} (hk : k < l.length) : k < lb l a ↔ l[k].a < a := by
  constructor
  · intro hlt
    exact lb_below _ (List.mem_take_iff_getElem.2 ⟨k, by omega, rfl⟩)
  · intro hlt
    rcases Nat.lt_or_ge k (lb l a) with h1 | h1
    · exact h1
    · have := lb_above h (a := a) l[k] (List.mem_drop_iff_getElem.2 ⟨k - lb l a, by omega, by congr 1; omega⟩)
      omega
/-- is there a block at this place? -/
def hasB (l : List Bk) (a : Nat) : Bool := l.any fun b => decide (b.a = a)
theorem hasB_at {l : List Bk} (h : Rise l) {a : Nat} (hk : lb l a < l.length) : hasB l a = decide (l[lb l a].a = a) := by
  unfold hasB
  cases hd : decide (l[lb l a].a = a) with
  | true => rw [List.any_eq_true]; exact ⟨_, List.getElem_mem hk, hd⟩
  | false =>
    rw [List.any_eq_false]
    intro b hb he
    have he := of_decide_eq_true he
    have := lb_hit h hb
    rw [he, List.getElem?_eq_getElem hk] at this
    have hbb : l[lb l a] = b := by simpa using this
    exact of_decide_eq_false hd (by rw [hbb]; exact he)
theorem hasB_end {l : List Bk} (h : Rise l) {a : Nat} (hk : l.length ≤ lb l a) : hasB l a = false := by
  unfold hasB
  rw [List.any_eq_false]
  intro b hb he
  have he := of_decide_eq_true he
  have := lb_hit h hb
  rw [he, List.getElem?_eq_none hk] at this
  cases this

set_option maxRecDepth 100000 in
theorem search_bk (a : Option Addr) (n cap : Nat) (l : List Bk) (p : Nat) (w : World) (hn : l.length = n) (hl : n ≤ 1000) (hr : Row w a (flat encBk l)) (hrise : Rise l) (ha : ∀ b ∈ l, b.a ≤ 1000) (hp : p ≤ 1000) :
    Calls Tryz.prog 74 #[.slice a n cap, .int .i64 p, .func (.func 138) #[] #[]] w fun e w' => e = .returned (.tuple #[.int .i64 (lb l p : Int), .bool (hasB l p)]) ∧ Below w.heap.size w w' := by
  subst hn
  have hle := lb_le l p
  have eg : ∀ args w, (callFunc 138 args).run Tryz.prog w = .ok (.enter 138 args) w := enters_of Tryz.func138 (by kernel_rfl) rfl
  go_enter Tryz.func74, Tryz.ntmps74
  go_wp2
  go_loopw [9, 10, 11] (fun s9 s10 _ wr => ∃ i j : Nat, i ≤ lb l p ∧ lb l p ≤ j ∧ j ≤ l.length ∧ s9 = .int .i64 i ∧ s10 = .int .i64 j ∧ Below w.heap.size w wr) (fun s9 s10 _ _ => (intOf s10).toNat - (intOf s9).toNat)
  case atStart => exact ⟨0, l.length, Nat.zero_le _, hle, Nat.le_refl _, rfl, rfl, Below.refl _ _⟩
  case round =>
    obtain ⟨i, j, h1, h2, h3, rfl, rfl, hb3⟩ := hrel
    by_cases hlt : i < j
    · have hhl : (i + j) / 2 < l.length := by omega
      have hiff := Hid.mk (lb_iff hrise (a := p) hhl)
      obtain ⟨b, off, rfl, hb, hc⟩ := row_elem encBk_length (by decide) (hr.below hb3) hhl
      obtain ⟨hc0, hc1, hc2⟩ := encBk_cells hc
      have hal := ha _ (List.getElem_mem hhl)
      clear hr hc
      generalize l[(i + j) / 2] = y at *
      go_wp2_with fail
      refine (cmp_bk y p _ hal hp).mono ?_
      rintro e w1 ⟨rfl, hb1⟩
      have hb4 := Below.step hb3 hb1
      clear hc0 hc1 hc2
      by_cases hlt2 : y.a < p
      · have h4 := hiff.out.2 hlt2
        have h5 : (y.a : Int) - p < 0 := by omega
        go_wp2
        go_roundw
        case rel => exact ⟨(i + j) / 2 + 1, j, by omega, h2, h3, by go_num, rfl, hb4⟩
        case measure => simp [intOf]; omega
      · have h4 : ¬ (i + j) / 2 < lb l p := fun h => hlt2 (hiff.out.1 h)
        have h5 : ¬ (y.a : Int) - p < 0 := by omega
        go_wp2
        go_roundw
        case rel => exact ⟨i, (i + j) / 2, h1, by omega, by omega, rfl, by go_num, hb4⟩
        case measure => simp [intOf]; omega
    · obtain rfl : i = lb l p := by omega
      have hkk : (lb l p : Int) ≤ l.length := by omega
      by_cases hk : lb l p < l.length
      · obtain ⟨b, off, rfl, hb, hc⟩ := row_elem encBk_length (by decide) (hr.below hb3) hk
        obtain ⟨hc0, hc1, hc2⟩ := encBk_cells hc
        have hal := ha _ (List.getElem_mem hk)
        have hat := Hid.mk (hasB_at hrise (a := p) hk)
        have hk2 : (lb l p : Int) < l.length := by omega
        clear hr hc
        generalize l[lb l p] = y at *
        generalize hK0 : lb l p = K at *
        have HK := Hid.mk hK0
        clear hK0
        go_wp2_with fail
        refine (cmp_bk y p _ hal hp).mono ?_
        rintro e w1 ⟨rfl, hb1⟩
        have hb4 := Below.step hb3 hb1
        clear hc0 hc1 hc2
        by_cases hy : y.a = p
        · have h5 : ((y.a : Int) - p == 0) = true := by rw [beq_iff_eq]; omega
          go_wp2
          go_ret2
          refine ⟨?_, hb4⟩
          rw [hat.out, HK.out, decide_eq_true hy]; rfl
        · have h5 : ((y.a : Int) - p == 0) = false := by rw [beq_eq_false_iff_ne]; omega
          go_wp2
          go_ret2
          refine ⟨?_, hb4⟩
          rw [hat.out, HK.out, decide_eq_false hy]; rfl
      · have hat := Hid.mk (hasB_end hrise (a := p) (by omega))
        have hk2 : ¬ (lb l p : Int) < l.length := by omega
        clear hr
        generalize hK0 : lb l p = K at *
        have HK := Hid.mk hK0
        clear hK0
        go_wp2
        go_ret2
        refine ⟨?_, hb3⟩
        rw [hat.out, HK.out]; rfl
end Go.Proofs.YtkcaheebaicinaaGreatDoor
