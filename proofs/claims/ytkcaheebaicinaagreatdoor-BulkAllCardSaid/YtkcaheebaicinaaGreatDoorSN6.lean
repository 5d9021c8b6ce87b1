/- Blk2: texts of this claim, joined. -/
import Derived.Test.YtkcaheebaicinaaGreatDoorSN5
import Derived.Lib.SliceRun
/- Contracts of package buddy: find, Copy, and the library's Clone, IndexFunc, ContainsFunc at Block and int. -/
namespace Go.Proofs.YtkcaheebaicinaaGreatDoor
open Go.RowKit
set_option linter.unusedVariables false

/-! ## Types of page groups -/
def encT (t : Nat) : List Value := [vI t]
theorem encT_length (t : Nat) : (encT t).length = 1 := rfl
theorem encT_cells {w : World} {g o : Nat} {r : Nat} (hc : ∀ i v, (encT r)[i]? = some v → w.cell? ⟨g, o + i, none⟩ = some v) : w.cell? ⟨g, o, none⟩ = some (.int .i64 r) := hc 0 _ rfl
theorem info_int : (Tryz.prog.info? 3).map (fun i => (i.zero, i.size, i.bytes)) = some (some (.int .i64 0), 1, 8) := by kernel_rfl
theorem encT_one (l : List Nat) : ∀ u ∈ flat encT l, u.oneCell' = true := by
  intro u hu
  obtain ⟨r, _, hr⟩ := List.mem_flatMap.1 hu
  simp only [encT, List.mem_cons, List.not_mem_nil, or_false] at hr
  subst hr; rfl

def findI {α : Type} (p : α → Bool) (xs : List α) : Int := match xs.findIdx? p with | some i => (i : Int) | none => -1
theorem findI_hit {α : Type} {p : α → Bool} {xs : List α} {k : Nat} (hk : k < xs.length) (h : p xs[k] = true) (hn : ∀ x ∈ xs.take k, p x = false) : findI p xs = k := by
  have e : xs.findIdx? p = some k := by
    rw [List.findIdx?_eq_some_iff_getElem]
    refine ⟨hk, h, fun j hj => ?_⟩
    have := hn (xs[j]'(by omega)) (by rw [List.mem_take_iff_getElem]; exact ⟨j, by omega, rfl⟩)
    simp [this]
  simp [findI, e]
theorem findI_miss {α : Type} {p : α → Bool} {xs : List α} (hn : ∀ x ∈ xs, p x = false) : findI p xs = -1 := by
  have e : xs.findIdx? p = none := by rw [List.findIdx?_eq_none_iff]; exact hn
  simp [findI, e]
theorem findI_nonneg {α : Type} (p : α → Bool) (xs : List α) : decide (0 ≤ findI p xs) = xs.any p := by
  unfold findI
  cases h : xs.findIdx? p with
  | none => rw [List.findIdx?_eq_none_iff] at h; symm; simpa using h
  | some i => rw [List.findIdx?_eq_some_iff_getElem] at h; obtain ⟨hi, hp, _⟩ := h; symm; simp only [Int.natCast_nonneg, decide_true, List.any_eq_true]; exact ⟨_, List.getElem_mem hi, hp⟩

/-- slices.Clone at api.Block -/
theorem cloneBk (a : Option Addr) (n cap : Nat) (xs : List Bk) (w : World) (hn : xs.length = n) (hl : n * 24 ≤ 140737488355328) (hr : Row w a (flat encBk xs)) :
    Calls Tryz.prog 98 #[.slice a n cap] w fun e w' => ∃ a' c', e = .returned (.slice a' n c') ∧ w'.ownsRow w.heap.size 95 3 (.slice a' n c') n (flat encBk xs) ∧ Below w.heap.size w w' := by
  have q22 : ∀ (w : World) (a : Option Addr) (n c n' c' : Nat), (binOp .eql 33 (.slice a n c) (.slice none n' c')).run Tryz.prog w = .ok (.bool a.isNone) w := fun w a n c n' c' => Lib.run_eql_slice_nil w _ _ a n c n' c' Tryz.underlying33
  subst hn
  cases a with
  | none =>
    have hx : xs = [] := by
      cases xs with
      | nil => rfl
      | cons u l => obtain ⟨b, off, e1, _⟩ := row_elem encBk_length (by decide) hr (j := 0) (by simp); cases e1
    subst hx
    go_enter Tryz.func98, Tryz.ntmps98
    go_wp2
    go_ret
    exact ⟨none, 0, rfl, World.ownsRow_nil _ _ _ _, Below.refl _ _⟩
  | some ad =>
    go_enter Tryz.func98, Tryz.ntmps98
    go_wp2_with (at_builtin; refine wpList_app rfl _ _ 33 rfl w.heap.size 95 (.agg #[.int .i64 0, .int .i64 0, .int .i64 0]) 3 24 Tryz.underlying33 info_bk rfl (by decide) (by decide) _ _ _ _ rfl (World.ownsRow_made w #[] 0 (Nat.le_refl _) (Nat.zero_le _) (by simp)) (some ad) xs.length cap (flat encBk xs) rfl ?q1 ?q2 ?q3 ?q4 ?q5 ?_)
    case q1 => exact flat_length encBk_length xs
    case q2 => exact hr.below (below_alloc _ _)
    case q3 => exact encBk_one xs
    case q4 => rw [Nat.zero_add]; exact hl
    case q5 => simp
    intro a' c' w1 hown hgrow
    go_wp2
    go_ret
    exact ⟨a', c', rfl, hown, (below_alloc w _).grown hgrow (by simp) (by intro k hk; simp [Value.ownBlock] at hk; omega)⟩

/-- slices.Clone at int -/
theorem cloneT (a : Option Addr) (n cap : Nat) (xs : List Nat) (w : World) (hn : xs.length = n) (hl : n * 8 ≤ 140737488355328) (hr : Row w a (flat encT xs)) :
    Calls Tryz.prog 60 #[.slice a n cap] w fun e w' => ∃ a' c', e = .returned (.slice a' n c') ∧ w'.ownsRow w.heap.size 3 1 (.slice a' n c') n (flat encT xs) ∧ Below w.heap.size w w' := by
  have q22 : ∀ (w : World) (a : Option Addr) (n c n' c' : Nat), (binOp .eql 30 (.slice a n c) (.slice none n' c')).run Tryz.prog w = .ok (.bool a.isNone) w := fun w a n c n' c' => Lib.run_eql_slice_nil w _ _ a n c n' c' Tryz.underlying30
  subst hn
  cases a with
  | none =>
    have hx : xs = [] := by
      cases xs with
      | nil => rfl
      | cons u l => obtain ⟨b, off, e1, _⟩ := row_elem encT_length (by decide) hr (j := 0) (by simp); cases e1
    subst hx
    go_enter Tryz.func60, Tryz.ntmps60
    go_wp2
    go_ret
    exact ⟨none, 0, rfl, World.ownsRow_nil _ _ _ _, Below.refl _ _⟩
  | some ad =>
    go_enter Tryz.func60, Tryz.ntmps60
    go_wp2_with (at_builtin; refine wpList_app rfl _ _ 30 rfl w.heap.size 3 (.int .i64 0) 1 8 Tryz.underlying30 info_int rfl (by decide) (by decide) _ _ _ _ rfl (World.ownsRow_made w #[] 0 (Nat.le_refl _) (Nat.zero_le _) (by simp)) (some ad) xs.length cap (flat encT xs) rfl ?q1 ?q2 ?q3 ?q4 ?q5 ?_)
    case q1 => exact flat_length encT_length xs
    case q2 => exact hr.below (below_alloc _ _)
    case q3 => exact encT_one xs
    case q4 => rw [Nat.zero_add]; exact hl
    case q5 => simp
    intro a' c' w1 hown hgrow
    go_wp2
    go_ret
    exact ⟨a', c', rfl, hown, (below_alloc w _).grown hgrow (by simp) (by intro k hk; simp [Value.ownBlock] at hk; omega)⟩

/-- slices.IndexFunc at api.Block, with a predicate that may lay blocks of its own -/
theorem indexFuncBk (a : Option Addr) (n cap : Nat) (l : List Bk) (g : Nat) (lb : Array Value) (p : Bk → Bool) (w : World) (hn : l.length = n) (hl : n ≤ 9223372036854775807) (hr : Row w a (flat encBk l)) (eg : ∀ args w, (callFunc g args).run Tryz.prog w = .ok (.enter g args) w)
    (hp : ∀ W, Below w.heap.size w W → ∀ x ∈ l, Calls Tryz.prog g (#[.agg (encBk x).toArray] ++ lb) W fun e w' => e = .returned (.bool (p x)) ∧ Below W.heap.size W w') :
    Calls Tryz.prog 137 #[.slice a n cap, .func (.func g) #[] lb] w fun e w' => e = .returned (.int .i64 (findI p l)) ∧ Below w.heap.size w w' := by
  subst hn
  go_enter Tryz.func137, Tryz.ntmps137
  go_wp2
  go_loopw [5, 8] (fun _ s8 wr => ∃ k : Nat, k ≤ l.length ∧ s8 = .int .i64 k ∧ Hid (∀ x ∈ l.take k, p x = false) ∧ Below w.heap.size w wr) (fun _ s8 _ => l.length - (intOf s8).toNat)
  case atStart => exact ⟨0, Nat.zero_le _, rfl, by simp [Hid], Below.refl _ _⟩
  case round =>
    obtain ⟨k, hk, rfl, hnot, hbw⟩ := hrel
    by_cases hlt : k < l.length
    · obtain ⟨b, off, rfl, hb, hc⟩ := row_elem encBk_length (by decide) (hr.below hbw) hlt
      obtain ⟨hc0, hc1, hc2⟩ := encBk_cells hc
      skip
      have hcall := hp wr hbw l[k] (List.getElem_mem hlt)
      clear hr hp hc
      cases hv : p l[k] with
      | true =>
        have HH := Hid.mk (findI_hit hlt hv hnot.out)
        rw [hv] at hcall
        generalize l[k] = y at *
        go_wp2_with (go_at_fn g; refine hcall.mono ?_; rintro e w' ⟨rfl, hb'⟩)
        go_ret
        exact ⟨ret_int HH.out.symm, Below.step hbw hb'⟩
      | false =>
        rw [hv] at hcall
        have HH : Hid (∀ x ∈ l.take (k + 1), p x = false) := fun x hx => by
          rw [List.take_succ_eq_append_getElem hlt, List.mem_append, List.mem_singleton] at hx
          rcases hx with hx | rfl
          · exact hnot.out x hx
          · exact hv
        generalize l[k] = y at *
        go_wp2_with (go_at_fn g; refine hcall.mono ?_; rintro e w' ⟨rfl, hb'⟩)
        go_roundw
        case rel => exact ⟨k + 1, by omega, by go_num, HH.out, Below.step hbw hb'⟩
        case measure => simp [intOf]; omega
    · obtain rfl : k = l.length := by omega
      go_wp2
      go_ret
      exact ⟨ret_int (findI_miss (by simpa [Hid] using hnot)).symm, hbw⟩

/-- slices.ContainsFunc at api.Block -/
theorem containsFuncBk (a : Option Addr) (n cap : Nat) (l : List Bk) (g : Nat) (lb : Array Value) (p : Bk → Bool) (w : World) (hn : l.length = n) (hl : n ≤ 9223372036854775807) (hr : Row w a (flat encBk l)) (eg : ∀ args w, (callFunc g args).run Tryz.prog w = .ok (.enter g args) w)
    (hp : ∀ W, Below w.heap.size w W → ∀ x ∈ l, Calls Tryz.prog g (#[.agg (encBk x).toArray] ++ lb) W fun e w' => e = .returned (.bool (p x)) ∧ Below W.heap.size W w') :
    Calls Tryz.prog 123 #[.slice a n cap, .func (.func g) #[] lb] w fun e w' => e = .returned (.bool (l.any p)) ∧ Below w.heap.size w w' := by
  go_enter Tryz.func123, Tryz.ntmps123
  go_wp2_with (go_at_call 137; refine (indexFuncBk _ _ _ l _ _ p _ hn hl hr eg hp).mono ?_; rintro e w' ⟨rfl, hb'⟩)
  go_ret
  exact ⟨ret_bool (findI_nonneg p l), hb'⟩

/-- slices.IndexFunc at int, with a predicate that may lay blocks of its own -/
theorem indexFuncT (a : Option Addr) (n cap : Nat) (l : List Nat) (g : Nat) (lb : Array Value) (p : Nat → Bool) (w : World) (hn : l.length = n) (hl : n ≤ 9223372036854775807) (hr : Row w a (flat encT l)) (eg : ∀ args w, (callFunc g args).run Tryz.prog w = .ok (.enter g args) w)
    (hp : ∀ W, Below w.heap.size w W → ∀ x ∈ l, Calls Tryz.prog g (#[.int .i64 (x : Int)] ++ lb) W fun e w' => e = .returned (.bool (p x)) ∧ Below W.heap.size W w') :
    Calls Tryz.prog 106 #[.slice a n cap, .func (.func g) #[] lb] w fun e w' => e = .returned (.int .i64 (findI p l)) ∧ Below w.heap.size w w' := by
  subst hn
  go_enter Tryz.func106, Tryz.ntmps106
  go_wp2
  go_loopw [5, 8] (fun _ s8 wr => ∃ k : Nat, k ≤ l.length ∧ s8 = .int .i64 k ∧ Hid (∀ x ∈ l.take k, p x = false) ∧ Below w.heap.size w wr) (fun _ s8 _ => l.length - (intOf s8).toNat)
  case atStart => exact ⟨0, Nat.zero_le _, rfl, by simp [Hid], Below.refl _ _⟩
  case round =>
    obtain ⟨k, hk, rfl, hnot, hbw⟩ := hrel
    by_cases hlt : k < l.length
    · obtain ⟨b, off, rfl, hb, hc⟩ := row_elem encT_length (by decide) (hr.below hbw) hlt
      obtain hc0 := encT_cells hc
      rw [Nat.mul_one] at hc0
      have hcall := hp wr hbw l[k] (List.getElem_mem hlt)
      clear hr hp hc
      cases hv : p l[k] with
      | true =>
        have HH := Hid.mk (findI_hit hlt hv hnot.out)
        rw [hv] at hcall
        generalize l[k] = y at *
        go_wp2_with (go_at_fn g; refine hcall.mono ?_; rintro e w' ⟨rfl, hb'⟩)
        go_ret
        exact ⟨ret_int HH.out.symm, Below.step hbw hb'⟩
      | false =>
        rw [hv] at hcall
        have HH : Hid (∀ x ∈ l.take (k + 1), p x = false) := fun x hx => by
          rw [List.take_succ_eq_append_getElem hlt, List.mem_append, List.mem_singleton] at hx
          rcases hx with hx | rfl
          · exact hnot.out x hx
          · exact hv
        generalize l[k] = y at *
        go_wp2_with (go_at_fn g; refine hcall.mono ?_; rintro e w' ⟨rfl, hb'⟩)
        go_roundw
        case rel => exact ⟨k + 1, by omega, by go_num, HH.out, Below.step hbw hb'⟩
        case measure => simp [intOf]; omega
    · obtain rfl : k = l.length := by omega
      go_wp2
      go_ret
      exact ⟨ret_int (findI_miss (by simpa [Hid] using hnot)).symm, hbw⟩

/-- slices.ContainsFunc at int -/
theorem containsFuncT (a : Option Addr) (n cap : Nat) (l : List Nat) (g : Nat) (lb : Array Value) (p : Nat → Bool) (w : World) (hn : l.length = n) (hl : n ≤ 9223372036854775807) (hr : Row w a (flat encT l)) (eg : ∀ args w, (callFunc g args).run Tryz.prog w = .ok (.enter g args) w)
    (hp : ∀ W, Below w.heap.size w W → ∀ x ∈ l, Calls Tryz.prog g (#[.int .i64 (x : Int)] ++ lb) W fun e w' => e = .returned (.bool (p x)) ∧ Below W.heap.size W w') :
    Calls Tryz.prog 70 #[.slice a n cap, .func (.func g) #[] lb] w fun e w' => e = .returned (.bool (l.any p)) ∧ Below w.heap.size w w' := by
  go_enter Tryz.func70, Tryz.ntmps70
  go_wp2_with (go_at_call 106; refine (indexFuncT _ _ _ l _ _ p _ hn hl hr eg hp).mono ?_; rintro e w' ⟨rfl, hb'⟩)
  go_ret
  exact ⟨ret_bool (findI_nonneg p l), hb'⟩


/-! ## Zones in memory -/
structure ZAt (w : World) (a1 a2 : Option Addr) (n1 n2 : Nat) (z : Zn) : Prop where
  l1 : z.l.length = n1
  l2 : z.y.length = n2
  r1 : Row w a1 (flat encBk z.l)
  r2 : Row w a2 (flat encT z.y)
theorem ZAt.below {w w' : World} {a1 a2 : Option Addr} {n1 n2 : Nat} {z : Zn} (h : ZAt w a1 a2 n1 n2 z) (hb : Below w.heap.size w w') : ZAt w' a1 a2 n1 n2 z := ⟨h.l1, h.l2, h.r1.below hb, h.r2.below hb⟩
structure ZOwn (w : World) (base : Nat) (a1 a2 : Option Addr) (n1 n2 c1 c2 : Nat) (z : Zn) : Prop where
  l1 : z.l.length = n1
  l2 : z.y.length = n2
  o1 : w.ownsRow base 95 3 (.slice a1 n1 c1) n1 (flat encBk z.l)
  o2 : w.ownsRow base 3 1 (.slice a2 n2 c2) n2 (flat encT z.y)
section
variable {w : World} {bs : Nat} {a1 a2 : Option Addr} {n1 n2 c1 c2 : Nat} {z : Zn}
theorem ZOwn.at (h : ZOwn w bs a1 a2 n1 n2 c1 c2 z) : ZAt w a1 a2 n1 n2 z := ⟨h.l1, h.l2, own_row h.o1, own_row h.o2⟩
theorem ZOwn.below {w' : World} (h : ZOwn w bs a1 a2 n1 n2 c1 c2 z) (hb : Below w.heap.size w w') : ZOwn w' bs a1 a2 n1 n2 c1 c2 z := ⟨h.l1, h.l2, own_below h.o1 hb (Nat.le_refl _), own_below h.o2 hb (Nat.le_refl _)⟩
theorem ZOwn.base {base' : Nat} (h : ZOwn w bs a1 a2 n1 n2 c1 c2 z) (hb : base' ≤ bs) : ZOwn w base' a1 a2 n1 n2 c1 c2 z := ⟨h.l1, h.l2, own_base h.o1 hb, own_base h.o2 hb⟩
theorem ZOwn.set (h : ZOwn w bs a1 a2 n1 n2 c1 c2 z) {g : Nat} (hg : (Value.slice a1 n1 c1).ownBlock ≠ some g ∧ (Value.slice a2 n2 c2).ownBlock ≠ some g) (i : Nat) (u : Value) : ZOwn (w.setCell ⟨g, i, none⟩ u) bs a1 a2 n1 n2 c1 c2 z := ⟨h.l1, h.l2, own_set h.o1 hg.1 u, own_set h.o2 hg.2 u⟩
theorem ZOwn.ne (h : ZOwn w bs a1 a2 n1 n2 c1 c2 z) {g : Nat} (hg : g < bs ∨ w.heap.size ≤ g) : (Value.slice a1 n1 c1).ownBlock ≠ some g ∧ (Value.slice a2 n2 c2).ownBlock ≠ some g := ⟨own_ne h.o1 hg, own_ne h.o2 hg⟩
end

theorem find_ok (a1 a2 : Option Addr) (n1 n2 c1 c2 : Nat) (f e : Nat) (z : Zn) (p : Nat) (w : World) (hat : ZAt w a1 a2 n1 n2 z) (hl : n1 ≤ 1000) (hrise : Rise z.l) (ha : ∀ b ∈ z.l, b.a ≤ 1000) (hp : p ≤ 1000) :
    Calls Tryz.prog 125 #[.agg #[.int .i64 f, .int .i64 e, .slice a1 n1 c1, .slice a2 n2 c2], .int .i64 p] w fun e w' => e = .returned (.tuple #[.int .i64 (lb z.l p : Int), .bool (hasB z.l p)]) ∧ Below w.heap.size w w' := by
  have hb := below_alloc w (.cells #[.int .i64 (f : Int), .int .i64 (e : Int), .slice a1 n1 c1, .slice a2 n2 c2] 110)
  have hr := (hat.below hb).r1
  have l1 := hat.l1
  clear hat
  go_enter Tryz.func125, Tryz.ntmps125
  go_wp2_with fail
  refine (search_bk _ _ _ z.l p _ l1 hl hr hrise ha hp).mono ?_
  rintro e w' ⟨rfl, hb'⟩
  go_wp2
  go_ret2
  exact ⟨rfl, Below.step hb hb'⟩
end Go.Proofs.YtkcaheebaicinaaGreatDoor
