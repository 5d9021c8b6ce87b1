/- Low1, Rk1, Zn4, Cnt, Base4, Safe: texts of this claim, joined. -/
import Derived.Test.YtkcaheebaicinaaGreatDoorSN2
import Derived.Test.YtkcaheebaicinaaGreatDoorSN3
import Derived.Lib.SliceRun
import Derived.Deep.QuietTactic
import Derived.BigQuiet
import Derived.WalkSmall
/- Contracts of picked and slab.Layout (plain number functions). -/
namespace Go.Proofs.YtkcaheebaicinaaGreatDoor
open Go.RowKit

/-- Layout's loop of three rounds, one by one -/
theorem layout_bad (k : Int) (w : World) (h1 : 65 ≤ k) (h2 : k ≤ 1000000) :
    Calls Tryz.prog 30 #[.int .i64 k] w fun e w' => e = .returned (.tuple #[.int .i64 0, .int .i64 0, .int .i64 1]) ∧ w = w' := by
  go_enter Tryz.func30, Tryz.ntmps30
  go_wp2
  go_ret3
  exact ⟨rfl, rfl⟩


theorem layout_0 (k : Int) (w : World) (h1 : 1 ≤ k) (h2 : k ≤ 64) (h3 : 4 ≤ 16 / k) :
    Calls Tryz.prog 30 #[.int .i64 k] w fun e w' => e = .returned (.tuple #[.int .i64 0, .int .i64 (16 / k), .int .i64 0]) ∧ w = w' := by
  go_enter Tryz.func30, Tryz.ntmps30
  go_wp2
  refine wp_loop_rounds 1 ?_; rw [rounds_succ]
  go_wp2
  go_ret3
  exact ⟨rfl, rfl⟩

theorem layout_1 (k : Int) (w : World) (h1 : 1 ≤ k) (h2 : k ≤ 64) (h3 : 16 / k < 4) (h4 : 4 ≤ 32 / k) :
    Calls Tryz.prog 30 #[.int .i64 k] w fun e w' => e = .returned (.tuple #[.int .i64 1, .int .i64 (32 / k), .int .i64 0]) ∧ w = w' := by
  go_enter Tryz.func30, Tryz.ntmps30
  go_wp2
  refine wp_loop_rounds 2 ?_; rw [rounds_succ]
  go_wp2
  rw [rounds_succ]
  go_wp2
  go_ret3
  exact ⟨rfl, rfl⟩

theorem layout_2 (k : Int) (w : World) (h1 : 1 ≤ k) (h2 : k ≤ 64) (h3 : 16 / k < 4) (h4 : 32 / k < 4) :
    Calls Tryz.prog 30 #[.int .i64 k] w fun e w' => e = .returned (.tuple #[.int .i64 2, .int .i64 (64 / k), .int .i64 0]) ∧ w = w' := by
  go_enter Tryz.func30, Tryz.ntmps30
  go_wp2
  refine wp_loop_rounds 3 ?_; rw [rounds_succ]
  go_wp2
  rw [rounds_succ]
  go_wp2
  rw [rounds_succ]
  go_wp2
  all_goals (go_ret3; exact ⟨rfl, rfl⟩)
end Go.Proofs.YtkcaheebaicinaaGreatDoor
/- Contracts of the generic functions over []int, and of package ram (words). -/
namespace Go.Proofs.YtkcaheebaicinaaGreatDoor
open Go.RowKit
variable {α : Type}

def inW (len at_ n : Int) : Bool := decide (0 ≤ at_ ∧ 0 ≤ n ∧ n ≤ len ∧ at_ ≤ len - n)

theorem in_any (a : Option Addr) (len cap : Nat) (at_ n : Int) (w : World) (hl : len ≤ 9223372036854775807) (h1 : -9223372036854775808 ≤ n) (h2 : n ≤ 9223372036854775807) :
    Calls Tryz.prog 130 #[.slice a len cap, .int .i64 at_, .int .i64 n] w fun e w' => e = .returned (.bool (inW len at_ n)) ∧ w = w' := by
  by_cases c1 : 0 ≤ at_
  · by_cases c2 : 0 ≤ n
    · by_cases c3 : n ≤ (len : Int)
      · by_cases c4 : at_ ≤ (len : Int) - n
        · go_enter Tryz.func130, Tryz.ntmps130
          go_wp2
          go_ret
          exact ⟨ret_bool (decide_eq_true (by omega)).symm, rfl⟩
        · go_enter Tryz.func130, Tryz.ntmps130
          go_wp2
          go_ret
          exact ⟨ret_bool (decide_eq_false (by omega)).symm, rfl⟩
      · go_enter Tryz.func130, Tryz.ntmps130
        go_wp2
        go_ret
        exact ⟨ret_bool (decide_eq_false (by omega)).symm, rfl⟩
    · go_enter Tryz.func130, Tryz.ntmps130
      go_wp2
      go_ret
      exact ⟨ret_bool (decide_eq_false (by omega)).symm, rfl⟩
  · go_enter Tryz.func130, Tryz.ntmps130
    go_wp2
    go_ret
    exact ⟨ret_bool (decide_eq_false (by omega)).symm, rfl⟩

def findJ (p : α → Bool) (xs : List α) : Int := match xs.findIdx? p with | some i => (i : Int) | none => -1

theorem findJ_hit {p : α → Bool} {xs : List α} {k : Nat} (hk : k < xs.length) (h : p xs[k] = true) (hn : ∀ x ∈ xs.take k, p x = false) : findJ p xs = k := by
  have e : xs.findIdx? p = some k := by
    rw [List.findIdx?_eq_some_iff_getElem]
    refine ⟨hk, h, fun j hj => ?_⟩
    have := hn (xs[j]'(by omega)) (by rw [List.mem_take_iff_getElem]; exact ⟨j, by omega, rfl⟩)
    simp [this]
  simp [findJ, e]
theorem findJ_miss {p : α → Bool} {xs : List α} (hn : ∀ x ∈ xs, p x = false) : findJ p xs = -1 := by
  have e : xs.findIdx? p = none := by rw [List.findIdx?_eq_none_iff]; exact hn
  simp [findJ, e]

theorem index_int (a : Option Addr) (cap : Nat) (xs : List Int) (v : Int) (w : World) (hl : xs.length ≤ 9223372036854775807) (hr : Row w a (xs.map vI)) :
    Calls Tryz.prog 49 #[.slice a xs.length cap, .int .i64 v] w fun e w' => e = .returned (.int .i64 (findJ (v == ·) xs)) ∧ w = w' := by
  go_enter Tryz.func49, Tryz.ntmps49
  go_wp2
  go_loop [5, 8] (fun _ s8 => ∃ k : Nat, k ≤ xs.length ∧ s8 = .int .i64 k ∧ Hid (∀ x ∈ xs.take k, (v == x) = false)) (fun _ s8 => xs.length - (intOf s8).toNat)
  case atStart => exact ⟨0, Nat.zero_le _, rfl, by simp [Hid]⟩
  case round =>
    obtain ⟨k, hk, rfl, hnot⟩ := hrel
    by_cases hlt : k < xs.length
    · obtain ⟨b, off, rfl, hb, hc⟩ := hr k (vI xs[k]) (by simp [hlt])
      simp only [vI] at hc
      clear hr
      cases hv : v == xs[k] with
      | true =>
        go_wp2
        go_ret
        exact ⟨ret_int (findJ_hit hlt hv hnot.out).symm, rfl⟩
      | false =>
        go_wp2
        go_round
        case rel => exact ⟨k + 1, by omega, by go_num, fun x hx => by
          rw [List.take_succ_eq_append_getElem hlt, List.mem_append, List.mem_singleton] at hx
          rcases hx with hx | rfl
          · exact hnot.out x hx
          · exact hv⟩
        case measure => simp [intOf]; omega
    · obtain rfl : k = xs.length := by omega
      go_wp2
      go_ret
      exact ⟨ret_int (findJ_miss (by simpa [Hid] using hnot)).symm, rfl⟩

theorem findJ_nonneg (p : α → Bool) (xs : List α) : decide (0 ≤ findJ p xs) = xs.any p := by
  unfold findJ
  cases h : xs.findIdx? p with
  | none => rw [List.findIdx?_eq_none_iff] at h; symm; simpa using h
  | some i => rw [List.findIdx?_eq_some_iff_getElem] at h; obtain ⟨hi, hp, _⟩ := h; symm; simp only [Int.natCast_nonneg, decide_true, List.any_eq_true]; exact ⟨_, List.getElem_mem hi, hp⟩

def hasI (xs : List Int) (v : Int) : Bool := xs.contains v
def eqI (xs ys : List Int) : Bool := xs == ys

theorem contains_int (a : Option Addr) (cap : Nat) (xs : List Int) (v : Int) (w : World) (hl : xs.length ≤ 9223372036854775807) (hr : Row w a (xs.map vI)) :
    Calls Tryz.prog 18 #[.slice a xs.length cap, .int .i64 v] w fun e w' => e = .returned (.bool (hasI xs v)) ∧ w = w' := by
  go_enter Tryz.func18, Tryz.ntmps18
  go_wp2_with (go_at_call 49; refine (index_int _ _ _ _ _ hl hr).mono ?_; rintro e w' ⟨rfl, rfl⟩)
  go_ret
  exact ⟨ret_bool (by rw [findJ_nonneg, hasI, List.contains_eq_any_beq]), rfl⟩

theorem info_intR : (Tryz.prog.info? 3).map (fun i => (i.zero, i.size, i.bytes)) = some (some (.int .i64 0), 1, 8) := by kernel_rfl

theorem vI_one (xs : List Int) : ∀ u ∈ xs.map vI, u.oneCell' = true := by
  intro u hu
  obtain ⟨x, _, rfl⟩ := List.mem_map.1 hu
  rfl

theorem clone_int (a : Option Addr) (cap : Nat) (xs : List Int) (w : World) (hl : xs.length * 8 ≤ 140737488355328) (hr : Row w a (xs.map vI)) :
    Calls Tryz.prog 60 #[.slice a xs.length cap] w fun e w' => ∃ a' c', e = .returned (.slice a' xs.length c') ∧ w'.ownsRow w.heap.size 3 1 (.slice a' xs.length c') xs.length (xs.map vI) ∧ Below w.heap.size w w' := by
  have q22 : ∀ (w : World) (a : Option Addr) (n c n' c' : Nat), (binOp .eql 30 (.slice a n c) (.slice none n' c')).run Tryz.prog w = .ok (.bool a.isNone) w := fun w a n c n' c' => Lib.run_eql_slice_nil w _ _ a n c n' c' Tryz.underlying30
  cases a with
  | none =>
    have hx : xs = [] := by
      cases xs with
      | nil => rfl
      | cons u l => obtain ⟨b, off, e1, _⟩ := hr 0 (vI u) rfl; cases e1
    subst hx
    go_enter Tryz.func60, Tryz.ntmps60
    go_wp2
    go_ret
    exact ⟨none, 0, rfl, World.ownsRow_nil _ _ _ _, Below.refl _ _⟩
  | some ad =>
    go_enter Tryz.func60, Tryz.ntmps60
    go_wp2_with (at_builtin; refine wpList_app rfl _ _ 30 rfl w.heap.size 3 (.int .i64 0) 1 8 Tryz.underlying30 info_intR rfl (by decide) (by decide) _ _ _ _ rfl (World.ownsRow_made w #[] 0 (Nat.le_refl _) (Nat.zero_le _) (by simp)) (some ad) xs.length cap (xs.map vI) rfl ?q1 ?q2 ?q3 ?q4 ?q5 ?_)
    case q1 => simp
    case q2 => exact hr.below ((Below.refl _ _).alloc (Nat.le_refl _) _)
    case q3 => exact vI_one xs
    case q4 => rw [Nat.zero_add]; exact hl
    case q5 => simp
    intro a' c' w1 hown hgrow
    go_wp2
    go_ret
    exact ⟨a', c', rfl, hown, ((Below.refl _ w).alloc (Nat.le_refl _) _).grown hgrow (by simp) (by intro k hk; simp [Value.ownBlock] at hk; omega)⟩

theorem row_at {w : World} {a : Option Addr} {xs : List Int} (hr : Row w a (xs.map vI)) {k : Nat} (h : k < xs.length) :
    ∃ b off, a = some ⟨b, off, none⟩ ∧ b < w.heap.size ∧ w.cell? ⟨b, off + k, none⟩ = some (.int .i64 xs[k]) :=
  hr k (vI xs[k]) (by simp [h])

end Go.Proofs.YtkcaheebaicinaaGreatDoor
/- Zones of pages in plain words: the same free pages are the same blocks. No program in sight. -/
namespace Go.Proofs.YtkcaheebaicinaaGreatDoor
set_option linter.unusedVariables false

/-- a block that is free page by page lies in one free block -/
theorem in_one {f e : Nat} {m : List Bk} (hf : f % 16 = 0) (he : e % 16 = 0) (hm : OkL f e m) : ∀ (o a : Nat), fitsB f e a o → (∀ p, inB a o p → covL m p) → ∃ c ∈ m, c.a ≤ a ∧ a + 2 ^ o ≤ c.fin
  | 0, a, hb, hc => by
    obtain ⟨c, hcm, hp⟩ := hc a ⟨Nat.le_refl _, by simp⟩
    unfold inB at hp
    exact ⟨c, hcm, hp.1, by unfold Bk.fin; simp only [Nat.pow_zero]; omega⟩
  | o + 1, a, hb, hc => by
    obtain ⟨h1, h2, h3⟩ := fits_half he hb
    have hps : 2 ^ (o + 1) = 2 ^ o + 2 ^ o := by rw [Nat.pow_succ]; omega
    obtain ⟨c, hcm, c1, c2⟩ := in_one hf he hm o a h1 (fun p hp => hc p (by unfold inB at *; omega))
    obtain ⟨d, hdm, d1, d2⟩ := in_one hf he hm o (a + 2 ^ o) h2 (fun p hp => hc p (by unfold inB at *; omega))
    have hcf := hm.fit c hcm
    have hdf := hm.fit d hdm
    have ho4 : o + 1 ≤ 4 := hb.1
    have hfit : a % 2 ^ (o + 1) = 0 := hb.2.2.2
    by_cases hco : o + 1 ≤ c.o
    · refine ⟨c, hcm, c1, ?_⟩
      have h4 := hcf.1.2.2.2
      have h5 := hcf.1.1
      unfold Bk.fin at *
      have hdiv : 2 ^ (o + 1) ∣ c.a := Nat.dvd_trans (Nat.pow_dvd_pow 2 hco) (Nat.dvd_of_mod_eq_zero h4)
      have hdiv2 : 2 ^ (o + 1) ∣ 2 ^ c.o := Nat.pow_dvd_pow 2 hco
      obtain ⟨x, hx⟩ := hdiv
      obtain ⟨y, hy⟩ := hdiv2
      obtain ⟨z, hz⟩ := Nat.dvd_of_mod_eq_zero hfit
      rw [hx, hy, ← Nat.mul_add] at c2 ⊢
      rw [hz] at c1 c2 ⊢
      have hpos := pow_pos' o
      have : z < x + y := by
        rcases Nat.lt_or_ge z (x + y) with h | h
        · exact h
        · have := Nat.mul_le_mul_left (2 ^ (o + 1)) h; omega
      have := Nat.mul_le_mul_left (2 ^ (o + 1)) (Nat.succ_le_of_lt this)
      rw [Nat.mul_succ] at this
      exact this
    · exfalso
      have hcoe : c.o = o := by
        have h5 : 2 ^ o ≤ 2 ^ c.o := by unfold Bk.fin at c2; omega
        have := (Nat.pow_le_pow_iff_right (show 1 < 2 by omega)).1 h5
        omega
      have hca : c.a = a := by unfold Bk.fin at c2; rw [hcoe] at c2; omega
      have hne : ¬ (d.a ≤ a) := by
        intro hle
        obtain ⟨i, hi, rfl⟩ := List.getElem_of_mem hcm
        obtain ⟨j, hj, rfl⟩ := List.getElem_of_mem hdm
        have hpos := pow_pos' o
        by_cases hij : i = j
        · subst hij; unfold Bk.fin at *; rw [hcoe, hca] at *; omega
        · have := sep_two hm.sep hi hj hij
          unfold Bk.fin at *; rw [hcoe, hca] at *; omega
      have hda : d.a = a + 2 ^ o ∧ d.o = o := by
        have hdo : d.o ≤ o ∨ o < d.o := by omega
        have h5 : 2 ^ o ≤ 2 ^ d.o := by unfold Bk.fin at d2; omega
        have h6 := (Nat.pow_le_pow_iff_right (show 1 < 2 by omega)).1 h5
        have h7 : d.o = o := by
          rcases hdo with h | h
          · omega
          · exfalso
            have h8 := hdf.1.2.2.2
            obtain ⟨x, hx⟩ := Nat.dvd_trans (Nat.pow_dvd_pow 2 (show o + 1 ≤ d.o by omega)) (Nat.dvd_of_mod_eq_zero h8)
            obtain ⟨z, hz⟩ := Nat.dvd_of_mod_eq_zero hfit
            have hpos := pow_pos' o
            have h9 : z < x := by
              rcases Nat.lt_or_ge z x with h | h
              · exact h
              · have := Nat.mul_le_mul_left (2 ^ (o + 1)) h
                rw [← hx, ← hz] at this
                omega
            have h10 := Nat.mul_le_mul_left (2 ^ (o + 1)) (Nat.succ_le_of_lt h9)
            rw [Nat.mul_succ, ← hx, ← hz] at h10
            omega
        refine ⟨?_, h7⟩
        unfold Bk.fin at d2
        rw [h7] at d2
        omega
      exact hm.nob d hdm c hcm (by omega) (by omega) (by rw [hda.1, hda.2, h3, hca])

def keyB (b : Bk) : Nat × Nat := (b.a, b.o)
theorem same_mem {f e : Nat} {l m : List Bk} (hf : f % 16 = 0) (he : e % 16 = 0) (hl : OkL f e l) (hm : OkL f e m) (hc : ∀ p, covL l p ↔ covL m p) : ∀ b ∈ l, ∃ c ∈ m, keyB c = keyB b := by
  intro b hb
  have hbf := (hl.fit b hb).1
  obtain ⟨c, hcm, c1, c2⟩ := in_one hf he hm b.o b.a hbf (fun p hp => (hc p).1 ⟨b, hb, hp⟩)
  have hcf := (hm.fit c hcm).1
  obtain ⟨d, hd, d1, d2⟩ := in_one hf he hl c.o c.a hcf (fun p hp => (hc p).2 ⟨c, hcm, hp⟩)
  have hpb := pow_pos' b.o
  have hpd := pow_pos' d.o
  refine ⟨c, hcm, ?_⟩
  obtain ⟨i, hi, rfl⟩ := List.getElem_of_mem hb
  obtain ⟨j, hj, rfl⟩ := List.getElem_of_mem hd
  have hij : i = j := by
    by_cases hij : i = j
    · exact hij
    · exfalso
      have := sep_two hl.sep hi hj hij
      unfold Bk.fin at *
      omega
  subst hij
  have ha : c.a = l[i].a := by omega
  unfold Bk.fin at *
  have hpow : 2 ^ c.o = 2 ^ l[i].o := by omega
  have ho : c.o = l[i].o := by
    have h1 := (Nat.pow_le_pow_iff_right (show 1 < 2 by omega)).1 (Nat.le_of_eq hpow)
    have h2 := (Nat.pow_le_pow_iff_right (show 1 < 2 by omega)).1 (Nat.le_of_eq hpow.symm)
    omega
  unfold keyB
  rw [ha, ho]

theorem same_sorted : ∀ (l m : List Bk), Rise l → Rise m → (∀ b ∈ l, ∃ c ∈ m, keyB c = keyB b) → (∀ b ∈ m, ∃ c ∈ l, keyB c = keyB b) → l.map keyB = m.map keyB
  | [], [], _, _, _, _ => rfl
  | [], y :: m, _, _, _, h => by obtain ⟨c, hc, _⟩ := h y (by simp); simp at hc
  | x :: l, [], _, _, h, _ => by obtain ⟨c, hc, _⟩ := h x (by simp); simp at hc
  | x :: l, y :: m, hl, hm, h1, h2 => by
    have hlp := List.pairwise_cons.1 hl
    have hmp := List.pairwise_cons.1 hm
    have hxy : keyB x = keyB y := by
      obtain ⟨c, hc, hcx⟩ := h1 x (by simp)
      obtain ⟨d, hd, hdy⟩ := h2 y (by simp)
      rw [List.mem_cons] at hc hd
      rcases hc with rfl | hc
      · exact hcx.symm
      · rcases hd with rfl | hd
        · exact hdy
        · have g1 := hmp.1 c hc
          have g2 := hlp.1 d hd
          unfold keyB at hcx hdy
          simp only [Prod.mk.injEq] at hcx hdy
          omega
    have hxa : x.a = y.a := by unfold keyB at hxy; simp only [Prod.mk.injEq] at hxy; exact hxy.1
    rw [List.map_cons, List.map_cons, hxy, same_sorted l m hlp.2 hmp.2 (fun b hb => ?_) (fun b hb => ?_)]
    · obtain ⟨c, hc, hcb⟩ := h1 b (by simp [hb])
      rw [List.mem_cons] at hc
      rcases hc with rfl | hc
      · exfalso
        have := hlp.1 b hb
        unfold keyB at hcb
        simp only [Prod.mk.injEq] at hcb
        omega
      · exact ⟨c, hc, hcb⟩
    · obtain ⟨c, hc, hcb⟩ := h2 b (by simp [hb])
      rw [List.mem_cons] at hc
      rcases hc with rfl | hc
      · exfalso
        have := hmp.1 b hb
        unfold keyB at hcb
        simp only [Prod.mk.injEq] at hcb
        omega
      · exact ⟨c, hc, hcb⟩

/-- the same free pages are the same blocks, but for types -/
theorem same_blocks {f e : Nat} {l m : List Bk} (hf : f % 16 = 0) (he : e % 16 = 0) (hl : OkL f e l) (hm : OkL f e m) (hc : ∀ p, covL l p ↔ covL m p) : l.map keyB = m.map keyB :=
  same_sorted l m hl.rise hm.rise (same_mem hf he hl hm hc) (same_mem hf he hm hl (fun p => (hc p).symm))
end Go.Proofs.YtkcaheebaicinaaGreatDoor
/- How often a page is in a list of blocks. No program in sight. -/
namespace Go.Proofs.YtkcaheebaicinaaGreatDoor
set_option linter.unusedVariables false

def hit (b : Bk) (p : Nat) : Nat := if b.a ≤ p ∧ p < b.fin then 1 else 0
def cnt : List Bk → Nat → Nat
  | [], _ => 0
  | b :: l, p => hit b p + cnt l p
theorem cnt_append (l m : List Bk) (p : Nat) : cnt (l ++ m) p = cnt l p + cnt m p := by
  induction l with
  | nil => simp [cnt]
  | cons b l ih => rw [List.cons_append, cnt, cnt, ih]; omega
theorem cnt_perm {l m : List Bk} (h : l.Perm m) (p : Nat) : cnt l p = cnt m p := by
  induction h with
  | nil => rfl
  | cons x _ ih => rw [cnt, cnt, ih]
  | swap x y l => rw [cnt, cnt, cnt, cnt]; omega
  | trans _ _ h1 h2 => rw [h1, h2]
theorem hit_one {b : Bk} {p : Nat} : hit b p = 1 ↔ inB b.a b.o p := by
  unfold hit inB Bk.fin
  split <;> simp_all
theorem hit_le (b : Bk) (p : Nat) : hit b p ≤ 1 := by unfold hit; split <;> omega
theorem cnt_pos {l : List Bk} {p : Nat} : 0 < cnt l p ↔ covL l p := by
  induction l with
  | nil => simp [cnt, covL]
  | cons b l ih =>
    rw [cnt]
    constructor
    · intro h
      by_cases hb : hit b p = 1
      · exact ⟨b, by simp, hit_one.1 hb⟩
      · have h1 := hit_le b p
        obtain ⟨c, hc, hp⟩ := ih.1 (by omega)
        exact ⟨c, by simp [hc], hp⟩
    · rintro ⟨c, hc, hp⟩
      rw [List.mem_cons] at hc
      rcases hc with rfl | hc
      · have := hit_one.2 hp; omega
      · have := ih.2 ⟨c, hc, hp⟩; omega
/-- blocks that lie apart have each page once at most -/
theorem cnt_apart {l : List Bk} (hd : l.Pairwise fun b c => apartB b.a b.o c) (p : Nat) : cnt l p ≤ 1 := by
  induction l with
  | nil => simp [cnt]
  | cons b l ih =>
    obtain ⟨h1, h2⟩ := List.pairwise_cons.1 hd
    rw [cnt]
    have h3 := hit_le b p
    have h4 := ih h2
    by_cases hb : hit b p = 1
    · have hz : ¬ 0 < cnt l p := fun h => by
        obtain ⟨c, hc, hp⟩ := cnt_pos.1 h
        exact disj_of_apart (h1 c hc) p (hit_one.1 hb) hp
      omega
    · omega
theorem sep_apart {l : List Bk} (h : l.Pairwise fun x y => x.fin ≤ y.a) : l.Pairwise fun b c => apartB b.a b.o c := h.imp fun {x y} h => by unfold apartB Bk.fin at *; omega
/-- where no page is there twice, two blocks of the list lie apart -/
theorem apart_of_cnt {l : List Bk} (h : ∀ p, cnt l p ≤ 1) {b c : Bk} {l' : List Bk} (hp : l.Perm (b :: c :: l')) : apartB b.a b.o c :=
  apart_of_disj fun p h1 h2 => by
    have h3 := h p
    rw [cnt_perm hp, cnt, cnt, hit_one.2 h1, hit_one.2 h2] at h3
    omega
theorem apart_of_app {l m : List Bk} (h : ∀ p, cnt (l ++ m) p ≤ 1) : ∀ b ∈ l, ∀ c ∈ m, apartB b.a b.o c := fun b hb c hc =>
  apart_of_disj fun p h1 h2 => by
    have h3 := h p
    rw [cnt_append] at h3
    have g1 := cnt_pos.2 (show covL l p from ⟨b, hb, h1⟩)
    have g2 := cnt_pos.2 (show covL m p from ⟨c, hc, h2⟩)
    omega

/-- what Take does to the counts -/
theorem cnt_take {z z' : Zn} {order at_ : Nat} (hz : z.ok) (ht : Taken z order z' at_) (t : Nat) (p : Nat) : cnt z'.l p + hit ⟨at_, order, t⟩ p = cnt z.l p := by
  have h1 := cnt_apart (sep_apart hz.2.sep) p
  have h2 := cnt_apart (sep_apart ht.ok.2.sep) p
  have h3 := ht.cov p
  have h4 := hit_le ⟨at_, order, t⟩ p
  have h5 : hit ⟨at_, order, t⟩ p = 1 ↔ inB at_ order p := hit_one
  have c1 := @cnt_pos z.l p
  have c2 := @cnt_pos z'.l p
  by_cases hp : inB at_ order p
  · have e1 := h5.2 hp
    have e2 : ¬ 0 < cnt z'.l p := fun h => by
      obtain ⟨c, hc, hcp⟩ := c2.1 h
      exact disj_of_apart (ht.apart c hc) p hp hcp
    have e3 := c1.2 (h3.1 (.inr hp))
    omega
  · have e1 : hit ⟨at_, order, t⟩ p = 0 := by
      have : ¬ hit ⟨at_, order, t⟩ p = 1 := fun h => hp (h5.1 h)
      omega
    by_cases hc : covL z.l p
    · have e2 := c1.2 hc
      rcases h3.2 hc with h | h
      · have := c2.2 h; omega
      · exact absurd h hp
    · have e2 : ¬ 0 < cnt z.l p := fun h => hc (c1.1 h)
      have e3 : ¬ 0 < cnt z'.l p := fun h => hc (h3.1 (.inl (c2.1 h)))
      omega
/-- what Back does to the counts -/
theorem cnt_back {z : Zn} (hz : z.ok) {a o : Nat} (hb : fitsB z.f z.e a o) (hd : ∀ x ∈ z.l, apartB a o x) (t p : Nat) : cnt (z.back a o).l p = cnt z.l p + hit ⟨a, o, t⟩ p := by
  obtain ⟨g1, g2⟩ := Zn.back_ok hz hb hd
  have h1 := cnt_apart (sep_apart hz.2.sep) p
  have h2 := cnt_apart (sep_apart g1.2.sep) p
  have h3 := g2 p
  have h4 := hit_le ⟨a, o, t⟩ p
  have h5 : hit ⟨a, o, t⟩ p = 1 ↔ inB a o p := hit_one
  have c1 := @cnt_pos z.l p
  have c2 := @cnt_pos (z.back a o).l p
  by_cases hp : inB a o p
  · have e1 := h5.2 hp
    have e2 : ¬ 0 < cnt z.l p := fun h => by
      obtain ⟨c, hc, hcp⟩ := c1.1 h
      exact disj_of_apart (hd c hc) p hp hcp
    have e3 := c2.2 (h3.2 (.inr hp))
    omega
  · have e1 : hit ⟨a, o, t⟩ p = 0 := by
      have : ¬ hit ⟨a, o, t⟩ p = 1 := fun h => hp (h5.1 h)
      omega
    by_cases hc : covL z.l p
    · have e2 := c1.2 hc
      have e3 := c2.2 (h3.2 (.inl hc))
      omega
    · have e2 : ¬ 0 < cnt z.l p := fun h => hc (c1.1 h)
      have e3 : ¬ 0 < cnt (z.back a o).l p := fun h => by
        rcases h3.1 (c2.1 h) with h' | h'
        · exact hc h'
        · exact hp h'
      omega

/-! ## The sum of pages -/
/-- pages of blocks, below N, one by one -/
def sumTo (f : Nat → Nat) : Nat → Nat
  | 0 => 0
  | n + 1 => sumTo f n + f n
theorem sumTo_congr {f g : Nat → Nat} : ∀ {n : Nat}, (∀ p, p < n → f p = g p) → sumTo f n = sumTo g n
  | 0, _ => rfl
  | n + 1, h => by rw [sumTo, sumTo, sumTo_congr (fun p hp => h p (by omega)), h n (by omega)]
theorem sumTo_add (f g : Nat → Nat) : ∀ n, sumTo (fun p => f p + g p) n = sumTo f n + sumTo g n
  | 0 => rfl
  | n + 1 => by rw [sumTo, sumTo, sumTo, sumTo_add f g n]; omega
theorem sumTo_hit (b : Bk) : ∀ n, sumTo (hit b) n = min n b.fin - min n b.a
  | 0 => by simp [sumTo]
  | n + 1 => by
    rw [sumTo, sumTo_hit b n]
    unfold hit
    have h1 : b.a < b.fin := by unfold Bk.fin; have := pow_pos' b.o; omega
    split <;> omega
def szB : List Bk → Nat
  | [] => 0
  | b :: l => 2 ^ b.o + szB l
theorem sumTo_cnt {l : List Bk} {N : Nat} (h : ∀ b ∈ l, b.fin ≤ N) : sumTo (cnt l) N = szB l := by
  induction l with
  | nil =>
    have : ∀ n, sumTo (cnt []) n = 0 := fun n => by
      induction n with
      | zero => rfl
      | succ n ih => rw [sumTo, ih]; rfl
    rw [this]; rfl
  | cons b l ih =>
    have h1 : cnt (b :: l) = fun p => hit b p + cnt l p := rfl
    rw [h1, sumTo_add, sumTo_hit, ih (fun c hc => h c (by simp [hc])), szB]
    have h2 := h b (by simp)
    unfold Bk.fin at *
    generalize 2 ^ b.o = q at *
    rw [Nat.min_eq_right h2, Nat.min_eq_right (by omega)]
    omega
theorem szB_append (l m : List Bk) : szB (l ++ m) = szB l + szB m := by
  induction l with
  | nil => simp [szB]
  | cons b l ih => rw [List.cons_append, szB, szB, ih]; omega
end Go.Proofs.YtkcaheebaicinaaGreatDoor
/- 'append' onto an owned row with room; owned rows beside one that grows. No program in sight. -/
namespace Go.Proofs.YtkcaheebaicinaaGreatDoor
open Go.RowKit

/-- 'append' onto an owned row that has room: in place -/
theorem wpList_appr {P : Program} {w : World} {ops : Array Oper} {rest : List Oper} {o : Oper} {a : Act} {Q : Exit → Act → World → Prop} (hgd : o.guard = none) (s x : Operand) (t : TypeId)
    (ho : o.op = .call { callee := .builtin .append, args := #[s, x], argTypes := #[t, t] })
    (base : Nat) (e : TypeId) (z : Value) (size bytes : Nat) (ht : P.underlying t = some (.slice e)) (hinfo : (P.info? e).map (fun i => (i.zero, i.size, i.bytes)) = some (some z, size, bytes)) (hsz : 0 < size)
    (as_ : Option Addr) (n cs : Nat) (xs : List Value) (hs : a.eval s = .slice as_ n cs) (hown : w.ownsRow base e size (.slice as_ n cs) n xs)
    (ax : Option Addr) (m cx : Nat) (news : List Value) (hx : a.eval x = .slice ax m cx) (hl : news.length = m * size) (hnews : Row w ax news) (h1 : ∀ u ∈ news, u.oneCell' = true)
    (hroom : n + m ≤ cs)
    (h : ∀ w', w'.ownsRow base e size (.slice as_ (n + m) cs) (n + m) (xs ++ news) → w.grownBy w' (Value.ownBlock (.slice as_ n cs)) → wpList P ops Q rest (a.put o.dst (.slice as_ (n + m) cs)) w') :
    wpList P ops Q (o :: rest) a w := by
  obtain ⟨i, hi, hz, hsize, hby⟩ := info_parts hinfo
  subst hsize
  refine wpList_plain hgd fun K hK => ?_
  have hlen : (xs ++ news).length = (n + m) * i.size := by rw [List.length_append, hown.1, hl, Nat.add_mul]
  have key : ∃ w', (Builtin.append_ #[t, t] o.type #[.slice as_ n cs, .slice ax m cx]).run P w = .ok (.slice as_ (n + m) cs) w' ∧ w'.ownsRow base e i.size (.slice as_ (n + m) cs) (n + m) (xs ++ news) ∧ w.grownBy w' (Value.ownBlock (.slice as_ n cs)) := by
    rcases Nat.eq_zero_or_pos m with rfl | hm
    · obtain rfl : news = [] := List.eq_nil_of_length_eq_zero (by simpa using hl)
      refine ⟨w, ?_, by simpa using hown, ⟨rfl, rfl, rfl, Nat.le_refl _, fun _ _ _ => rfl⟩⟩
      have hf := firstCells_row (P := P) i.size 0 ax 0 cx [] (by simp) (Row.nil w ax)
      cases as_ with
      | none =>
        rcases hown.2 with ⟨hv, rfl⟩ | ⟨g, cap, cur, hv, _⟩
        · obtain rfl : cs = 0 := by simp at hv; exact hv
          cases ax <;> simp [Builtin.append_, run_underlying ht, sizeOf, typeInfo, hi, Builtin.lenOf, Builtin.firstCells, loadCells, loadCellsFrom]
        · simp at hv
      | some ad =>
        have hn : n ≤ cs := by omega
        cases ax <;> simp [Builtin.append_, run_underlying ht, sizeOf, typeInfo, hi, Builtin.lenOf, Builtin.firstCells, loadCells, loadCellsFrom, hn, storeCells]
    · have hnz : news ≠ [] := by
        intro e; subst e
        have := Nat.mul_pos hm hsz
        simp at hl; omega
      obtain ⟨ad, rfl⟩ : ∃ ad, ax = some ad := by
        cases news with
        | nil => exact absurd rfl hnz
        | cons u l => obtain ⟨b, off, e1, _⟩ := hnews 0 u rfl; exact ⟨_, e1⟩
      rcases hown.2 with ⟨hv, rfl⟩ | ⟨g, cap, cur, hv, hbg, hg, hnc, hcm, hcs, htake⟩
      · obtain ⟨rfl, rfl⟩ : as_ = none ∧ cs = 0 := by simp at hv; exact hv
        omega
      · obtain ⟨rfl, rfl⟩ : as_ = some ⟨g, 0, none⟩ ∧ cs = cap := by simpa using hv
        have hfit : n * i.size + news.length ≤ cur.size := by rw [hl, hcs, ← Nat.add_mul]; exact Nat.mul_le_mul_right _ hroom
        have hr := run_append_room (P := P) w t o.type e i ht hi g n cs cur hg ad m cx news hl (fun j u hj => by
          obtain ⟨b, off, e1, _, h5⟩ := hnews j u hj
          obtain rfl : ad = ⟨b, off, none⟩ := by simpa using e1
          rw [Addr.add_lit]; exact h5) h1 hroom hfit
        refine ⟨_, hr, ⟨hlen, .inr ⟨g, cs, _, rfl, hbg, setRow_heap w g cur _ e _ hg, hroom, hcm, ?_, ?_⟩⟩, ⟨rfl, rfl, rfl, by simp [World.setRow], fun k _ hk => setRow_other w g k _ (fun e => hk (by simp [Value.ownBlock, e]))⟩⟩
        · simp only [List.size_toArray, List.length_append, List.length_take, List.length_drop, Array.length_toList]
          omega
        · rw [htake, ← hlen]
          exact List.take_left
  obtain ⟨w', hr, h2, h3⟩ := key
  unfold Oper.wp execOp
  simp only [ho, resolve, invoke, builtin, Sem.run_bind, Sem.run_pure, Result.andThen_ok, List.map_toArray, List.map_cons, List.map_nil, hs, hx, hr]
  exact hK _ _ (h w' h2 h3)

/-- an owned row behind the growth of another -/
theorem own_grown {w w' : World} {base : Nat} {e : TypeId} {size : Nat} {v : Value} {n : Nat} {xs : List Value} (h : w.ownsRow base e size v n xs) {row : Option Nat} (hg : w.grownBy w' row) (hne : ∀ k, v.ownBlock = some k → row ≠ some k) : w'.ownsRow base e size v n xs := by
  refine ⟨h.1, ?_⟩
  rcases h.2 with h' | ⟨g, cap, cur, h1, h2, hgg, rest⟩
  · exact .inl h'
  · refine .inr ⟨g, cap, cur, h1, h2, ?_, rest⟩
    rw [hg.block g (Array.getElem?_eq_some_iff.1 hgg).1 (fun e => hne g (by rw [h1]; rfl) e.symm)]
    exact hgg

/-- 'clear' of cells behind an owned row's elements, as a run -/
theorem run_clr {P : Program} {w : World} (sT ty : TypeId) (e : TypeId) (hu : P.underlying sT = some (.slice e)) (size : Nat) (z : Value) (hz : ∀ w, (zeroValue e).run P w = .ok z w) (hzs : z.cells.size = size) (hz1 : ∀ u ∈ z.cells, u.oneCell' = true)
    (base n k c : Nat) (cc : Nat) (ao : Option Addr) (xs : List Value) (hown : w.ownsRow base e size (.slice ao n c) n xs) (hfit : n + k ≤ c) :
    ∃ w', (Builtin.clear_ #[sT] ty #[.slice (cutA ao n c size) k cc]).run P w = .ok (.tuple #[]) w' ∧ w'.ownsRow base e size (.slice ao n c) n xs ∧ w.grownBy w' (Value.ownBlock (.slice ao n c)) := by
  rcases Nat.eq_zero_or_pos k with rfl | hk
  · refine ⟨w, ?_, hown, ⟨rfl, rfl, rfl, Nat.le_refl _, fun _ _ _ => rfl⟩⟩
    cases cutA ao n c size <;> simp [Builtin.clear_, run_underlying hu]
  · rcases hown.2 with ⟨h', h2⟩ | ⟨g, cap, cur, h', hb, hg, hn, hcm, hsz, ht⟩
    · obtain ⟨rfl, rfl⟩ : ao = none ∧ c = 0 := by simp at h'; exact ⟨h'.1, h'.2.2⟩
      omega
    · obtain ⟨rfl, rfl⟩ : ao = some ⟨g, 0, none⟩ ∧ c = cap := by simpa using h'
      have hcut : cutA (some ⟨g, 0, none⟩) n c size = some ⟨g, n * size, none⟩ := by
        unfold cutA
        rw [if_neg (by omega)]
        simp [Addr.add_lit]
      have hzl : (Builtin.zeroCells z.cells k).toList.length = k * size := by rw [← hzs]; simp [Builtin.zeroCells]
      have hz1' : ∀ u ∈ (Builtin.zeroCells z.cells k).toList, u.oneCell' = true := by
        intro u hu
        simp only [Builtin.zeroCells, Array.toList_map, List.mem_map, Array.toList_range, List.mem_range] at hu
        obtain ⟨i, hi, rfl⟩ := hu
        have hpos : 0 < z.cells.size := by
          rcases Nat.eq_zero_or_pos z.cells.size with h0 | h0
          · rw [h0, Nat.mul_zero] at hi; omega
          · exact h0
        have hlt : i % z.cells.size < z.cells.size := Nat.mod_lt _ hpos
        rw [getElem!_pos z.cells (i % z.cells.size) hlt]
        exact hz1 _ (Array.getElem_mem _)
      have hnk : n * size + k * size ≤ c * size := by rw [← Nat.add_mul]; exact Nat.mul_le_mul_right _ hfit
      have hst := run_storeCells_at P g (n * size) e (Builtin.zeroCells z.cells k).toList 0 cur w hg (by rw [hzl]; omega) hz1'
      refine ⟨w.setRow g (cur.toList.take (n * size) ++ (Builtin.zeroCells z.cells k).toList ++ cur.toList.drop (n * size + (Builtin.zeroCells z.cells k).toList.length)).toArray, ?_, ?_, ?_⟩
      · obtain ⟨m, rfl⟩ : ∃ m, k = m + 1 := ⟨k - 1, by omega⟩
        simp only [Nat.add_zero] at hst
        simp [Builtin.clear_, run_underlying hu, hz, hcut, hst]
      · refine ⟨hown.1, .inr ⟨g, c, _, rfl, hb, setRow_heap w g cur _ e _ hg, hn, hcm, ?_, ?_⟩⟩
        · simp only [List.size_toArray, List.length_append, List.length_take, List.length_drop, Array.length_toList, hzl]; omega
        · have hl : (cur.toList.take (n * size)).length = n * size := by rw [List.length_take, Array.length_toList]; omega
          rw [List.append_assoc]
          rw [List.take_left' hl]; exact ht
      · exact ⟨rfl, rfl, rfl, by simp [World.setRow], fun k _ hk => setRow_other w g k _ (fun e => hk (by simp [Value.ownBlock, e]))⟩

/-- 'copy' into an owned row, as a run -/
theorem run_cp {P : Program} {w : World} (dT sT ty : TypeId) (e : TypeId) (hu : P.underlying dT = some (.slice e)) (size : Nat) (hsz : (P.info? e).map (·.size) = some size)
    (dp sp : Option Addr) (dLen dCap sLen sCap : Nat)
    (cs : List Value) (hn : cs.length = Nat.min sLen dLen * size) (hcs : Row w sp cs) (h1 : ∀ u ∈ cs, u.oneCell' = true)
    (base N co p : Nat) (ao : Option Addr) (xs : List Value) (hown : w.ownsRow base e size (.slice ao N co) N xs) (hp : 0 < cs.length → dp = ao.map (·.add (p * size))) (hdn : dp = none → cs = []) (hfit : p * size + cs.length ≤ N * size) :
    ∃ w', (Builtin.copy_ #[dT, sT] ty #[.slice dp dLen dCap, .slice sp sLen sCap]).run P w = .ok (goInt (Nat.min sLen dLen : Nat)) w' ∧ w'.ownsRow base e size (.slice ao N co) N (xs.take (p * size) ++ cs ++ xs.drop (p * size + cs.length)) ∧ w.grownBy w' (Value.ownBlock (.slice ao N co)) := by
  cases hq : P.info? e with
  | none => simp [hq] at hsz
  | some i =>
    have hi : i.size = size := by simpa [hq] using hsz
    have hf := firstCells_row (P := P) size (Nat.min sLen dLen) sp sLen sCap cs hn hcs
    by_cases hc0 : 0 < cs.length
    · obtain ⟨g, cap, cur, hv, hbg, hg, hnc, hcm, hcsz, htk⟩ : ∃ g cap cur, Value.slice ao N co = .slice (some ⟨g, 0, none⟩) N cap ∧ base ≤ g ∧ w.heap[g]? = some (.cells cur e (0, 0)) ∧ N ≤ cap ∧ cap ≤ maxLen ∧ cur.size = cap * size ∧ cur.toList.take (N * size) = xs := by
        rcases hown.2 with ⟨_, h0⟩ | h
        · rw [h0, Nat.zero_mul] at hfit; omega
        · exact h
      obtain ⟨rfl, rfl⟩ : ao = some ⟨g, 0, none⟩ ∧ co = cap := by simpa using hv
      have hdp := hp hc0
      simp only [Option.map_some, Addr.add_lit, Nat.zero_add] at hdp
      subst hdp
      have hNc : N * size ≤ cur.size := by rw [hcsz]; exact Nat.mul_le_mul_right _ hnc
      have hst := run_storeCells_at P g (p * size) e cs 0 cur w hg (by omega) h1
      refine ⟨w.setRow g (cur.toList.take (p * size) ++ cs ++ cur.toList.drop (p * size + cs.length)).toArray, ?_, ?_, ?_⟩
      · simp only [Nat.add_zero] at hst
        simp [Builtin.copy_, run_underlying hu, Builtin.lenOf, sizeOf, typeInfo, hq, hi, hf, hst]
      · refine ⟨?_, .inr ⟨g, co, _, rfl, hbg, setRow_heap w g cur _ e _ hg, hnc, hcm, ?_, ?_⟩⟩
        · have := hown.1
          simp only [List.length_append, List.length_take, List.length_drop]; omega
        · simp only [List.size_toArray, List.length_append, List.length_take, List.length_drop, Array.length_toList]; omega
        · exact splice_take _ _ _ _ _ htk (by simpa using hNc) hfit
      · exact ⟨rfl, rfl, rfl, by simp [World.setRow], fun k _ hk => setRow_other w g k _ (fun e => hk (by simp [Value.ownBlock, e]))⟩
    · have hc : cs = [] := List.eq_nil_of_length_eq_zero (by omega)
      subst hc
      refine ⟨w, ?_, by simpa using hown, ⟨rfl, rfl, rfl, Nat.le_refl _, fun _ _ _ => rfl⟩⟩
      cases dp with
      | none => simp [Builtin.copy_, run_underlying hu, Builtin.lenOf, sizeOf, typeInfo, hq, hi, hf]
      | some ad => simp [Builtin.copy_, run_underlying hu, Builtin.lenOf, sizeOf, typeInfo, hq, hi, hf, storeCells]
end Go.Proofs.YtkcaheebaicinaaGreatDoor
/- Blocks that stay as they are. No program in sight. -/
namespace Go.Proofs.YtkcaheebaicinaaGreatDoor
open Go.RowKit
set_option linter.unusedVariables false

/-- the blocks of X are as they were -/
structure Safe (X : Nat → Prop) (w w' : World) : Prop where
  os : w'.os = w.os
  tape : w'.tape = w.tape
  output : w'.output = w.output
  size : w.heap.size ≤ w'.heap.size
  block : ∀ k, k < w.heap.size → X k → w'.heap[k]? = w.heap[k]?
section
variable {X Y : Nat → Prop} {a b c w w' : World} {B : Nat}
theorem Safe.refl (X : Nat → Prop) (w : World) : Safe X w w := ⟨rfl, rfl, rfl, Nat.le_refl _, fun _ _ _ => rfl⟩
theorem Safe.trans (h : Safe X a b) (k : Safe X b c) : Safe X a c := ⟨k.os.trans h.os, k.tape.trans h.tape, k.output.trans h.output, Nat.le_trans h.size k.size, fun j hj hx => (k.block j (Nat.lt_of_lt_of_le hj h.size) hx).trans (h.block j hj hx)⟩
theorem Safe.sub (h : Safe X a b) (hy : ∀ k, k < a.heap.size → Y k → X k) : Safe Y a b := ⟨h.os, h.tape, h.output, h.size, fun j hj hx => h.block j hj (hy j hj hx)⟩
theorem Safe.ofBelow (h : Below w.heap.size w w') : Safe X w w' := ⟨h.os, h.tape, h.output, h.size, fun k hk _ => h.block k hk⟩
theorem Safe.ofGrown {row : Option Nat} (h : w.grownBy w' row) (hr : ∀ k, X k → some k ≠ row) : Safe X w w' := ⟨h.os, h.tape, h.output, h.size, fun k hk hx => h.block k hk (hr k hx)⟩
theorem Safe.then (h : Safe X a b) (k : Below b.heap.size b c) : Safe X a c := h.trans (.ofBelow k)
theorem Safe.below (h : Safe X w w') (hX : ∀ k, k < B → X k) (hB : B ≤ w.heap.size) : Below B w w' := ⟨h.os, h.tape, h.output, h.size, fun k hk => h.block k (Nat.lt_of_lt_of_le hk hB) (hX k hk)⟩
theorem Safe.after (h0 : Below B a w) (h : Safe X w w') (hX : ∀ k, k < B → X k) (hB : B ≤ w.heap.size) : Below B a w' := h0.trans (h.below hX hB)
theorem Safe.set (h : Safe X a b) {g : Nat} (hg : ¬ X g) (i : Nat) (u : Value) : Safe X a (b.setCell ⟨g, i, none⟩ u) := h.trans ⟨rfl, rfl, rfl, by simp [World.setCell], fun k hk hx => Below.heap_setCell _ _ _ _ (fun e => hg (by rw [← show k = g from e]; exact hx))⟩
theorem Safe.cell (h : Safe X w w') {p : Addr} (hp : p.block < w.heap.size) (hx : X p.block) : w'.cell? p = w.cell? p := World.cell?_of_block (w := w) (h.block p.block hp hx)
theorem Safe.frozen (h : Safe X w w') {p : Addr} (hp : p.block < w.heap.size) (hx : X p.block) : w'.frozen? p = w.frozen? p := World.frozen?_of_block (w := w) (h.block p.block hp hx)
theorem Safe.box (h : Safe X w w') {g : Nat} {vs : Array Value} (hc : ∀ o, w.cell? ⟨g, o, none⟩ = vs[o]?) (hg : g < w.heap.size) (hx : X g) (o : Nat) : w'.cell? ⟨g, o, none⟩ = vs[o]? := (h.cell (p := ⟨g, o, none⟩) hg hx).trans (hc o)
theorem Safe.frz (h : Safe X w w') {g : Nat} (hc : ∀ o, w.frozen? ⟨g, o, none⟩ = false) (hg : g < w.heap.size) (hx : X g) (o : Nat) : w'.frozen? ⟨g, o, none⟩ = false := (h.frozen (p := ⟨g, o, none⟩) hg hx).trans (hc o)
end
end Go.Proofs.YtkcaheebaicinaaGreatDoor
