/- Contracts of the generic functions over []int, and of package ram (words). -/
import Derived.Test.YteonmoncofcajaaLow1
import Derived.Lib.SliceRun
import Derived.Deep.QuietTactic
import Derived.BigQuiet
import Derived.WalkSmall
namespace Go.Proofs.Yteonmoncofcajaa
open Go.RowKit
variable {α : Type}

def inB (len at_ n : Int) : Bool := decide (0 ≤ at_ ∧ 0 ≤ n ∧ n ≤ len ∧ at_ ≤ len - n)

theorem in_any (a : Option Addr) (len cap : Nat) (at_ n : Int) (w : World) (hl : len ≤ 9223372036854775807) (h1 : -9223372036854775808 ≤ n) (h2 : n ≤ 9223372036854775807) :
    Calls Try.prog 32 #[.slice a len cap, .int .i64 at_, .int .i64 n] w fun e w' => e = .returned (.bool (inB len at_ n)) ∧ w = w' := by
  by_cases c1 : 0 ≤ at_
  · by_cases c2 : 0 ≤ n
    · by_cases c3 : n ≤ (len : Int)
      · by_cases c4 : at_ ≤ (len : Int) - n
        · go_enter Try.func32, Try.ntmps32
          go_wp2
          go_ret
          exact ⟨ret_bool (decide_eq_true (by omega)).symm, rfl⟩
        · go_enter Try.func32, Try.ntmps32
          go_wp2
          go_ret
          exact ⟨ret_bool (decide_eq_false (by omega)).symm, rfl⟩
      · go_enter Try.func32, Try.ntmps32
        go_wp2
        go_ret
        exact ⟨ret_bool (decide_eq_false (by omega)).symm, rfl⟩
    · go_enter Try.func32, Try.ntmps32
      go_wp2
      go_ret
      exact ⟨ret_bool (decide_eq_false (by omega)).symm, rfl⟩
  · go_enter Try.func32, Try.ntmps32
    go_wp2
    go_ret
    exact ⟨ret_bool (decide_eq_false (by omega)).symm, rfl⟩

def findI (p : α → Bool) (xs : List α) : Int := match xs.findIdx? p with | some i => (i : Int) | none => -1

theorem findI_hit {p : α → Bool} {xs : List α} {k : Nat} (hk : k < xs.length) (h : p xs[k] = true) (hn : ∀ x ∈ xs.take k, p x = false) : findI p xs = k := by
  have e : xs.findIdx? p = some k := by
    rw [List.findIdx?_eq_some_iff_getElem]
    refine ⟨hk, h, fun j hj => ?_⟩
    have := hn (xs[j]'(by omega)) (by rw [List.mem_take_iff_getElem]; exact ⟨j, by omega, rfl⟩)
    simp [this]
  simp [findI, e]
theorem findI_miss {p : α → Bool} {xs : List α} (hn : ∀ x ∈ xs, p x = false) : findI p xs = -1 := by
  have e : xs.findIdx? p = none := by rw [List.findIdx?_eq_none_iff]; exact hn
  simp [findI, e]

theorem index_int (a : Option Addr) (cap : Nat) (xs : List Int) (v : Int) (w : World) (hl : xs.length ≤ 9223372036854775807) (hr : Row w a (xs.map vI)) :
    Calls Try.prog 44 #[.slice a xs.length cap, .int .i64 v] w fun e w' => e = .returned (.int .i64 (findI (v == ·) xs)) ∧ w = w' := by
  go_enter Try.func44, Try.ntmps44
  go_wp2
  go_loop [5, 8] (fun _ s8 => ∃ k : Nat, k ≤ xs.length ∧ s8 = .int .i64 k ∧ Hid (∀ x ∈ xs.take k, (v == x) = false)) (fun _ s8 => xs.length - (intOf s8).toNat)
  case atStart => exact ⟨0, Nat.zero_le _, rfl, by simp [Hid]⟩
  case round =>
    obtain ⟨k, hk, rfl, hnot⟩ := hrel
    by_cases hlt : k < xs.length
    · obtain ⟨b, off, rfl, hb, hc⟩ := hr k (vI xs[k]) (by simp [hlt])
      simp only [vI] at hc
      clear hr
      cases hv : v == xs[k] with
      | true =>
        go_wp2
        go_ret
        exact ⟨ret_int (findI_hit hlt hv hnot.out).symm, rfl⟩
      | false =>
        go_wp2
        go_round
        case rel => exact ⟨k + 1, by omega, by go_num, fun x hx => by
          rw [List.take_succ_eq_append_getElem hlt, List.mem_append, List.mem_singleton] at hx
          rcases hx with hx | rfl
          · exact hnot.out x hx
          · exact hv⟩
        case measure => simp [intOf]; omega
    · obtain rfl : k = xs.length := by omega
      go_wp2
      go_ret
      exact ⟨ret_int (findI_miss (by simpa [Hid] using hnot)).symm, rfl⟩

theorem findI_nonneg (p : α → Bool) (xs : List α) : decide (0 ≤ findI p xs) = xs.any p := by
  unfold findI
  cases h : xs.findIdx? p with
  | none => rw [List.findIdx?_eq_none_iff] at h; symm; simpa using h
  | some i => rw [List.findIdx?_eq_some_iff_getElem] at h; obtain ⟨hi, hp, _⟩ := h; symm; simp only [Int.natCast_nonneg, decide_true, List.any_eq_true]; exact ⟨_, List.getElem_mem hi, hp⟩

def hasI (xs : List Int) (v : Int) : Bool := xs.contains v
def eqI (xs ys : List Int) : Bool := xs == ys

theorem contains_int (a : Option Addr) (cap : Nat) (xs : List Int) (v : Int) (w : World) (hl : xs.length ≤ 9223372036854775807) (hr : Row w a (xs.map vI)) :
    Calls Try.prog 33 #[.slice a xs.length cap, .int .i64 v] w fun e w' => e = .returned (.bool (hasI xs v)) ∧ w = w' := by
  go_enter Try.func33, Try.ntmps33
  go_wp2_with (go_at_call 44; refine (index_int _ _ _ _ _ hl hr).mono ?_; rintro e w' ⟨rfl, rfl⟩)
  go_ret
  exact ⟨ret_bool (by rw [findI_nonneg, hasI, List.contains_eq_any_beq]), rfl⟩

theorem info_int : (Try.prog.info? 3).map (fun i => (i.zero, i.size, i.bytes)) = some (some (.int .i64 0), 1, 8) := by kernel_rfl

theorem vI_one (xs : List Int) : ∀ u ∈ xs.map vI, u.oneCell' = true := by
  intro u hu
  obtain ⟨x, _, rfl⟩ := List.mem_map.1 hu
  rfl

theorem clone_int (a : Option Addr) (cap : Nat) (xs : List Int) (w : World) (hl : xs.length * 8 ≤ 140737488355328) (hr : Row w a (xs.map vI)) :
    Calls Try.prog 14 #[.slice a xs.length cap] w fun e w' => ∃ a' c', e = .returned (.slice a' xs.length c') ∧ w'.ownsRow w.heap.size 3 1 (.slice a' xs.length c') xs.length (xs.map vI) ∧ Below w.heap.size w w' := by
  have q22 : ∀ (w : World) (a : Option Addr) (n c n' c' : Nat), (binOp .eql 27 (.slice a n c) (.slice none n' c')).run Try.prog w = .ok (.bool a.isNone) w := fun w a n c n' c' => Lib.run_eql_slice_nil w _ _ a n c n' c' Try.underlying27
  cases a with
  | none =>
    have hx : xs = [] := by
      cases xs with
      | nil => rfl
      | cons u l => obtain ⟨b, off, e1, _⟩ := hr 0 (vI u) rfl; cases e1
    subst hx
    go_enter Try.func14, Try.ntmps14
    go_wp2
    go_ret
    exact ⟨none, 0, rfl, World.ownsRow_nil _ _ _ _, Below.refl _ _⟩
  | some ad =>
    go_enter Try.func14, Try.ntmps14
    go_wp2_with (at_builtin; refine wpList_app rfl _ _ 27 rfl w.heap.size 3 (.int .i64 0) 1 8 Try.underlying27 info_int rfl (by decide) (by decide) _ _ _ _ rfl (World.ownsRow_made w #[] 0 (Nat.le_refl _) (Nat.zero_le _) (by simp)) (some ad) xs.length cap (xs.map vI) rfl ?q1 ?q2 ?q3 ?q4 ?q5 ?_)
    case q1 => simp
    case q2 => exact hr.below ((Below.refl _ _).alloc (Nat.le_refl _) _)
    case q3 => exact vI_one xs
    case q4 => rw [Nat.zero_add]; exact hl
    case q5 => simp
    intro a' c' w1 hown hgrow
    go_wp2
    go_ret
    exact ⟨a', c', rfl, hown, ((Below.refl _ w).alloc (Nat.le_refl _) _).grown hgrow (by simp) (by intro k hk; simp [Value.ownBlock] at hk; omega)⟩

theorem row_at {w : World} {a : Option Addr} {xs : List Int} (hr : Row w a (xs.map vI)) {k : Nat} (h : k < xs.length) :
    ∃ b off, a = some ⟨b, off, none⟩ ∧ b < w.heap.size ∧ w.cell? ⟨b, off + k, none⟩ = some (.int .i64 xs[k]) :=
  hr k (vI xs[k]) (by simp [h])

theorem equal_int (a a2 : Option Addr) (cap cap2 : Nat) (xs ys : List Int) (w : World) (hl : xs.length ≤ 9223372036854775807) (hl2 : ys.length ≤ 9223372036854775807) (hr : Row w a (xs.map vI)) (hr2 : Row w a2 (ys.map vI)) :
    Calls Try.prog 16 #[.slice a xs.length cap, .slice a2 ys.length cap2] w fun e w' => e = .returned (.bool (eqI xs ys)) ∧ ∃ m, w' = w.drewN m := by
  by_cases hlen : xs.length = ys.length
  · have hb0 : ((xs.length : Int) == (ys.length : Int)) = true := by simp [hlen]
    have HL : Hid (xs.length = ys.length) := hlen
    have hlt0 : xs.length ≤ ys.length := by omega
    have hlt1 : ys.length ≤ xs.length := by omega
    clear hlen
    go_enter Try.func16, Try.ntmps16
    go_wp2
    go_loopw [5, 13] (fun _ s13 wr => ∃ k : Nat, k ≤ xs.length ∧ s13 = .int .i64 k ∧ Hid (xs.take k = ys.take k) ∧ ∃ m, wr = w.drewN m) (fun _ s13 _ => xs.length - (intOf s13).toNat)
    case atStart => exact ⟨0, Nat.zero_le _, rfl, by simp [Hid], 0, rfl⟩
    case round =>
      obtain ⟨k, hk, rfl, heq, m, rfl⟩ := hrel
      by_cases hlt : k < xs.length
      · have hlt2 : k < ys.length := by omega
        obtain ⟨b, off, rfl, hb, hc⟩ := row_at hr hlt
        obtain ⟨b2, off2, rfl, hb2, hc2⟩ := row_at hr2 hlt2
        clear hr hr2
        cases hv : xs[k] == ys[k] with
        | true =>
          have hvn : (xs[k] != ys[k]) = false := by simp only [bne, hv, Bool.not_true]
          go_wp2_with fail
          go_quiet (fail)
          go_wp2
          go_roundw
          case rel => exact ⟨k + 1, by omega, by go_num, by
            show xs.take (k + 1) = ys.take (k + 1)
            rw [List.take_succ_eq_append_getElem hlt, List.take_succ_eq_append_getElem hlt2, heq.out, eq_of_beq hv], _, rfl⟩
          case measure => simp [intOf]; omega
        | false =>
          have hvn : (xs[k] != ys[k]) = true := by simp only [bne, hv, Bool.not_false]
          go_wp2_with fail
          go_quiet (fail)
          go_wp2
          go_ret
          exact ⟨ret_bool (by
            symm; rw [eqI, beq_eq_false_iff_ne]; intro h
            subst h; simp at hv), m + _, by rw [World.drewN_drewN]⟩
      · obtain rfl : k = xs.length := by omega
        go_wp2
        go_ret
        exact ⟨ret_bool (by
          symm; rw [eqI, beq_iff_eq]
          have h := heq.out
          rw [List.take_of_length_le (Nat.le_refl _), HL.out, List.take_of_length_le (Nat.le_refl _)] at h
          exact h), _, rfl⟩
  · have hb0 : ((xs.length : Int) == (ys.length : Int)) = false := by simp; omega
    go_enter Try.func16, Try.ntmps16
    go_wp2
    go_ret
    exact ⟨ret_bool (by symm; rw [eqI, beq_eq_false_iff_ne]; intro h; exact hlen (by rw [h])), 0, rfl⟩
end Go.Proofs.Yteonmoncofcajaa
