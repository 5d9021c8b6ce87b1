/- Contracts of package ram: New, Load, Store, Follow. -/
import Derived.Test.YtcomljehcmnlmaaRam1
namespace Go.Proofs.Ytcomljehcmnlmaa
open Go.RowKit
set_option linter.unusedVariables false

theorem ramNew_ok (p : Int) (w : World) (h1 : 0 ≤ p) (h2 : p ≤ 256) :
    Calls Try.prog 17 #[.int .i64 p] w fun e w' => ∃ a c, e = .returned (.tuple #[.slice a (p.toNat * 16) c, .int .i64 0]) ∧ w'.ownsRow w.heap.size 3 1 (.slice a (p.toNat * 16) c) (p.toNat * 16) ((List.replicate (p.toNat * 16) 0).map vI) ∧ Below w.heap.size w w' := by
  obtain ⟨n, rfl⟩ := Int.eq_ofNat_of_zero_le h1
  obtain ⟨i, hi, hz, hsize, hby⟩ := info_parts info_int
  go_enter Try.func17, Try.ntmps17
  go_wp2_with (at_make; refine wpList_make_full _ rfl _ _ 27 rfl w.heap.size 3 i (.int .i64 0) 1 Try.underlying27 hi hz hsize .i64 .i64 _ _ (n * 16) rfl rfl (by omega) (by omega) ?q1 ?q2 ?q3 ?_)
  case q1 => rw [hby]; omega
  case q2 => unfold maxLen; omega
  case q3 => exact Nat.le_refl _
  intro w1 hown hgrow
  go_wp2
  go_ret2
  refine ⟨_, _, rfl, ?_, (Below.refl _ w).grown hgrow (Nat.le_refl _) (by simp)⟩
  rw [toList_madeCells_one] at hown
  rw [List.map_replicate, Int.toNat_natCast]; exact hown

theorem ramLoad_ok (a : Option Addr) (cap : Nat) (xs : List Int) (k : Nat) (w : World) (hl : xs.length ≤ 9223372036854775807) (hr : Row w a (xs.map vI)) (hk : k < xs.length) :
    Calls Try.prog 19 #[.slice a xs.length cap, .int .i64 k] w fun e w' => e = .returned (.tuple #[.int .i64 xs[k], .int .i64 0]) ∧ w = w' := by
  obtain ⟨b, off, rfl, hb, hc⟩ := row_at hr hk
  have hin : inB xs.length k 1 = true := decide_eq_true (by omega)
  clear hr
  go_enter Try.func19, Try.ntmps19
  go_wp2_with (go_at_call 32; refine (in_any _ _ _ _ _ _ hl (by omega) (by omega)).mono ?_; rintro e w' ⟨rfl, rfl⟩)
  go_ret2
  exact ⟨rfl, rfl⟩

theorem ramLoad_bad (a : Option Addr) (cap : Nat) (len : Nat) (k : Int) (w : World) (hl : len ≤ 9223372036854775807) (hk : ¬ (0 ≤ k ∧ k < len)) :
    Calls Try.prog 19 #[.slice a len cap, .int .i64 k] w fun e w' => e = .returned (.tuple #[.int .i64 0, .int .i64 1]) ∧ w = w' := by
  have hin : inB len k 1 = false := decide_eq_false (by omega)
  go_enter Try.func19, Try.ntmps19
  go_wp2_with (go_at_call 32; refine (in_any _ _ _ _ _ _ hl (by omega) (by omega)).mono ?_; rintro e w' ⟨rfl, rfl⟩)
  go_ret2
  exact ⟨rfl, rfl⟩

theorem ramStore_bad (a : Option Addr) (cap : Nat) (len : Nat) (k v : Int) (w : World) (hl : len ≤ 9223372036854775807) (hk : ¬ (0 ≤ k ∧ k < len)) :
    Calls Try.prog 18 #[.slice a len cap, .int .i64 k, .int .i64 v] w fun e w' => e = .returned (.tuple #[.slice none 0 0, .int .i64 1]) ∧ w = w' := by
  have hin : inB len k 1 = false := decide_eq_false (by omega)
  go_enter Try.func18, Try.ntmps18
  go_wp2_with (go_at_call 32; refine (in_any _ _ _ _ _ _ hl (by omega) (by omega)).mono ?_; rintro e w' ⟨rfl, rfl⟩)
  go_ret2
  exact ⟨rfl, rfl⟩

theorem ramStore_ok (a : Option Addr) (cap : Nat) (xs : List Int) (k : Nat) (v : Int) (w : World) (hl : xs.length * 8 ≤ 140737488355328) (hr : Row w a (xs.map vI)) (hk : k < xs.length) :
    Calls Try.prog 18 #[.slice a xs.length cap, .int .i64 k, .int .i64 v] w fun e w' => ∃ a' c', e = .returned (.tuple #[.slice a' xs.length c', .int .i64 0]) ∧ w'.ownsRow w.heap.size 3 1 (.slice a' xs.length c') xs.length ((xs.set k v).map vI) ∧ Below w.heap.size w w' := by
  have hin : inB xs.length k 1 = true := decide_eq_true (by omega)
  go_enter Try.func18, Try.ntmps18
  go_wp2_with (go_at_call 32; refine (in_any _ _ _ _ _ _ (by omega) (by omega) (by omega)).mono ?_; rintro e w' ⟨rfl, rfl⟩)
  refine (clone_int _ _ _ _ hl hr).mono ?_
  rintro e w1 ⟨a', c', rfl, hown, hb⟩
  obtain ⟨g, rfl, hg, hgs, hc, hf⟩ := own_at hown k (by simpa using hk)
  have H := Hid.mk hown
  clear hown
  go_wp2
  go_ret2
  refine ⟨_, _, rfl, ?_, hb.setCell hg _⟩
  have h := World.ownsRow.stored H.out k (vI v)
  rw [List.map_set]; exact h.1

/-! ## Follow -/
def followF (xs : List Int) (most : Int) : Nat → Int → List Int → Option (List Int)
  | 0, _, _ => none
  | f + 1, p, out => if p = -1 then some out else if (out.length : Int) ≥ most ∨ inB xs.length p 1 = false ∨ hasI out p = true then none else followF xs most f (xs.getD p.toNat 0) (out ++ [p])

/-- what Follow tells: the chain, or none -/
def follow (xs : List Int) (p most : Int) : Option (List Int) := followF xs most (xs.length + 2) p []

/-- distinct numbers below n are at most n -/
theorem nodup_le : ∀ (n : Nat) (l : List Int), l.Nodup → (∀ x ∈ l, 0 ≤ x ∧ x < n) → l.length ≤ n
  | 0, l, _, h => by
    cases l with
    | nil => simp
    | cons a l => have := h a (by simp); omega
  | n + 1, l, hd, h => by
    have h1 := nodup_le n (l.erase (n : Int)) (hd.erase _) (fun x hx => by
      have hm := h x (List.mem_of_mem_erase hx)
      have hne : x ≠ (n : Int) := by
        intro e; subst e
        exact (List.Nodup.not_mem_erase hd) hx
      omega)
    by_cases hn : (n : Int) ∈ l
    · rw [List.length_erase_of_mem hn] at h1; omega
    · rw [List.erase_of_not_mem hn] at h1; omega

def lenOf : Value → Nat | .slice _ n _ => n | _ => 0

def FollowPost (w : World) (r : Option (List Int)) (e : Ending) (w' : World) : Prop :=
  Below w.heap.size w w' ∧ match r with
    | some l => ∃ a c, e = .returned (.tuple #[.slice a l.length c, .int .i64 0]) ∧ w'.ownsRow w.heap.size 3 1 (.slice a l.length c) l.length (l.map vI)
    | none => e = .returned (.tuple #[.slice none 0 0, .int .i64 8])

theorem follow_any (a : Option Addr) (cap : Nat) (xs : List Int) (p most : Int) (w : World) (hl : xs.length ≤ 1000000) (hr : Row w a (xs.map vI)) :
    Calls Try.prog 13 #[.slice a xs.length cap, .int .i64 p, .int .i64 most] w (FollowPost w (follow xs p most)) := by
  generalize hR : follow xs p most = R
  go_enter Try.func13, Try.ntmps13
  go_wp2
  go_loopw [1, 8] (fun u1 u8 wr => ∃ (q : Int) (out : List Int) (a8 : Option Addr) (c8 f : Nat), u1 = .int .i64 q ∧ u8 = .slice a8 out.length c8 ∧ wr.ownsRow w.heap.size 3 1 (.slice a8 out.length c8) out.length (out.map vI) ∧
      Below w.heap.size w wr ∧ Hid (followF xs most f q out = R) ∧ f + out.length = xs.length + 2 ∧ Hid (out.Nodup ∧ ∀ x ∈ out, 0 ≤ x ∧ x < xs.length)) (fun _ u8 _ => xs.length + 2 - lenOf u8)
  case atStart => exact ⟨p, [], none, 0, xs.length + 2, rfl, rfl, World.ownsRow_nil _ _ _ _, Below.refl _ _, hR, rfl, List.nodup_nil, by simp⟩
  case round =>
    obtain ⟨q, out, a8, c8, f, rfl, rfl, hown, hbw, hF, hf, hnd⟩ := hrel
    have hle := nodup_le xs.length out hnd.out.1 hnd.out.2
    obtain ⟨f, rfl⟩ : ∃ f', f = f' + 1 := ⟨f - 1, by omega⟩
    have hlo : out.length ≤ 9223372036854775807 := by omega
    have HF := hF.out
    unfold followF at HF
    by_cases h1 : q = -1
    · have hq : (q != -1) = false := by simp [h1]
      rw [if_pos h1] at HF
      have HO := Hid.mk hown
      clear hown h1 hR
      go_wp2
      go_ret2
      subst HF
      exact ⟨hbw, _, _, rfl, HO.out⟩
    · have hq : (q != -1) = true := by simp [h1]
      rw [if_neg h1] at HF
      have HO := Hid.mk hown
      clear hown hR hF
      by_cases h2 : most ≤ (out.length : Int)
      · rw [if_pos (Or.inl h2)] at HF
        subst HF
        go_wp2_with fail
        go_ret2
        exact ⟨hbw, rfl⟩
      · cases h3 : inB xs.length q 1 with
        | false =>
          rw [if_pos (Or.inr (Or.inl h3))] at HF
          subst HF
          go_wp2_with (go_at_call 32; refine (in_any _ _ _ _ _ _ (by omega) (by omega) (by omega)).mono ?_; rintro e w' ⟨rfl, rfl⟩)
          go_ret2
          exact ⟨hbw, rfl⟩
        | true =>
          cases h4 : hasI out q with
          | true =>
            rw [if_pos (Or.inr (Or.inr h4))] at HF
            subst HF
            go_wp2_with (first | (go_at_call 32; refine (in_any _ _ _ _ _ _ (by omega) (by omega) (by omega)).mono ?_; rintro e w' ⟨rfl, rfl⟩) | (go_at_call 33; refine (contains_int _ _ _ _ _ hlo (own_row HO.out)).mono ?_; rintro e w' ⟨rfl, rfl⟩))
            go_ret2
            exact ⟨hbw, rfl⟩
          | false =>
            rw [if_neg (by rw [h3, h4]; simp; omega)] at HF
            have hq2 : 0 ≤ q ∧ q < xs.length := by unfold inB at h3; simp only [decide_eq_true_eq] at h3; omega
            obtain ⟨k, rfl⟩ := Int.eq_ofNat_of_zero_le hq2.1
            have hk : k < xs.length := by omega
            rw [Int.toNat_natCast, List.getD_eq_getElem?_getD, List.getElem?_eq_getElem hk, Option.getD_some] at HF
            have HFF := Hid.mk HF
            clear HF
            have hrw := hr.below hbw
            have hsz := hbw.size
            have HAL : Hid ( (wr.alloc (.cells #[.int .i64 (k : Int)] 3)).ownsRow w.heap.size 3 1 (.slice a8 out.length c8) out.length (out.map vI)) := Hid.mk (own_below HO.out ((Below.refl _ _).alloc (Nat.le_refl _) _) (Nat.le_refl _))
            have HNEW : Hid (Row (wr.alloc (.cells #[.int .i64 (k : Int)] 3)) (some ⟨wr.heap.size, 0, none⟩) [vI k]) := row_new1 _ _ _
            go_wp2_with (first | (go_at_call 32; refine (in_any _ _ _ _ _ _ (by omega) (by omega) (by omega)).mono ?_; rintro e w' ⟨rfl, rfl⟩) | (go_at_call 33; refine (contains_int _ _ _ _ _ hlo (own_row HO.out)).mono ?_; rintro e w' ⟨rfl, rfl⟩) | (at_builtin; refine wpList_app rfl _ _ 27 rfl w.heap.size 3 (.int .i64 0) 1 8 Try.underlying27 info_int rfl (by decide) (by decide) a8 out.length c8 (out.map vI) rfl HAL.out (some ⟨wr.heap.size, 0, none⟩) 1 1 [vI k] rfl rfl HNEW.out (by simp [vI, Value.oneCell']) (by omega) (by simp; omega) ?_))
            intro a' c' w1 hown1 hgrow
            have hb1 : Below w.heap.size w w1 := below_grown (hbw.alloc hsz _) HAL.out hgrow (Nat.le_refl _) (by simp; omega)
            obtain ⟨b, off, rfl, hbb, hc⟩ := row_at (hr.below hb1) hk
            have HO1 := Hid.mk hown1
            clear hown1 HAL HNEW hrw hgrow hr HO
            go_wp2
            go_roundw
            case rel =>
              refine ⟨xs[k], out ++ [(k : Int)], a', c', f, rfl, by simp, ?_, hb1, HFF.out, by simp; omega, ?_⟩
              · have h := HO1.out
                simp only [List.length_append, List.length_cons, List.length_nil, List.map_append, List.map_cons, List.map_nil]
                exact h
              · refine ⟨?_, ?_⟩
                · rw [List.nodup_append]
                  refine ⟨hnd.out.1, by simp, ?_⟩
                  intro x hx y hy
                  simp only [List.mem_singleton] at hy
                  subst hy
                  intro e
                  subst e
                  have : hasI out (k : Int) = true := by unfold hasI; simpa using hx
                  rw [this] at h4; cases h4
                · intro x hx
                  rw [List.mem_append, List.mem_singleton] at hx
                  rcases hx with hx | rfl
                  · exact hnd.out.2 x hx
                  · omega
            case measure => simp [lenOf]; omega

theorem follow_n (a : Option Addr) (n cap : Nat) (xs : List Int) (p most : Int) (w : World) (hn : xs.length = n) (hl : n ≤ 1000000) (hr : Row w a (xs.map vI)) :
    Calls Try.prog 13 #[.slice a n cap, .int .i64 p, .int .i64 most] w (FollowPost w (follow xs p most)) := by
  subst hn
  exact follow_any a cap xs p most w hl hr

/-- the chain is none -/
theorem follow_none (a : Option Addr) (n cap : Nat) (xs : List Int) (p most : Int) (w : World) (hn : xs.length = n) (hl : n ≤ 1000000) (hr : Row w a (xs.map vI)) (hf : follow xs p most = none) :
    Calls Try.prog 13 #[.slice a n cap, .int .i64 p, .int .i64 most] w fun e w' => e = .returned (.tuple #[.slice none 0 0, .int .i64 8]) ∧ Below w.heap.size w w' := by
  refine (follow_n a n cap xs p most w hn hl hr).mono fun e w' h => ?_
  rw [hf] at h
  exact ⟨h.2, h.1⟩

theorem follow_some (a : Option Addr) (n cap : Nat) (xs : List Int) (p most : Int) (w : World) (hn : xs.length = n) (hl : n ≤ 1000000) (hr : Row w a (xs.map vI)) (l : List Int) (hf : follow xs p most = some l) :
    Calls Try.prog 13 #[.slice a n cap, .int .i64 p, .int .i64 most] w fun e w' => ∃ a' c', e = .returned (.tuple #[.slice a' l.length c', .int .i64 0]) ∧ w'.ownsRow w.heap.size 3 1 (.slice a' l.length c') l.length (l.map vI) ∧ Below w.heap.size w w' := by
  refine (follow_n a n cap xs p most w hn hl hr).mono fun e w' h => ?_
  rw [hf] at h
  obtain ⟨hb, a', c', he, ho⟩ := h
  exact ⟨a', c', he, ho, hb⟩
end Go.Proofs.Ytcomljehcmnlmaa
