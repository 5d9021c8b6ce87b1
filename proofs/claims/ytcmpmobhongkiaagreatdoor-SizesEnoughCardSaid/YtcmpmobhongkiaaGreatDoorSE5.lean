/- texts of this claim, joined. -/
import Derived.Test.YtcmpmobhongkiaaGreatDoorSE0
import Derived.Test.YtcmpmobhongkiaaGreatDoorSE2
import Derived.Test.YtcmpmobhongkiaaGreatDoorSE4
import Derived.Lib.SliceRun
import Derived.Deep.QuietTactic
import Derived.BigQuiet
import Derived.WalkSmall
import Derived.StillTailTactics
set_option linter.unusedVariables false
set_option linter.unusedSimpArgs false
namespace Go.Proofs.YtcmpmobhongkiaaGreatDoor
section
open Go.RowKit
variable {α : Type}

def QA (len at_ n : Int) : Bool := decide (0 ≤ at_ ∧ 0 ≤ n ∧ n ≤ len ∧ at_ ≤ len - n)

theorem BN (a : Option Addr) (len cap : Nat) (at_ n : Int) (w : World) (hl : len ≤ 9223372036854775807) (h1 : -9223372036854775808 ≤ n) (h2 : n ≤ 9223372036854775807) :
  Calls Tryz.prog 142 #[.slice a len cap, .int .i64 at_, .int .i64 n] w fun e w' => e = .returned (.bool (QA len at_ n)) ∧ w = w' := by
 by_cases c1 : 0 ≤ at_
 ·by_cases c2 : 0 ≤ n
  ·by_cases c3 : n ≤ (len : Int)
   ·by_cases c4 : at_ ≤ (len : Int) - n
    ·go_enter Tryz.func142, Tryz.ntmps142
     go_wp2
     go_ret
     exact ⟨aU (decide_eq_true (by omega)).symm, rfl⟩
    ·go_enter Tryz.func142, Tryz.ntmps142
     go_wp2
     go_ret
     exact ⟨aU (decide_eq_false (by omega)).symm, rfl⟩
   ·go_enter Tryz.func142, Tryz.ntmps142
    go_wp2
    go_ret
    exact ⟨aU (decide_eq_false (by omega)).symm, rfl⟩
  ·go_enter Tryz.func142, Tryz.ntmps142
   go_wp2
   go_ret
   exact ⟨aU (decide_eq_false (by omega)).symm, rfl⟩
 ·go_enter Tryz.func142, Tryz.ntmps142
  go_wp2
  go_ret
  exact ⟨aU (decide_eq_false (by omega)).symm, rfl⟩

def xO (p : α → Bool) (xs : List α) : Int := match xs.findIdx? p with | some i => (i : Int) | none => -1

theorem JL {p : α → Bool} {xs : List α} {k : Nat} (hk : k < xs.length) (h : p xs[k] = true) (hn : ∀ x ∈ xs.take k, p x = false) : xO p xs = k := by
 have e : xs.findIdx? p = some k := by
  rw [List.findIdx?_eq_some_iff_getElem]
  refine ⟨hk, h, fun j hj => ?_⟩
  have := hn (xs[j]'(by omega)) (by rw [List.mem_take_iff_getElem]; exact ⟨j, by omega, rfl⟩)
  simp [this]
 simp [xO, e]
theorem Gl {p : α → Bool} {xs : List α} (hn : ∀ x ∈ xs, p x = false) : xO p xs = -1 := by
 have e : xs.findIdx? p = none := by rw [List.findIdx?_eq_none_iff]; exact hn
 simp [xO, e]

theorem JM (a : Option Addr) (cap : Nat) (xs : List Int) (v : Int) (w : World) (hl : xs.length ≤ 9223372036854775807) (hr : Row w a (xs.map vI)) :
  Calls Tryz.prog 80 #[.slice a xs.length cap, .int .i64 v] w fun e w' => e = .returned (.int .i64 (xO (v == ·) xs)) ∧ w = w' := by
 go_enter Tryz.func80, Tryz.ntmps80
 go_wp2
 go_loop [5, 8] (fun _ s8 => ∃ k : Nat, k ≤ xs.length ∧ s8 = .int .i64 k ∧ Hid (∀ x ∈ xs.take k, (v == x) = false)) (fun _ s8 => xs.length - (intOf s8).toNat)
 case atStart => exact ⟨0, Nat.zero_le _, rfl, by simp [Hid]⟩
 case round =>
  obtain ⟨k, hk, rfl, hnot⟩ := hrel
  by_cases hlt : k < xs.length
  ·obtain ⟨b, off, rfl, hb, hc⟩ := hr k (vI xs[k]) (by simp [hlt])
   simp only [vI] at hc
   clear hr
   cases hv : v == xs[k] with
   | true =>
    go_wp2
    go_ret
    exact ⟨dF (JL hlt hv hnot.out).symm, rfl⟩
   | false =>
    go_wp2
    go_round
    case rel => exact ⟨k + 1, by omega, by go_num, fun x hx => by
     rw [List.take_succ_eq_append_getElem hlt, List.mem_append, List.mem_singleton] at hx
     rcases hx with hx | rfl
     ·exact hnot.out x hx
     ·exact hv⟩
    case measure => simp [intOf]; omega
  ·obtain rfl : k = xs.length := by omega
   go_wp2
   go_ret
   exact ⟨dF (Gl (by simpa [Hid] using hnot)).symm, rfl⟩

theorem BO (p : α → Bool) (xs : List α) : decide (0 ≤ xO p xs) = xs.any p := by
 unfold xO
 cases h : xs.findIdx? p with
 | none => rw [List.findIdx?_eq_none_iff] at h; symm; simpa using h
 | some i => rw [List.findIdx?_eq_some_iff_getElem] at h; obtain ⟨hi, hp, _⟩ := h; symm; simp only [Int.natCast_nonneg, decide_true, List.any_eq_true]; exact ⟨_, gL hi, hp⟩

def qR (xs : List Int) (v : Int) : Bool := xs.contains v
theorem jM (a : Option Addr) (cap : Nat) (xs : List Int) (v : Int) (w : World) (hl : xs.length ≤ 9223372036854775807) (hr : Row w a (xs.map vI)) :
  Calls Tryz.prog 35 #[.slice a xs.length cap, .int .i64 v] w fun e w' => e = .returned (.bool (qR xs v)) ∧ w = w' := by
 go_enter Tryz.func35, Tryz.ntmps35
 go_wp2_with (go_at_call 80; refine (JM _ _ _ _ _ hl hr).mono ?_; rintro e w' ⟨rfl, rfl⟩)
 go_ret
 exact ⟨aU (by rw [BO, qR, List.contains_eq_any_beq]), rfl⟩

theorem Au : (Tryz.prog.info? 3).map (fun i => (i.zero, i.size, i.bytes)) = some (some (.int .i64 0), 1, 8) := by kernel_rfl

theorem Ut (xs : List Int) : ∀ u ∈ xs.map vI, u.oneCell' = true := by
 intro u hu
 obtain ⟨x, _, rfl⟩ := List.mem_map.1 hu
 rfl

theorem JO (a : Option Addr) (cap : Nat) (xs : List Int) (w : World) (hl : xs.length * 8 ≤ 140737488355328) (hr : Row w a (xs.map vI)) :
  Calls Tryz.prog 85 #[.slice a xs.length cap] w fun e w' => ∃ a' c', e = .returned (.slice a' xs.length c') ∧ w'.ownsRow w.heap.size 3 1 (.slice a' xs.length c') xs.length (xs.map vI) ∧ Below w.heap.size w w' := by
 have q22 : ∀ (w : World) (a : Option Addr) (n c n' c' : Nat), (binOp .eql 39 (.slice a n c) (.slice none n' c')).run Tryz.prog w = .ok (.bool a.isNone) w := fun w a n c n' c' => Lib.run_eql_slice_nil w _ _ a n c n' c' Tryz.underlying39
 cases a with
 | none =>
  have hx : xs = [] := by
   cases xs with
   | nil => rfl
   | cons u l => obtain ⟨b, off, e1, _⟩ := hr 0 (vI u) rfl; cases e1
  subst hx
  go_enter Tryz.func85, Tryz.ntmps85
  go_wp2
  go_ret
  exact ⟨none, 0, rfl, World.ownsRow_nil _ _ _ _, Below.refl _ _⟩
 | some ad =>
  go_enter Tryz.func85, Tryz.ntmps85
  go_wp2_with (at_builtin; refine fJ rfl _ _ 39 rfl w.heap.size 3 (.int .i64 0) 1 8 Tryz.underlying39 Au rfl (by decide) (by decide) _ _ _ _ rfl (World.ownsRow_made w #[] 0 (Nat.le_refl _) (Nat.zero_le _) (by simp)) (some ad) xs.length cap (xs.map vI) rfl ?q1 ?q2 ?q3 ?q4 ?q5 ?_)
  case q1 => simp
  case q2 => exact hr.below ((Below.refl _ _).alloc (Nat.le_refl _) _)
  case q3 => exact Ut xs
  case q4 => rw [Nat.zero_add]; exact hl
  case q5 => simp
  intro a' c' w1 hown hgrow
  go_wp2
  go_ret
  exact ⟨a', c', rfl, hown, ((Below.refl _ w).alloc (Nat.le_refl _) _).grown hgrow (by simp) (by intro k hk; simp [Value.ownBlock] at hk; omega)⟩

theorem Np {w : World} {a : Option Addr} {xs : List Int} (hr : Row w a (xs.map vI)) {k : Nat} (h : k < xs.length) :
  ∃ b off, a = some ⟨b, off, none⟩ ∧ b < w.heap.size ∧ w.cell? ⟨b, off + k, none⟩ = some (.int .i64 xs[k]) :=
 hr k (vI xs[k]) (by simp [h])
end
section
open Go.RowKit

def fK (xs : List Int) (most : Int) : Nat → Int → List Int → Option (List Int)
 | 0, _, _ => none
 | f + 1, p, out => if p = -1 then some out else if (out.length : Int) ≥ most ∨ QA xs.length p 1 = false ∨ qR out p = true then none else fK xs most f (xs.getD p.toNat 0) (out ++ [p])

def follow (xs : List Int) (p most : Int) : Option (List Int) := fK xs most (xs.length + 2) p []

theorem xP : ∀ (n : Nat) (l : List Int), l.Nodup → (∀ x ∈ l, 0 ≤ x ∧ x < n) → l.length ≤ n
 | 0, l, _, h => by
  cases l with
  | nil => simp
  | cons a l => have := h a (by simp); omega
 | n + 1, l, hd, h => by
  have h1 := xP n (l.erase (n : Int)) (hd.erase _) (fun x hx => by
   have hm := h x (List.mem_of_mem_erase hx)
   have hne : x ≠ (n : Int) := by
    intro e; subst e
    exact (List.Nodup.not_mem_erase hd) hx
   omega)
  by_cases hn : (n : Int) ∈ l
  ·rw [List.length_erase_of_mem hn] at h1; omega
  ·rw [List.erase_of_not_mem hn] at h1; omega

def lenOf : Value → Nat | .slice _ n _ => n | _ => 0

def xQ (w : World) (r : Option (List Int)) (e : Ending) (w' : World) : Prop :=
 Below w.heap.size w w' ∧ match r with
  | some l => ∃ a c, e = .returned (.tuple #[.slice a l.length c, .int .i64 0]) ∧ w'.ownsRow w.heap.size 3 1 (.slice a l.length c) l.length (l.map vI)
  | none => e = .returned (.tuple #[.slice none 0 0, .int .i64 8])

theorem Gm (a : Option Addr) (cap : Nat) (xs : List Int) (p most : Int) (w : World) (hl : xs.length ≤ 1000000) (hr : Row w a (xs.map vI)) :
  Calls Tryz.prog 140 #[.slice a xs.length cap, .int .i64 p, .int .i64 most] w (xQ w (follow xs p most)) := by
 generalize hR : follow xs p most = R
 go_enter Tryz.func140, Tryz.ntmps140
 go_wp2
 go_loopw [1, 8] (fun u1 u8 wr => ∃ (q : Int) (out : List Int) (a8 : Option Addr) (c8 f : Nat), u1 = .int .i64 q ∧ u8 = .slice a8 out.length c8 ∧ wr.ownsRow w.heap.size 3 1 (.slice a8 out.length c8) out.length (out.map vI) ∧
   Below w.heap.size w wr ∧ Hid (fK xs most f q out = R) ∧ f + out.length = xs.length + 2 ∧ Hid (out.Nodup ∧ ∀ x ∈ out, 0 ≤ x ∧ x < xs.length)) (fun _ u8 _ => xs.length + 2 - lenOf u8)
 case atStart => exact ⟨p, [], none, 0, xs.length + 2, rfl, rfl, World.ownsRow_nil _ _ _ _, Below.refl _ _, hR, rfl, List.nodup_nil, by simp⟩
 case round =>
  obtain ⟨q, out, a8, c8, f, rfl, rfl, hown, hbw, hF, hf, hnd⟩ := hrel
  have hle := xP xs.length out hnd.out.1 hnd.out.2
  obtain ⟨f, rfl⟩ : ∃ f', f = f' + 1 := ⟨f - 1, by omega⟩
  have hlo : out.length ≤ 9223372036854775807 := by omega
  have HF := hF.out
  unfold fK at HF
  by_cases h1 : q = -1
  ·have hq : (q != -1) = false := by simp [h1]
   rw [if_pos h1] at HF
   have HO := gO hown
   clear hown h1 hR
   go_wp2
   go_ret2
   subst HF
   exact ⟨hbw, _, _, rfl, HO.out⟩
  ·have hq : (q != -1) = true := by simp [h1]
   rw [if_neg h1] at HF
   have HO := gO hown
   clear hown hR hF
   by_cases h2 : most ≤ (out.length : Int)
   ·rw [if_pos (Or.inl h2)] at HF
    subst HF
    go_wp2_with fail
    go_ret2
    exact ⟨hbw, rfl⟩
   ·cases h3 : QA xs.length q 1 with
    | false =>
     rw [if_pos (Or.inr (Or.inl h3))] at HF
     subst HF
     go_wp2_with (go_at_call 142; refine (BN _ _ _ _ _ _ (by omega) (by omega) (by omega)).mono ?_; rintro e w' ⟨rfl, rfl⟩)
     go_ret2
     exact ⟨hbw, rfl⟩
    | true =>
     cases h4 : qR out q with
     | true =>
      rw [if_pos (Or.inr (Or.inr h4))] at HF
      subst HF
      go_wp2_with (first | (go_at_call 142; refine (BN _ _ _ _ _ _ (by omega) (by omega) (by omega)).mono ?_; rintro e w' ⟨rfl, rfl⟩) | (go_at_call 35; refine (jM _ _ _ _ _ hlo (aX HO.out)).mono ?_; rintro e w' ⟨rfl, rfl⟩))
      go_ret2
      exact ⟨hbw, rfl⟩
     | false =>
      rw [if_neg (by rw [h3, h4]; simp; omega)] at HF
      have hq2 : 0 ≤ q ∧ q < xs.length := by unfold QA at h3; simp only [decide_eq_true_eq] at h3; omega
      obtain ⟨k, rfl⟩ := Int.eq_ofNat_of_zero_le hq2.1
      have hk : k < xs.length := by omega
      rw [Int.toNat_natCast, List.getD_eq_getElem?_getD, gJ hk, Option.getD_some] at HF
      have Uu := gO HF
      clear HF
      have hrw := hr.below hbw
      have hsz := hbw.size
      have Aw : Hid ( (wr.alloc (.cells #[.int .i64 (k : Int)] 3)).ownsRow w.heap.size 3 1 (.slice a8 out.length c8) out.length (out.map vI)) := gO (own_below HO.out ((Below.refl _ _).alloc (Nat.le_refl _) _) (Nat.le_refl _))
      have BP : Hid (Row (wr.alloc (.cells #[.int .i64 (k : Int)] 3)) (some ⟨wr.heap.size, 0, none⟩) [vI k]) := Nc _ _ _
      go_wp2_with (first | (go_at_call 142; refine (BN _ _ _ _ _ _ (by omega) (by omega) (by omega)).mono ?_; rintro e w' ⟨rfl, rfl⟩) | (go_at_call 35; refine (jM _ _ _ _ _ hlo (aX HO.out)).mono ?_; rintro e w' ⟨rfl, rfl⟩) | (at_builtin; refine fJ rfl _ _ 39 rfl w.heap.size 3 (.int .i64 0) 1 8 Tryz.underlying39 Au rfl (by decide) (by decide) a8 out.length c8 (out.map vI) rfl Aw.out (some ⟨wr.heap.size, 0, none⟩) 1 1 [vI k] rfl rfl BP.out (by simp [vI, Value.oneCell']) (by omega) (by simp; omega) ?_))
      intro a' c' w1 hown1 hgrow
      have hb1 : Below w.heap.size w w1 := below_grown (hbw.alloc hsz _) Aw.out hgrow (Nat.le_refl _) (by simp; omega)
      obtain ⟨b, off, rfl, hbb, hc⟩ := Np (hr.below hb1) hk
      have HO1 := gO hown1
      clear hown1 Aw BP hrw hgrow hr HO
      go_wp2
      go_roundw
      case rel =>
       refine ⟨xs[k], out ++ [(k : Int)], a', c', f, rfl, by simp, ?_, hb1, Uu.out, by simp; omega, ?_⟩
       ·have h := HO1.out
        simp only [List.length_append, List.length_cons, List.length_nil, List.map_append, List.map_cons, List.map_nil]
        exact h
       ·refine ⟨?_, ?_⟩
        ·rw [List.nodup_append]
         refine ⟨hnd.out.1, by simp, ?_⟩
         intro x hx y hy
         simp only [List.mem_singleton] at hy
         subst hy
         intro e
         subst e
         have : qR out (k : Int) = true := by unfold qR; simpa using hx
         rw [this] at h4; cases h4
        ·intro x hx
         rw [List.mem_append, List.mem_singleton] at hx
         rcases hx with hx | rfl
         ·exact hnd.out.2 x hx
         ·omega
      case measure => simp [lenOf]; omega

theorem Nq (a : Option Addr) (n cap : Nat) (xs : List Int) (p most : Int) (w : World) (hn : xs.length = n) (hl : n ≤ 1000000) (hr : Row w a (xs.map vI)) :
  Calls Tryz.prog 140 #[.slice a n cap, .int .i64 p, .int .i64 most] w (xQ w (follow xs p most)) := by
 subst hn
 exact Gm a cap xs p most w hl hr

theorem DN (a : Option Addr) (n cap : Nat) (xs : List Int) (p most : Int) (w : World) (hn : xs.length = n) (hl : n ≤ 1000000) (hr : Row w a (xs.map vI)) (l : List Int) (hf : follow xs p most = some l) :
  Calls Tryz.prog 140 #[.slice a n cap, .int .i64 p, .int .i64 most] w fun e w' => ∃ a' c', e = .returned (.tuple #[.slice a' l.length c', .int .i64 0]) ∧ w'.ownsRow w.heap.size 3 1 (.slice a' l.length c') l.length (l.map vI) ∧ Below w.heap.size w w' := by
 refine (Nq a n cap xs p most w hn hl hr).mono fun e w' h => ?_
 rw [hf] at h
 obtain ⟨hb, a', c', he, ho⟩ := h
 exact ⟨a', c', he, ho, hb⟩
end
section
open Go.RowKit
attribute [local go_sem ↓] iI

def chainTo (xs : List Int) (p k n : Nat) : Nat → List Int
 | 0 => xs
 | i + 1 => (chainTo xs p k n i).set (p + i * k) (if i + 1 < n then ((p + (i + 1) * k : Nat) : Int) else -1)

theorem eG (xs : List Int) (p k n : Nat) : ∀ i, (chainTo xs p k n i).length = xs.length
 | 0 => rfl
 | i + 1 => by simp [chainTo, eG xs p k n i]

theorem Nr (a : Option Addr) (cap : Nat) (xs : List Int) (p k n : Nat) (w : World) (hl : xs.length ≤ 1000000) (hr : Row w a (xs.map vI)) (hk1 : 1 ≤ k) (hk2 : k ≤ 64) (hn1 : 1 ≤ n) (hn2 : n ≤ xs.length) (hin : p + k * n ≤ xs.length) :
  Calls Tryz.prog 181 #[.slice a xs.length cap, .int .i64 p, .int .i64 k, .int .i64 n] w fun e w' => ∃ a' c', e = .returned (.tuple #[.slice a' xs.length c', .int .i64 0]) ∧ w'.ownsRow w.heap.size 3 1 (.slice a' xs.length c') xs.length ((chainTo xs p k n n).map vI) ∧ Below w.heap.size w w' := by
 have hkn : 0 ≤ (k : Int) * (n : Int) := Int.mul_nonneg (by omega) (by omega)
 have hkn2 : (k : Int) * (n : Int) ≤ xs.length - p := by
  have : ((k * n : Nat) : Int) = (k : Int) * (n : Int) := by simp
  omega
 have HB : Hid (QA xs.length p ((k : Int) * (n : Int)) = true) := by unfold QA; exact decide_eq_true (by omega)
 have d1 : decide ((k : Int) < 1) = false := decide_eq_false (by omega)
 have d2 : decide (64 < (k : Int)) = false := decide_eq_false (by omega)
 have d3 : decide ((n : Int) < 1) = false := decide_eq_false (by omega)
 go_enter Tryz.func181, Tryz.ntmps181
 go_wp2_with (first | (go_at_call 142; refine (BN _ _ _ _ _ _ (by omega) (by omega) (by omega)).mono ?_; rw [HB.out]; rintro e w' ⟨rfl, rfl⟩) | (go_at_call 85; refine (JO _ _ _ _ (by omega) hr).mono ?_; rintro e w1 ⟨a', c', rfl, hown, hb⟩; have HO := gO hown; clear hown))
 go_loopw [11, 12, 41] (fun _ _ s41 wr => ∃ i : Nat, i ≤ n ∧ s41 = .int .i64 i ∧ Hid (wr.ownsRow w.heap.size 3 1 (.slice a' xs.length c') xs.length ((chainTo xs p k n i).map vI)) ∧ Below w.heap.size w wr) (fun _ _ s41 _ => n - (intOf s41).toNat)
 case atStart => exact ⟨0, Nat.zero_le _, rfl, HO, hb⟩
 case round =>
  obtain ⟨i, hi, rfl, hown, hbw⟩ := hrel
  by_cases hlt : i < n
  ·have hidx : p + i * k < xs.length := by
    have : i * k + k ≤ k * n := by rw [← Nat.succ_mul, Nat.mul_comm]; exact Nat.mul_le_mul_left _ hlt
    omega
   have hik : 0 ≤ (i : Int) * (k : Int) := Int.mul_nonneg (by omega) (by omega)
   have aDT : (p : Int) + (i : Int) * (k : Int) < xs.length := by
    have : ((p + i * k : Nat) : Int) = (p : Int) + (i : Int) * (k : Int) := by simp
    omega
   obtain ⟨g, v, rfl, hg, hgs, hc, hf⟩ := dW hown.out (p + i * k) (by rw [List.length_map, eG]; exact hidx)
   have aDU : 0 ≤ ((i : Int) + 1) * (k : Int) := Int.mul_nonneg (by omega) (by omega)
   have aAf : ((i : Int) + 1) * (k : Int) = (i : Int) * (k : Int) + k := by rw [Int.add_mul, Int.one_mul]
   have aDV : ((i : Int) + 1) * (k : Int) ≤ xs.length + 64 := by omega
   clear aAf
   by_cases hlast : i + 1 < n
   ·have hl2 : (i : Int) < (n : Int) - 1 := by omega
    go_wp2
    go_roundw
    case rel => exact ⟨i + 1, by omega, by go_num, by
      have h := (World.ownsRow.stored hown.out (p + i * k) (vI (p + ((i : Int) + 1) * k))).1
      show World.ownsRow _ _ _ _ _ _ ((chainTo xs p k n (i + 1)).map vI)
      unfold chainTo
      rw [if_pos hlast, List.map_set]
      rw [show (((p + (i + 1) * k : Nat) : Int)) = p + ((i : Int) + 1) * k from by simp]
      exact h, hbw.setCell hg _⟩
    case measure => simp [intOf]; omega
   ·have hl2 : ¬ (i : Int) < (n : Int) - 1 := by omega
    go_wp2
    go_roundw
    case rel => exact ⟨i + 1, by omega, by go_num, by
      have h := (World.ownsRow.stored hown.out (p + i * k) (vI (-1))).1
      show World.ownsRow _ _ _ _ _ _ ((chainTo xs p k n (i + 1)).map vI)
      unfold chainTo
      rw [if_neg hlast, List.map_set]
      exact h, hbw.setCell hg _⟩
    case measure => simp [intOf]; omega
  ·obtain rfl : i = n := by omega
   go_wp2
   go_ret2
   exact ⟨a', c', rfl, hown.out, hbw⟩
end
section
open Go.RowKit

theorem wJ {P : Program} {w : World} {ops : Array Oper} {rest : List Oper} {o : Oper} {a : Act} {Q : Exit → Act → World → Prop} (hgd : o.guard = none) (s x : Operand) (t : TypeId)
  (ho : o.op = .call { callee := .builtin .append, args := #[s, x], argTypes := #[t, t] })
  (base : Nat) (e : TypeId) (z : Value) (size bytes : Nat) (ht : P.underlying t = some (.slice e)) (hinfo : (P.info? e).map (fun i => (i.zero, i.size, i.bytes)) = some (some z, size, bytes)) (hsz : 0 < size)
  (as_ : Option Addr) (n cs : Nat) (xs : List Value) (hs : a.eval s = .slice as_ n cs) (hown : w.ownsRow base e size (.slice as_ n cs) n xs)
  (ax : Option Addr) (m cx : Nat) (news : List Value) (hx : a.eval x = .slice ax m cx) (hl : news.length = m * size) (hnews : Row w ax news) (h1 : ∀ u ∈ news, u.oneCell' = true)
  (hroom : n + m ≤ cs)
  (h : ∀ w', w'.ownsRow base e size (.slice as_ (n + m) cs) (n + m) (xs ++ news) → w.grownBy w' (Value.ownBlock (.slice as_ n cs)) → wpList P ops Q rest (a.put o.dst (.slice as_ (n + m) cs)) w') :
  wpList P ops Q (o :: rest) a w := by
 obtain ⟨i, hi, hz, hsize, hby⟩ := info_parts hinfo
 subst hsize
 refine wpList_plain hgd fun K hK => ?_
 have hlen : (xs ++ news).length = (n + m) * i.size := by rw [List.length_append, hown.1, hl, Nat.add_mul]
 have key : ∃ w', (Builtin.append_ #[t, t] o.type #[.slice as_ n cs, .slice ax m cx]).run P w = .ok (.slice as_ (n + m) cs) w' ∧ w'.ownsRow base e i.size (.slice as_ (n + m) cs) (n + m) (xs ++ news) ∧ w.grownBy w' (Value.ownBlock (.slice as_ n cs)) := by
  rcases Nat.eq_zero_or_pos m with rfl | hm
  ·obtain rfl : news = [] := List.eq_nil_of_length_eq_zero (by simpa using hl)
   refine ⟨w, ?_, by simpa using hown, ⟨rfl, rfl, rfl, Nat.le_refl _, fun _ _ _ => rfl⟩⟩
   have hf := lF (P := P) i.size 0 ax 0 cx [] (by simp) (Row.nil w ax)
   cases as_ with
   | none =>
    rcases hown.2 with ⟨hv, rfl⟩ | ⟨g, cap, cur, hv, _⟩
    ·obtain rfl : cs = 0 := by simp at hv; exact hv
     cases ax <;> simp [Builtin.append_, run_underlying ht, sizeOf, typeInfo, hi, Builtin.lenOf, Builtin.firstCells, loadCells, loadCellsFrom]
    ·simp at hv
   | some ad =>
    have hn : n ≤ cs := by omega
    cases ax <;> simp [Builtin.append_, run_underlying ht, sizeOf, typeInfo, hi, Builtin.lenOf, Builtin.firstCells, loadCells, loadCellsFrom, hn, storeCells]
  ·have hnz : news ≠ [] := by
    intro e; subst e
    have := Nat.mul_pos hm hsz
    simp at hl; omega
   obtain ⟨ad, rfl⟩ : ∃ ad, ax = some ad := by
    cases news with
    | nil => exact absurd rfl hnz
    | cons u l => obtain ⟨b, off, e1, _⟩ := hnews 0 u rfl; exact ⟨_, e1⟩
   rcases hown.2 with ⟨hv, rfl⟩ | ⟨g, cap, cur, hv, hbg, hg, hnc, hcm, hcs, htake⟩
   ·obtain ⟨rfl, rfl⟩ : as_ = none ∧ cs = 0 := by simp at hv; exact hv
    omega
   ·obtain ⟨rfl, rfl⟩ : as_ = some ⟨g, 0, none⟩ ∧ cs = cap := by simpa using hv
    have hfit : n * i.size + news.length ≤ cur.size := by rw [hl, hcs, ← Nat.add_mul]; exact Nat.mul_le_mul_right _ hroom
    have hr := run_append_room (P := P) w t o.type e i ht hi g n cs cur hg ad m cx news hl (fun j u hj => by
     obtain ⟨b, off, e1, _, h5⟩ := hnews j u hj
     obtain rfl : ad = ⟨b, off, none⟩ := by simpa using e1
     rw [Addr.add_lit]; exact h5) h1 hroom hfit
    refine ⟨_, hr, ⟨hlen, .inr ⟨g, cs, _, rfl, hbg, setRow_heap w g cur _ e _ hg, hroom, hcm, ?_, ?_⟩⟩, ⟨rfl, rfl, rfl, by simp [World.setRow], fun k _ hk => setRow_other w g k _ (fun e => hk (by simp [Value.ownBlock, e]))⟩⟩
    ·simp only [List.size_toArray, List.length_append, List.length_take, List.length_drop, Array.length_toList]
     omega
    ·rw [htake, ← hlen]
     exact List.take_left
 obtain ⟨w', hr, h2, h3⟩ := key
 unfold Oper.wp execOp
 simp only [ho, resolve, invoke, builtin, Sem.run_bind, Sem.run_pure, Result.andThen_ok, List.map_toArray, List.map_cons, List.map_nil, hs, hx, hr]
 exact hK _ _ (h w' h2 h3)

theorem fU {w w' : World} {base : Nat} {e : TypeId} {size : Nat} {v : Value} {n : Nat} {xs : List Value} (h : w.ownsRow base e size v n xs) {row : Option Nat} (hg : w.grownBy w' row) (hne : ∀ k, v.ownBlock = some k → row ≠ some k) : w'.ownsRow base e size v n xs := by
 refine ⟨h.1, ?_⟩
 rcases h.2 with h' | ⟨g, cap, cur, h1, h2, hgg, rest⟩
 ·exact .inl h'
 ·refine .inr ⟨g, cap, cur, h1, h2, ?_, rest⟩
  rw [hg.block g (Array.getElem?_eq_some_iff.1 hgg).1 (fun e => hne g (by rw [h1]; rfl) e.symm)]
  exact hgg

theorem Jb {P : Program} {w : World} (sT ty : TypeId) (e : TypeId) (hu : P.underlying sT = some (.slice e)) (size : Nat) (z : Value) (hz : ∀ w, (zeroValue e).run P w = .ok z w) (hzs : z.cells.size = size) (hz1 : ∀ u ∈ z.cells, u.oneCell' = true)
  (base n k c : Nat) (cc : Nat) (ao : Option Addr) (xs : List Value) (hown : w.ownsRow base e size (.slice ao n c) n xs) (hfit : n + k ≤ c) :
  ∃ w', (Builtin.clear_ #[sT] ty #[.slice (bT ao n c size) k cc]).run P w = .ok (.tuple #[]) w' ∧ w'.ownsRow base e size (.slice ao n c) n xs ∧ w.grownBy w' (Value.ownBlock (.slice ao n c)) := by
 rcases Nat.eq_zero_or_pos k with rfl | hk
 ·refine ⟨w, ?_, hown, ⟨rfl, rfl, rfl, Nat.le_refl _, fun _ _ _ => rfl⟩⟩
  cases bT ao n c size <;> simp [Builtin.clear_, run_underlying hu]
 ·rcases hown.2 with ⟨h', h2⟩ | ⟨g, cap, cur, h', hb, hg, hn, hcm, hsz, ht⟩
  ·obtain ⟨rfl, rfl⟩ : ao = none ∧ c = 0 := by simp at h'; exact ⟨h'.1, h'.2.2⟩
   omega
  ·obtain ⟨rfl, rfl⟩ : ao = some ⟨g, 0, none⟩ ∧ c = cap := by simpa using h'
   have hcut : bT (some ⟨g, 0, none⟩) n c size = some ⟨g, n * size, none⟩ := by
    unfold bT
    rw [if_neg (by omega)]
    simp [Addr.add_lit]
   have hzl : (Builtin.zeroCells z.cells k).toList.length = k * size := by rw [← hzs]; simp [Builtin.zeroCells]
   have hz1' : ∀ u ∈ (Builtin.zeroCells z.cells k).toList, u.oneCell' = true := by
    intro u hu
    simp only [Builtin.zeroCells, Array.toList_map, List.mem_map, Array.toList_range, List.mem_range] at hu
    obtain ⟨i, hi, rfl⟩ := hu
    have hpos : 0 < z.cells.size := by
     rcases Nat.eq_zero_or_pos z.cells.size with h0 | h0
     ·rw [h0, Nat.mul_zero] at hi; omega
     ·exact h0
    have hlt : i % z.cells.size < z.cells.size := Nat.mod_lt _ hpos
    rw [getElem!_pos z.cells (i % z.cells.size) hlt]
    exact hz1 _ (Array.getElem_mem _)
   have hnk : n * size + k * size ≤ c * size := by rw [← Nat.add_mul]; exact Nat.mul_le_mul_right _ hfit
   have hst := run_storeCells_at P g (n * size) e (Builtin.zeroCells z.cells k).toList 0 cur w hg (by rw [hzl]; omega) hz1'
   refine ⟨w.setRow g (cur.toList.take (n * size) ++ (Builtin.zeroCells z.cells k).toList ++ cur.toList.drop (n * size + (Builtin.zeroCells z.cells k).toList.length)).toArray, ?_, ?_, ?_⟩
   ·obtain ⟨m, rfl⟩ : ∃ m, k = m + 1 := ⟨k - 1, by omega⟩
    simp only [Nat.add_zero] at hst
    simp [Builtin.clear_, run_underlying hu, hz, hcut, hst]
   ·refine ⟨hown.1, .inr ⟨g, c, _, rfl, hb, setRow_heap w g cur _ e _ hg, hn, hcm, ?_, ?_⟩⟩
    ·simp only [List.size_toArray, List.length_append, List.length_take, List.length_drop, Array.length_toList, hzl]; omega
    ·have hl : (cur.toList.take (n * size)).length = n * size := by rw [List.length_take, Array.length_toList]; omega
     rw [List.append_assoc]
     rw [List.take_left' hl]; exact ht
   ·exact ⟨rfl, rfl, rfl, by simp [World.setRow], fun k _ hk => setRow_other w g k _ (fun e => hk (by simp [Value.ownBlock, e]))⟩

theorem fV {P : Program} {w : World} (dT sT ty : TypeId) (e : TypeId) (hu : P.underlying dT = some (.slice e)) (size : Nat) (hsz : (P.info? e).map (·.size) = some size)
  (dp sp : Option Addr) (dLen dCap sLen sCap : Nat)
  (cs : List Value) (hn : cs.length = Nat.min sLen dLen * size) (hcs : Row w sp cs) (h1 : ∀ u ∈ cs, u.oneCell' = true)
  (base N co p : Nat) (ao : Option Addr) (xs : List Value) (hown : w.ownsRow base e size (.slice ao N co) N xs) (hp : 0 < cs.length → dp = ao.map (·.add (p * size))) (hdn : dp = none → cs = []) (hfit : p * size + cs.length ≤ N * size) :
  ∃ w', (Builtin.copy_ #[dT, sT] ty #[.slice dp dLen dCap, .slice sp sLen sCap]).run P w = .ok (goInt (Nat.min sLen dLen : Nat)) w' ∧ w'.ownsRow base e size (.slice ao N co) N (xs.take (p * size) ++ cs ++ xs.drop (p * size + cs.length)) ∧ w.grownBy w' (Value.ownBlock (.slice ao N co)) := by
 cases hq : P.info? e with
 | none => simp [hq] at hsz
 | some i =>
  have hi : i.size = size := by simpa [hq] using hsz
  have hf := lF (P := P) size (Nat.min sLen dLen) sp sLen sCap cs hn hcs
  by_cases hc0 : 0 < cs.length
  ·obtain ⟨g, cap, cur, hv, hbg, hg, hnc, hcm, hcsz, htk⟩ : ∃ g cap cur, Value.slice ao N co = .slice (some ⟨g, 0, none⟩) N cap ∧ base ≤ g ∧ w.heap[g]? = some (.cells cur e (0, 0)) ∧ N ≤ cap ∧ cap ≤ maxLen ∧ cur.size = cap * size ∧ cur.toList.take (N * size) = xs := by
    rcases hown.2 with ⟨_, h0⟩ | h
    ·rw [h0, Nat.zero_mul] at hfit; omega
    ·exact h
   obtain ⟨rfl, rfl⟩ : ao = some ⟨g, 0, none⟩ ∧ co = cap := by simpa using hv
   have hdp := hp hc0
   simp only [Option.map_some, Addr.add_lit, Nat.zero_add] at hdp
   subst hdp
   have hNc : N * size ≤ cur.size := by rw [hcsz]; exact Nat.mul_le_mul_right _ hnc
   have hst := run_storeCells_at P g (p * size) e cs 0 cur w hg (by omega) h1
   refine ⟨w.setRow g (cur.toList.take (p * size) ++ cs ++ cur.toList.drop (p * size + cs.length)).toArray, ?_, ?_, ?_⟩
   ·simp only [Nat.add_zero] at hst
    simp [Builtin.copy_, run_underlying hu, Builtin.lenOf, sizeOf, typeInfo, hq, hi, hf, hst]
   ·refine ⟨?_, .inr ⟨g, co, _, rfl, hbg, setRow_heap w g cur _ e _ hg, hnc, hcm, ?_, ?_⟩⟩
    ·have := hown.1
     simp only [List.length_append, List.length_take, List.length_drop]; omega
    ·simp only [List.size_toArray, List.length_append, List.length_take, List.length_drop, Array.length_toList]; omega
    ·exact DR _ _ _ _ _ htk (by simpa using hNc) hfit
   ·exact ⟨rfl, rfl, rfl, by simp [World.setRow], fun k _ hk => setRow_other w g k _ (fun e => hk (by simp [Value.ownBlock, e]))⟩
  ·have hc : cs = [] := List.eq_nil_of_length_eq_zero (by omega)
   subst hc
   refine ⟨w, ?_, by simpa using hown, ⟨rfl, rfl, rfl, Nat.le_refl _, fun _ _ _ => rfl⟩⟩
   cases dp with
   | none => simp [Builtin.copy_, run_underlying hu, Builtin.lenOf, sizeOf, typeInfo, hq, hi, hf]
   | some ad => simp [Builtin.copy_, run_underlying hu, Builtin.lenOf, sizeOf, typeInfo, hq, hi, hf, storeCells]
end
section
def jA (l : List Rg) (i : Nat) : List Rg :=
 match l.getLast? with
 | some r => if r.f + r.s = i then l.dropLast ++ [⟨r.f, r.s + 1⟩] else l ++ [⟨i, 1⟩]
 | none => [⟨i, 1⟩]

def dZ (f : Nat → Bool) : Nat → List Rg
 | 0 => []
 | i + 1 => if f i then jA (dZ f i) i else dZ f i

def cZ (f : Nat → Bool) : List Rg := dZ f 256

structure Dk (f : Nat → Bool) (i : Nat) (l : List Rg) : Prop where
 chain : ∀ k (h : k + 1 < l.length), (l[k]'(by omega)).f + (l[k]'(by omega)).s < l[k + 1].f
 low : ∀ r ∈ l, 0 ≤ r.f ∧ 1 ≤ r.s ∧ r.f + r.s ≤ i
 mem : ∀ p, bV l p = (decide (p < i) && f p)

theorem qG (l m : List Rg) (p : Nat) : bV (l ++ m) p = (bV l p || bV m p) := by simp [bV]
theorem uI (r : Rg) (p : Nat) : bV [r] p = mD r p := by simp [bV]

theorem Fv {f : Nat → Bool} {i : Nat} {l : List Rg} (h : Dk f i l) (hf : f i = true) : Dk f (i + 1) (jA l i) := by
 unfold jA
 rcases List.eq_nil_or_concat l with rfl | ⟨L, r, rfl⟩
 ·refine ⟨fun k hk => by simp at hk, fun r hr => ?_, fun p => ?_⟩
  ·simp only [List.getLast?_nil, List.mem_singleton] at hr; subst hr; simp only; omega
  ·have hm := h.mem p
   simp only [bV, List.any_nil] at hm
   show bV [⟨i, 1⟩] p = _
   rw [uI]
   unfold mD
   by_cases e : p = i
   ·subst e; simp [hf]; omega
   ·rw [decide_eq_false (by simp only; omega)]
    by_cases h1 : p < i
    ·rw [decide_eq_true h1, Bool.true_and] at hm; rw [← hm]; simp
    ·rw [decide_eq_false (by omega)]; simp
 ·simp only [List.concat_eq_append, List.getLast?_concat, List.dropLast_concat]
  rw [List.concat_eq_append] at h
  have hrl := h.low r (by simp)
  by_cases e : r.f + r.s = i
  ·rw [if_pos e]
   refine ⟨fun k hk => ?_, fun x hx => ?_, fun p => ?_⟩
   ·have hc := h.chain k (by simpa using hk)
    simp only [List.length_append, List.length_cons, List.length_nil] at hk
    by_cases hkl : k + 1 < L.length
    ·rw [List.getElem_append_left (by omega), List.getElem_append_left hkl] at hc ⊢; exact hc
    ·have e1 : ∀ (x : Rg) (h : k + 1 < (L ++ [x]).length), (L ++ [x])[k + 1] = x := fun x h => by rw [List.getElem_append_right (by omega)]; simp
     rw [List.getElem_append_left (by omega), e1] at hc ⊢
     exact hc
   ·rw [List.mem_append, List.mem_singleton] at hx
    rcases hx with hx | rfl
    ·have := h.low x (by simp [hx]); omega
    ·simp only; omega
   ·have hm := h.mem p
    rw [qG, uI] at hm ⊢
    by_cases ep : p = i
    ·subst ep
     rw [show mD ⟨r.f, r.s + 1⟩ p = true from decide_eq_true (by simp only; omega), hf]; simp
    ·rw [show mD ⟨r.f, r.s + 1⟩ p = mD r p from decide_eq_decide.2 (by simp only; omega), hm, decide_eq_decide.2 (show p < i ↔ p < i + 1 by omega)]
  ·rw [if_neg e]
   refine ⟨fun k hk => ?_, fun x hx => ?_, fun p => ?_⟩
   ·simp only [List.length_append, List.length_cons, List.length_nil] at hk
    by_cases hkl : k + 1 < (L ++ [r]).length
    ·rw [List.getElem_append_left (by omega), List.getElem_append_left hkl]; exact h.chain k hkl
    ·have hkk : k = L.length := by simp only [List.length_append, List.length_cons, List.length_nil] at hkl; omega
     subst hkk
     rw [List.getElem_append_left (by simp), List.getElem_append_right (by simp)]
     simp; omega
   ·rw [List.mem_append, List.mem_singleton] at hx
    rcases hx with hx | rfl
    ·have := h.low x hx; omega
    ·simp only; omega
   ·have hm := h.mem p
    rw [qG, hm, uI]
    unfold mD
    by_cases ep : p = i
    ·subst ep; simp [hf]; omega
    ·rw [decide_eq_false (show ¬ ((i : Int) ≤ (p : Int) ∧ (p : Int) < (i : Int) + 1) by omega), Bool.or_false, decide_eq_decide.2 (show p < i ↔ p < i + 1 by omega)]

theorem kL (f : Nat → Bool) : ∀ i, Dk f i (dZ f i)
 | 0 => ⟨fun k hk => by simp [dZ] at hk, fun r hr => by simp [dZ] at hr, fun p => by simp [dZ, bV]⟩
 | i + 1 => by
  unfold dZ
  have ih := kL f i
  cases hf : f i with
  | true => rw [if_pos rfl]; exact Fv ih hf
  | false =>
   rw [if_neg (by simp)]
   refine ⟨ih.chain, fun r hr => by have := ih.low r hr; omega, fun p => ?_⟩
   rw [ih.mem]
   by_cases e : p = i
   ·subst e; simp [hf]
   ·rw [decide_eq_decide.2 (show p < i ↔ p < i + 1 by omega)]

theorem oN : ∀ (l : List Rg) (p : Option Rg), (∀ r ∈ l, rY r = true) → (∀ k (h : k + 1 < l.length), (l[k]'(by omega)).f + (l[k]'(by omega)).s < l[k + 1].f) → (∀ r q, l.head? = some r → p = some q → q.f + q.s < r.f) → bW p l = true
 | [], _, _, _, _ => rfl
 | r :: l, p, h1, h2, h3 => by
  unfold bW
  rw [h1 r (by simp), Bool.true_and]
  rw [oN l (some r) (fun x hx => h1 x (by simp [hx])) (fun k hk => h2 (k + 1) (by simpa using hk)) (fun x q hx hq => by
   obtain rfl : r = q := by simpa using hq
   cases l with
   | nil => simp at hx
   | cons y l =>
    obtain rfl : y = x := by simpa using hx
    exact h2 0 (by simp)), Bool.and_true]
  cases p with
  | none => rfl
  | some q => exact decide_eq_true (h3 r q rfl rfl)

theorem Dl (f : Nat → Bool) : ∀ r ∈ cZ f, rY r = true := fun r hr => by
 have := (kL f 256).low r hr
 exact decide_eq_true (by omega)
theorem qH (f : Nat → Bool) : bW none (cZ f) = true :=
 oN _ none (Dl f) (kL f 256).chain (fun _ _ _ h => by cases h)
theorem Dn (f : Nat → Bool) (h : (cZ f).length ≤ 40) : cO (cZ f) = true := by
 unfold cO
 rw [decide_eq_true h, qH, Bool.true_and]
theorem Am (f : Nat → Bool) (p : Nat) (hp : p < 256) : bV (cZ f) p = f p := by
 rw [cZ, (kL f 256).mem p, decide_eq_true hp, Bool.true_and]
theorem Ap (f : Nat → Bool) (p : Nat) (hp : 256 ≤ p) : bV (cZ f) p = false := by
 rw [cZ, (kL f 256).mem p, decide_eq_false (by omega), Bool.false_and]
theorem wS {f g : Nat → Bool} : ∀ i, (∀ p, p < i → f p = g p) → dZ f i = dZ g i
 | 0, _ => rfl
 | i + 1, h => by
  unfold dZ
  rw [h i (by omega), wS i fun p hp => h p (by omega)]
theorem oO {f g : Nat → Bool} (h : ∀ p, p < 256 → f p = g p) : cZ f = cZ g := wS 256 h

def qI (f : Nat → Bool) (p : Nat) : Bool := f p && !(decide (0 < p) && f (p - 1))
def starts (f : Nat → Bool) : Nat → Nat
 | 0 => 0
 | i + 1 => starts f i + if qI f i then 1 else 0

theorem Dp (l : List Rg) (i : Nat) : ∃ r, (jA l i).getLast? = some r ∧ r.f + r.s = (i : Int) + 1 := by
 unfold jA
 split
 ·split
  ·rename_i r hr e
   exact ⟨_, List.getLast?_concat .., by simp only; omega⟩
  ·exact ⟨_, List.getLast?_concat .., rfl⟩
 ·exact ⟨_, rfl, rfl⟩

theorem Qh (f : Nat → Bool) (i : Nat) : (∃ r, (dZ f i).getLast? = some r ∧ r.f + r.s = (i : Int)) ↔ (0 < i ∧ f (i - 1) = true) := by
 rcases i with _ | i
 ·simp [dZ]
 ·rw [Nat.add_sub_cancel]
  unfold dZ
  cases hf : f i with
  | true =>
   rw [if_pos rfl]
   obtain ⟨r, h1, h2⟩ := Dp (dZ f i) i
   exact ⟨fun _ => ⟨by omega, rfl⟩, fun _ => ⟨r, h1, by omega⟩⟩
  | false =>
   rw [if_neg (by simp)]
   constructor
   ·rintro ⟨r, h1, h2⟩
    have := (kL f i).low r (List.mem_of_getLast? h1)
    omega
   ·rintro ⟨_, h⟩; cases h

theorem oH (f : Nat → Bool) : ∀ i, (dZ f i).length = starts f i
 | 0 => rfl
 | i + 1 => by
  have ih := oH f i
  have hl := Qh f i
  unfold dZ starts qI
  cases hf : f i with
  | false => rw [if_neg (by simp), ih, Bool.false_and]; rfl
  | true =>
   rw [if_pos rfl, Bool.true_and]
   unfold jA
   split
   ·rename_i r hr
    by_cases e : r.f + r.s = (i : Int)
    ·rw [if_pos e]
     obtain ⟨h0, h1⟩ := hl.1 ⟨r, hr, e⟩
     rw [h1, decide_eq_true h0]
     have hne : dZ f i ≠ [] := by intro h; rw [h] at hr; cases hr
     have := List.length_pos_iff.2 hne
     simp [List.length_dropLast]; omega
    ·rw [if_neg e]
     have hn : ¬ (0 < i ∧ f (i - 1) = true) := fun h => by
      obtain ⟨r', h1, h2⟩ := hl.2 h
      rw [hr] at h1; obtain rfl : r = r' := by simpa using h1
      exact e h2
     have hb : (decide (0 < i) && f (i - 1)) = false := by
      by_cases h0 : 0 < i
      ·rw [decide_eq_true h0, Bool.true_and]
       cases h : f (i - 1) with
       | false => rfl
       | true => exact absurd ⟨h0, h⟩ hn
      ·rw [decide_eq_false h0, Bool.false_and]
     rw [hb, List.length_append, ih]; rfl
   ·rename_i hr
    rw [List.getLast?_eq_none_iff] at hr
    rw [hr] at ih hl
    have hn : ¬ (0 < i ∧ f (i - 1) = true) := fun h => by
     obtain ⟨r', h1, h2⟩ := hl.2 h
     cases h1
    have hb : (decide (0 < i) && f (i - 1)) = false := by
     by_cases h0 : 0 < i
     ·rw [decide_eq_true h0, Bool.true_and]
      cases h : f (i - 1) with
      | false => rfl
      | true => exact absurd ⟨h0, h⟩ hn
     ·rw [decide_eq_false h0, Bool.false_and]
    rw [hb, ← ih]; rfl

def upd (f : Nat → Bool) (a b : Nat) (v : Bool) (p : Nat) : Bool := if a ≤ p ∧ p < b then v else f p

theorem Ir (f : Nat → Bool) (a b : Nat) (v : Bool) (hab : a < b) (p : Nat) : (if qI (upd f a b v) p then 1 else 0) ≤ (if qI f p then 1 else 0) + if p = (if v then a else b) then 1 else 0 := by
 have key : qI (upd f a b v) p = true → qI f p = true ∨ p = (if v then a else b) := by
  intro h
  unfold qI at h ⊢
  simp only [Bool.and_eq_true, Bool.not_eq_true', Bool.and_eq_false_iff, decide_eq_false_iff_not] at h ⊢
  obtain ⟨h1, h2⟩ := h
  unfold upd at h1 h2
  cases v with
  | true =>
   simp only [if_true] at h1 h2 ⊢
   by_cases hin : a ≤ p ∧ p < b
   ·by_cases e : p = a
    ·exact .inr e
    ·exfalso
     rw [if_pos (by omega)] at h2
     rcases h2 with h2 | h2
     ·omega
     ·cases h2
   ·rw [if_neg hin] at h1
    by_cases e : p = b
    ·exfalso
     rw [if_pos (by omega)] at h2
     rcases h2 with h2 | h2
     ·omega
     ·cases h2
    ·left
     refine ⟨h1, ?_⟩
     by_cases h0 : 0 < p
     ·rw [if_neg (by omega)] at h2; exact h2
     ·exact .inl h0
  | false =>
   simp only [Bool.false_eq_true, if_false] at h1 h2 ⊢
   by_cases hin : a ≤ p ∧ p < b
   ·rw [if_pos hin] at h1; cases h1
   ·rw [if_neg hin] at h1
    by_cases e : p = b
    ·exact .inr e
    ·left
     refine ⟨h1, ?_⟩
     by_cases h0 : 0 < p
     ·rw [if_neg (by omega)] at h2; exact h2
     ·exact .inl h0
 cases hs : qI (upd f a b v) p with
 | false => simp
 | true =>
  rcases key hs with h | h
  ·rw [h]; simp
  ·rw [if_pos h]; simp

theorem zH (f : Nat → Bool) (a b : Nat) (v : Bool) (hab : a < b) : ∀ n, starts (upd f a b v) n ≤ starts f n + if (if v then a else b) < n then 1 else 0
 | 0 => by simp [starts]
 | n + 1 => by
  have ih := zH f a b v hab n
  have h := Ir f a b v hab n
  unfold starts
  generalize (if v then a else b) = c at *
  by_cases h1 : n = c
  ·subst h1
   have e1 : (if n < n then 1 else 0 : Nat) = 0 := if_neg (by omega)
   have e2 : (if n < n + 1 then 1 else 0 : Nat) = 1 := if_pos (by omega)
   rw [e1] at ih
   rw [if_pos rfl] at h
   rw [e2]; omega
  ·rw [if_neg h1] at h
   by_cases h2 : c < n
   ·have e1 : (if c < n then 1 else 0 : Nat) = 1 := if_pos h2
    have e2 : (if c < n + 1 then 1 else 0 : Nat) = 1 := if_pos (by omega)
    rw [e1] at ih; rw [e2]; omega
   ·have e1 : (if c < n then 1 else 0 : Nat) = 0 := if_neg h2
    have e2 : (if c < n + 1 then 1 else 0 : Nat) = 0 := if_neg (by omega)
    rw [e1] at ih; rw [e2]; omega

theorem Iu (c : Prop) [Decidable c] : (if c then 1 else 0 : Nat) ≤ 1 := by split <;> omega

theorem mF (f : Nat → Bool) (a b : Nat) (v : Bool) (hab : a < b) : (cZ (upd f a b v)).length ≤ (cZ f).length + 1 := by
 unfold cZ
 rw [oH, oH]
 have h1 := zH f a b v hab 256
 have h2 := Iu ((if v then a else b) < 256)
 omega

theorem oI : ∀ (l : List Rg) (q : Rg), bW (some q) l = true → ∀ r ∈ l, q.f + q.s < r.f
 | [], _, _, r, hr => by simp at hr
 | x :: l, q, h, r, hr => by
  simp only [bW, Bool.and_eq_true] at h
  have hx : q.f + q.s < x.f := of_decide_eq_true h.1.2
  rcases List.mem_cons.1 hr with rfl | hr
  ·exact hx
  ·have h1 := oI l x h.2 r hr
   have h2 := iY h.1.1
   omega

theorem iP (l : List Rg) (p : Nat) : bV l p = true ↔ ∃ r ∈ l, r.f ≤ (p : Int) ∧ (p : Int) < r.f + r.s := by
 unfold bV mD
 simp [List.any_eq_true]

theorem BJ : ∀ (l m : List Rg) (q q' : Option Rg), bW q l = true → bW q' m = true → (∀ p, bV l p = bV m p) → l = m
 | [], [], _, _, _, _, _ => rfl
 | [], y :: m, _, q', _, h2, h => by
  simp only [bW, Bool.and_eq_true] at h2
  have hy := iY h2.1.1
  obtain ⟨n, hn⟩ := Int.eq_ofNat_of_zero_le hy.1
  have : bV (y :: m) n = true := (iP _ _).2 ⟨y, by simp, by omega, by omega⟩
  rw [← h n] at this
  simp [bV] at this
 | x :: l, [], q, _, h1, _, h => by
  simp only [bW, Bool.and_eq_true] at h1
  have hy := iY h1.1.1
  obtain ⟨n, hn⟩ := Int.eq_ofNat_of_zero_le hy.1
  have : bV (x :: l) n = true := (iP _ _).2 ⟨x, by simp, by omega, by omega⟩
  rw [h n] at this
  simp [bV] at this
 | x :: l, y :: m, q, q', h1, h2, h => by
  simp only [bW, Bool.and_eq_true] at h1 h2
  obtain ⟨⟨hx, _⟩, hl⟩ := h1
  obtain ⟨⟨hy, _⟩, hm⟩ := h2
  have px := iY hx
  have py := iY hy
  have lx := oI l x hl
  have ly := oI m y hm
  have lower : ∀ (z : Rg) (t : List Rg), 1 ≤ z.s → (∀ r ∈ t, z.f + z.s < r.f) → ∀ p : Nat, bV (z :: t) p = true → z.f ≤ p := fun z t hz ht p hp => by
   obtain ⟨r, hr, h3, h4⟩ := (iP _ _).1 hp
   rcases List.mem_cons.1 hr with rfl | hr
   ·exact h3
   ·have := ht r hr; omega
  obtain ⟨n, hn⟩ := Int.eq_ofNat_of_zero_le px.1
  obtain ⟨n', hn'⟩ := Int.eq_ofNat_of_zero_le py.1
  have e1 : y.f ≤ x.f := by
   have : bV (x :: l) n = true := (iP _ _).2 ⟨x, by simp, by omega, by omega⟩
   rw [h n] at this
   have := lower y m py.2.1 ly n this; omega
  have e2 : x.f ≤ y.f := by
   have : bV (y :: m) n' = true := (iP _ _).2 ⟨y, by simp, by omega, by omega⟩
   rw [← h n'] at this
   have := lower x l px.2.1 lx n' this; omega
  have ef : x.f = y.f := by omega
  have gap : ∀ (z z' : Rg) (t t' : List Rg), z.f = z'.f → 0 ≤ z.f → 1 ≤ z.s → (∀ r ∈ t, z.f + z.s < r.f) → (∀ p, bV (z :: t) p = bV (z' :: t') p) → ¬ z.s < z'.s := fun z z' t t' hf h0 hs ht hpp hlt => by
   obtain ⟨k, hk⟩ := Int.eq_ofNat_of_zero_le (show 0 ≤ z.f + z.s by omega)
   have h3 : bV (z' :: t') k = true := (iP _ _).2 ⟨z', by simp, by omega, by omega⟩
   rw [← hpp k] at h3
   obtain ⟨r, hr, h4, h5⟩ := (iP _ _).1 h3
   rcases List.mem_cons.1 hr with rfl | hr
   ·omega
   ·have := ht r hr; omega
  have es : x.s = y.s := by
   have g1 := gap x y l m ef px.1 px.2.1 lx h
   have g2 := gap y x m l ef.symm py.1 py.2.1 ly (fun p => (h p).symm)
   omega
  have exy : x = y := by
   obtain ⟨a, b⟩ := x; obtain ⟨c, d⟩ := y
   simp only at ef es; rw [ef, es]
  subst exy
  congr 1
  refine BJ l m (some x) (some x) hl hm fun p => ?_
  have hp := h p
  by_cases hin : x.f ≤ (p : Int) ∧ (p : Int) < x.f + x.s
  ·have n1 : bV l p = false := by
    rw [Bool.eq_false_iff]; intro hh
    obtain ⟨r, hr, h4, h5⟩ := (iP _ _).1 hh
    have := lx r hr; omega
   have n2 : bV m p = false := by
    rw [Bool.eq_false_iff]; intro hh
    obtain ⟨r, hr, h4, h5⟩ := (iP _ _).1 hh
    have := ly r hr; omega
   rw [n1, n2]
  ·have n0 : mD x p = false := decide_eq_false hin
   simp only [bV, List.any_cons] at hp ⊢
   rw [n0, Bool.false_or, Bool.false_or] at hp
   exact hp

theorem zI {l : List Rg} (h : cO l = true) : l = cZ (bV l) := by
 have hall := kK h
 simp only [cO, Bool.and_eq_true] at h
 refine BJ l _ none none h.2 (qH _) fun p => ?_
 by_cases hp : p < 256
 ·rw [Am _ p hp]
 ·rw [Ap _ p (by omega), Bool.eq_false_iff]
  intro hh
  obtain ⟨r, hr, h4, h5⟩ := (iP _ _).1 hh
  have := iY (hall r hr)
  omega
end
section
open Go.RowKit

theorem JC : (Tryz.prog.info? 55).map (fun i => (i.zero, i.size, i.bytes)) = some (some (.agg #[.int .i64 0, .int .i64 0]), 2, 16) := by kernel_rfl
theorem xM (w : World) (vs : List Value) (t : TypeId) : Row (w.alloc (.cells vs.toArray t)) (some ⟨w.heap.size, 0, none⟩) vs := by
 intro j u hj
 exact ⟨w.heap.size, 0, rfl, by simp, by rw [Nat.zero_add, aY]; simpa using hj⟩

theorem BK (f : Nat → Bool) : ∀ i, (dZ f i).length ≤ i
 | 0 => by simp [dZ]
 | i + 1 => by
  have ih := BK f i
  unfold dZ
  split
  ·unfold jA
   split
   ·split
    ·have : 0 < i + 1 := by omega
     simp only [List.length_append, List.length_dropLast, List.length_cons, List.length_nil]; omega
    ·simp; omega
   ·simp
  ·omega

theorem Dq {w : World} {a : Option Addr} {f : Nat → Bool} (hr : Row w a ((bl f).map vB)) {k : Nat} (h : k < 256) :
  ∃ b off, a = some ⟨b, off, none⟩ ∧ b < w.heap.size ∧ w.cell? ⟨b, off + k, none⟩ = some (.bool (f k)) :=
 hr k (vB (f k)) (by rw [List.getElem?_map, Iq f k h]; rfl)

set_option maxRecDepth 100000 in
theorem Fz (a : Option Addr) (cap : Nat) (f : Nat → Bool) (w : World) (hr : Row w a ((bl f).map vB)) :
  Calls Tryz.prog 102 #[.slice a 256 cap] w fun e w' => ∃ a' c', e = .returned (.slice a' (cZ f).length c') ∧ w'.ownsRow w.heap.size 55 2 (.slice a' (cZ f).length c') (cZ f).length (flat eX (cZ f)) ∧ Below w.heap.size w w' := by
 go_enter Tryz.func102, Tryz.ntmps102
 go_wp2
 go_loopw [3, 4, 5, 6, 9] (fun s3 _ _ _ s9 wr => ∃ (i : Nat) (a3 : Option Addr) (c3 : Nat), i ≤ 256 ∧ s9 = .int .i64 i ∧ s3 = .slice a3 (dZ f i).length c3 ∧ Hid (wr.ownsRow w.heap.size 55 2 (.slice a3 (dZ f i).length c3) (dZ f i).length (flat eX (dZ f i))) ∧ Below w.heap.size w wr) (fun _ _ _ _ s9 _ => 256 - (intOf s9).toNat)
 case atStart => exact ⟨0, none, 0, by omega, rfl, rfl, World.ownsRow_nil _ _ _ _, Below.refl _ _⟩
 case round =>
  obtain ⟨i, a3, c3, hi, rfl, rfl, hown, hbw⟩ := hrel
  by_cases hlt : i < 256
  ·obtain ⟨b, off, rfl, hb, hc⟩ := Dq (hr.below hbw) hlt
   have hlen := BK f i
   cases hf : f i with
   | false =>
    have hs : dZ f (i + 1) = dZ f i := by conv => lhs; unfold dZ; rw [hf]; simp
    have HS := gO hs
    rw [hf] at hc
    clear hs hf
    go_wp2
    go_roundw
    case rel => exact ⟨i + 1, a3, c3, by omega, by go_num, by rw [HS.out], by rw [HS.out]; exact hown, hbw⟩
    case measure => simp [intOf]; omega
   | true =>
    have hs : dZ f (i + 1) = jA (dZ f i) i := by conv => lhs; unfold dZ; rw [hf]; simp
    have HS := gO hs
    rw [hf] at hc
    clear hs hf
    generalize hL : dZ f i = L at *
    have hinv : Dk f i L := by rw [← hL]; exact kL f i
    clear hL
    rcases List.eq_nil_or_concat L with rfl | ⟨M, r, rfl⟩
    ·have HO := gO (own_below hown.out (aC wr (.cells #[.int .i64 (i : Int), .int .i64 1] 55)) (Nat.le_refl _))
     have HN := gO (xM wr (eX ⟨i, 1⟩) 55)
     have hsz := hbw.size
     have hb1 : Below w.heap.size w (wr.alloc (.cells #[.int .i64 (i : Int), .int .i64 1] 55)) := Below.step hbw (aC _ _)
     go_wp2_with (at_builtin; refine fJ rfl _ _ 25 rfl w.heap.size 55 (.agg #[.int .i64 0, .int .i64 0]) 2 16 Tryz.underlying25 JC rfl (by decide) (by decide) _ _ _ _ rfl HO.out (some ⟨wr.heap.size, 0, none⟩) 1 1 (eX ⟨i, 1⟩) rfl rfl HN.out (by simp [eX, vI, Value.oneCell']) (by simp) (by simp; omega) ?_)
     intro a' c' w2 hown2 hgrow
     have hb2 := below_grown hb1 HO.out hgrow (Nat.le_refl _) (by simp; omega)
     have HO2 := gO hown2
     clear hown2 HO HN hgrow
     go_wp2
     go_roundw
     case rel => exact ⟨i + 1, a', c', by omega, by go_num, by rw [HS.out]; rfl, by rw [HS.out]; exact HO2.out, hb2⟩
     case measure => simp [intOf]; omega
    ·simp only [List.concat_eq_append, List.length_append, List.length_cons, List.length_nil, Nat.zero_add] at hown hlen HS hinv ⊢
     have hlow := hinv.low r (by simp)
     have hsm : r.small := by unfold Rg.small; omega
     obtain ⟨g, rfl, hg, hgs, hcell, Zm⟩ := NY gY (by decide) hown.out (j := M.length) (by simp)
     have hmr : (M ++ [r])[M.length]'(by simp) = r := by simp
     rw [hmr] at hcell
     have hc0 := hcell 0 (vI r.f) rfl
     have hc1 := hcell 1 (vI r.s) rfl
     have hf1 := Zm (M.length * 2 + 1)
     simp only [vI, Nat.add_zero] at hc0 hc1
     have hlm : M.length ≤ 255 := by omega
     have hsz := hbw.size
     clear hcell Zm hmr hinv
     cases he : (r.f + r.s == (i : Int)) with
     | true =>
      have hp : jA (M ++ [r]) i = M ++ [⟨r.f, r.s + 1⟩] := by
       unfold jA
       rw [List.getLast?_concat]
       simp only [List.dropLast_concat]
       rw [if_pos (eq_of_beq he)]
      rw [hp] at HS
      clear hp
      go_wp2_with (go_at_call 148; refine (l9 r _ hsm).mono ?_; rintro e w4 ⟨rfl, hb4⟩; have aFg := (hb4.cell (p := ⟨g, M.length * 2, none⟩) hgs).trans hc0; have aFh := (hb4.cell (p := ⟨g, M.length * 2 + 1, none⟩) hgs).trans hc1; have aFi := (hb4.frozen (p := ⟨g, M.length * 2 + 1, none⟩) hgs).trans hf1)
      have h := (World.ownsRow.stored (own_below hown.out hb4 (Nat.le_refl _)) (M.length * 2 + 1) (vI (r.s + 1))).1
      have hset : (flat eX (M ++ [r])).set (M.length * 2 + 1) (vI (r.s + 1)) = flat eX (M ++ [⟨r.f, r.s + 1⟩]) := by
       rw [aT, aT, List.set_append_right _ _ (by rw [flat_length gY]; omega), flat_length gY, Nat.add_sub_cancel_left]
       rfl
      rw [hset] at h
      have HH := gO h
      clear h hset
      go_roundw
      case rel =>
       refine ⟨i + 1, some ⟨g, 0, none⟩, c3, by omega, by go_num, by rw [HS.out]; simp, ?_, (Below.step hbw hb4).setCell hg _⟩
       rw [HS.out]
       have h2 := HH.out
       simp only [List.length_append, List.length_cons, List.length_nil, Nat.zero_add] at h2 ⊢
       exact h2
      case measure => simp [intOf]; omega
     | false =>
      have hp : jA (M ++ [r]) i = (M ++ [r]) ++ [⟨i, 1⟩] := by
       unfold jA
       rw [List.getLast?_concat]
       simp only
       rw [if_neg (by rw [beq_eq_false_iff_ne] at he; exact he)]
      rw [hp] at HS
      clear hp
      go_wp2_with fail
      refine (l9 r _ hsm).mono ?_
      rintro e w4 ⟨rfl, hb4⟩
      have HO4 := gO (own_below (own_below hown.out hb4 (Nat.le_refl _)) (aC w4 (.cells #[.int .i64 (i : Int), .int .i64 1] 55)) (Nat.le_refl _))
      have HN4 := gO (xM w4 (eX ⟨i, 1⟩) 55)
      have hb5 := Below.step hbw hb4
      have qV := hb5.size
      have hb6 : Below w.heap.size w (w4.alloc (.cells #[.int .i64 (i : Int), .int .i64 1] 55)) := Below.step hb5 (aC _ _)
      go_wp2_with (at_builtin; refine fJ rfl _ _ 25 rfl w.heap.size 55 (.agg #[.int .i64 0, .int .i64 0]) 2 16 Tryz.underlying25 JC rfl (by decide) (by decide) _ _ _ _ rfl HO4.out (some ⟨w4.heap.size, 0, none⟩) 1 1 (eX ⟨i, 1⟩) rfl rfl HN4.out (by simp [eX, vI, Value.oneCell']) (by omega) (by simp; omega) ?_)
      intro a' c' w5 hown5 hgrow
      have hb7 := below_grown hb6 HO4.out hgrow (Nat.le_refl _) (by simp; omega)
      have HO5 := gO hown5
      clear hown5 HO4 HN4 hgrow
      go_wp2
      go_roundw
      case rel =>
       refine ⟨i + 1, a', c', by omega, by go_num, by rw [HS.out]; simp, ?_, hb7⟩
       rw [HS.out]
       have h2 := HO5.out
       rw [aT]
       simp only [List.length_append, List.length_cons, List.length_nil, Nat.zero_add] at h2 ⊢
       exact h2
      case measure => simp [intOf]; omega
  ·obtain rfl : i = 256 := by omega
   go_wp2
   go_ret
   exact ⟨a3, c3, rfl, hown.out, hbw⟩
end
end Go.Proofs.YtcmpmobhongkiaaGreatDoor
