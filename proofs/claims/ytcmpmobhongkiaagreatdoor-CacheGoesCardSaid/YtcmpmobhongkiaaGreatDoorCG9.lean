/- texts of this claim, joined. -/
import Derived.Test.YtcmpmobhongkiaaGreatDoorCG0
import Derived.Test.YtcmpmobhongkiaaGreatDoorCG2
import Derived.Test.YtcmpmobhongkiaaGreatDoorCG3
import Derived.Test.YtcmpmobhongkiaaGreatDoorCG7
import Derived.Test.YtcmpmobhongkiaaGreatDoorCG8
import Derived.Lib.SliceRun
import Derived.Deep.QuietTactic
import Derived.BigQuiet
import Derived.WalkSmall
set_option linter.unusedVariables false
set_option linter.unusedSimpArgs false
namespace Go.Proofs.YtcmpmobhongkiaaGreatDoor
section
open Go.RowKit

theorem PI (k : Int) (w : World) (h1 : 1 ≤ k) (h2 : k ≤ 64) (h3 : 4 ≤ 16 / k) :
  Calls Tryz.prog 70 #[.int .i64 k] w fun e w' => e = .returned (.tuple #[.int .i64 0, .int .i64 (16 / k), .int .i64 0]) ∧ w = w' := by
 go_enter Tryz.func70, Tryz.ntmps70
 go_wp2
 refine wp_loop_rounds 1 ?_; rw [rounds_succ]
 go_wp2
 go_ret3
 exact ⟨rfl, rfl⟩

theorem PK (k : Int) (w : World) (h1 : 1 ≤ k) (h2 : k ≤ 64) (h3 : 16 / k < 4) (h4 : 4 ≤ 32 / k) :
  Calls Tryz.prog 70 #[.int .i64 k] w fun e w' => e = .returned (.tuple #[.int .i64 1, .int .i64 (32 / k), .int .i64 0]) ∧ w = w' := by
 go_enter Tryz.func70, Tryz.ntmps70
 go_wp2
 refine wp_loop_rounds 2 ?_; rw [rounds_succ]
 go_wp2
 rw [rounds_succ]
 go_wp2
 go_ret3
 exact ⟨rfl, rfl⟩

theorem PL (k : Int) (w : World) (h1 : 1 ≤ k) (h2 : k ≤ 64) (h3 : 16 / k < 4) (h4 : 32 / k < 4) :
  Calls Tryz.prog 70 #[.int .i64 k] w fun e w' => e = .returned (.tuple #[.int .i64 2, .int .i64 (64 / k), .int .i64 0]) ∧ w = w' := by
 go_enter Tryz.func70, Tryz.ntmps70
 go_wp2
 refine wp_loop_rounds 3 ?_; rw [rounds_succ]
 go_wp2
 rw [rounds_succ]
 go_wp2
 rw [rounds_succ]
 go_wp2
 all_goals (go_ret3; exact ⟨rfl, rfl⟩)
end
section
open Go.RowKit
variable {α : Type}

def TS (len at_ n : Int) : Bool := decide (0 ≤ at_ ∧ 0 ≤ n ∧ n ≤ len ∧ at_ ≤ len - n)

theorem Dz (a : Option Addr) (len cap : Nat) (at_ n : Int) (w : World) (hl : len ≤ 9223372036854775807) (h1 : -9223372036854775808 ≤ n) (h2 : n ≤ 9223372036854775807) :
  Calls Tryz.prog 142 #[.slice a len cap, .int .i64 at_, .int .i64 n] w fun e w' => e = .returned (.bool (TS len at_ n)) ∧ w = w' := by
 by_cases c1 : 0 ≤ at_
 ·by_cases c2 : 0 ≤ n
  ·by_cases c3 : n ≤ (len : Int)
   ·by_cases c4 : at_ ≤ (len : Int) - n
    ·go_enter Tryz.func142, Tryz.ntmps142
     go_wp2
     go_ret
     exact ⟨aX (decide_eq_true (by omega)).symm, rfl⟩
    ·go_enter Tryz.func142, Tryz.ntmps142
     go_wp2
     go_ret
     exact ⟨aX (decide_eq_false (by omega)).symm, rfl⟩
   ·go_enter Tryz.func142, Tryz.ntmps142
    go_wp2
    go_ret
    exact ⟨aX (decide_eq_false (by omega)).symm, rfl⟩
  ·go_enter Tryz.func142, Tryz.ntmps142
   go_wp2
   go_ret
   exact ⟨aX (decide_eq_false (by omega)).symm, rfl⟩
 ·go_enter Tryz.func142, Tryz.ntmps142
  go_wp2
  go_ret
  exact ⟨aX (decide_eq_false (by omega)).symm, rfl⟩

def yR (p : α → Bool) (xs : List α) : Int := match xs.findIdx? p with | some i => (i : Int) | none => -1

theorem Nh {p : α → Bool} {xs : List α} {k : Nat} (hk : k < xs.length) (h : p xs[k] = true) (hn : ∀ x ∈ xs.take k, p x = false) : yR p xs = k := by
 have e : xs.findIdx? p = some k := by
  rw [List.findIdx?_eq_some_iff_getElem]
  refine ⟨hk, h, fun j hj => ?_⟩
  have := hn (xs[j]'(by omega)) (by rw [List.mem_take_iff_getElem]; exact ⟨j, by omega, rfl⟩)
  simp [this]
 simp [yR, e]
theorem IL {p : α → Bool} {xs : List α} (hn : ∀ x ∈ xs, p x = false) : yR p xs = -1 := by
 have e : xs.findIdx? p = none := by rw [List.findIdx?_eq_none_iff]; exact hn
 simp [yR, e]

theorem Nj (a : Option Addr) (cap : Nat) (xs : List Int) (v : Int) (w : World) (hl : xs.length ≤ 9223372036854775807) (hr : Row w a (xs.map vI)) :
  Calls Tryz.prog 80 #[.slice a xs.length cap, .int .i64 v] w fun e w' => e = .returned (.int .i64 (yR (v == ·) xs)) ∧ w = w' := by
 go_enter Tryz.func80, Tryz.ntmps80
 go_wp2
 go_loop [5, 8] (fun _ s8 => ∃ k : Nat, k ≤ xs.length ∧ s8 = .int .i64 k ∧ Hid (∀ x ∈ xs.take k, (v == x) = false)) (fun _ s8 => xs.length - (intOf s8).toNat)
 case atStart => exact ⟨0, Nat.zero_le _, rfl, by simp [Hid]⟩
 case round =>
  obtain ⟨k, hk, rfl, hnot⟩ := hrel
  by_cases hlt : k < xs.length
  ·obtain ⟨b, off, rfl, hb, hc⟩ := hr k (vI xs[k]) (by simp [hlt])
   simp only [vI] at hc
   clear hr
   cases hv : v == xs[k] with
   | true =>
    go_wp2
    go_ret
    exact ⟨dJ (Nh hlt hv hnot.out).symm, rfl⟩
   | false =>
    go_wp2
    go_round
    case rel => exact ⟨k + 1, by omega, by go_num, fun x hx => by
     rw [List.take_succ_eq_append_getElem hlt, List.mem_append, List.mem_singleton] at hx
     rcases hx with hx | rfl
     ·exact hnot.out x hx
     ·exact hv⟩
    case measure => simp [intOf]; omega
  ·obtain rfl : k = xs.length := by omega
   go_wp2
   go_ret
   exact ⟨dJ (IL (by simpa [Hid] using hnot)).symm, rfl⟩

theorem DC (p : α → Bool) (xs : List α) : decide (0 ≤ yR p xs) = xs.any p := by
 unfold yR
 cases h : xs.findIdx? p with
 | none => rw [List.findIdx?_eq_none_iff] at h; symm; simpa using h
 | some i => rw [List.findIdx?_eq_some_iff_getElem] at h; obtain ⟨hi, hp, _⟩ := h; symm; simp only [Int.natCast_nonneg, decide_true, List.any_eq_true]; exact ⟨_, gL hi, hp⟩

def rY (xs : List Int) (v : Int) : Bool := xs.contains v
theorem jC (a : Option Addr) (cap : Nat) (xs : List Int) (v : Int) (w : World) (hl : xs.length ≤ 9223372036854775807) (hr : Row w a (xs.map vI)) :
  Calls Tryz.prog 35 #[.slice a xs.length cap, .int .i64 v] w fun e w' => e = .returned (.bool (rY xs v)) ∧ w = w' := by
 go_enter Tryz.func35, Tryz.ntmps35
 go_wp2_with (go_at_call 80; refine (Nj _ _ _ _ _ hl hr).mono ?_; rintro e w' ⟨rfl, rfl⟩)
 go_ret
 exact ⟨aX (by rw [DC, rY, List.contains_eq_any_beq]), rfl⟩

theorem BN : (Tryz.prog.info? 3).map (fun i => (i.zero, i.size, i.bytes)) = some (some (.int .i64 0), 1, 8) := by kernel_rfl

theorem Xb (xs : List Int) : ∀ u ∈ xs.map vI, u.oneCell' = true := by
 intro u hu
 obtain ⟨x, _, rfl⟩ := List.mem_map.1 hu
 rfl

theorem Nk (a : Option Addr) (cap : Nat) (xs : List Int) (w : World) (hl : xs.length * 8 ≤ 140737488355328) (hr : Row w a (xs.map vI)) :
  Calls Tryz.prog 85 #[.slice a xs.length cap] w fun e w' => ∃ a' c', e = .returned (.slice a' xs.length c') ∧ w'.ownsRow w.heap.size 3 1 (.slice a' xs.length c') xs.length (xs.map vI) ∧ Below w.heap.size w w' := by
 have q22 : ∀ (w : World) (a : Option Addr) (n c n' c' : Nat), (binOp .eql 39 (.slice a n c) (.slice none n' c')).run Tryz.prog w = .ok (.bool a.isNone) w := fun w a n c n' c' => Lib.run_eql_slice_nil w _ _ a n c n' c' Tryz.underlying39
 cases a with
 | none =>
  have hx : xs = [] := by
   cases xs with
   | nil => rfl
   | cons u l => obtain ⟨b, off, e1, _⟩ := hr 0 (vI u) rfl; cases e1
  subst hx
  go_enter Tryz.func85, Tryz.ntmps85
  go_wp2
  go_ret
  exact ⟨none, 0, rfl, World.ownsRow_nil _ _ _ _, Below.refl _ _⟩
 | some ad =>
  go_enter Tryz.func85, Tryz.ntmps85
  go_wp2_with (at_builtin; refine fQ rfl _ _ 39 rfl w.heap.size 3 (.int .i64 0) 1 8 Tryz.underlying39 BN rfl (by decide) (by decide) _ _ _ _ rfl (World.ownsRow_made w #[] 0 (Nat.le_refl _) (Nat.zero_le _) (by simp)) (some ad) xs.length cap (xs.map vI) rfl ?q1 ?q2 ?q3 ?q4 ?q5 ?_)
  case q1 => simp
  case q2 => exact hr.below ((Below.refl _ _).alloc (Nat.le_refl _) _)
  case q3 => exact Xb xs
  case q4 => rw [Nat.zero_add]; exact hl
  case q5 => simp
  intro a' c' w1 hown hgrow
  go_wp2
  go_ret
  exact ⟨a', c', rfl, hown, ((Below.refl _ w).alloc (Nat.le_refl _) _).grown hgrow (by simp) (by intro k hk; simp [Value.ownBlock] at hk; omega)⟩

theorem PN {w : World} {a : Option Addr} {xs : List Int} (hr : Row w a (xs.map vI)) {k : Nat} (h : k < xs.length) :
  ∃ b off, a = some ⟨b, off, none⟩ ∧ b < w.heap.size ∧ w.cell? ⟨b, off + k, none⟩ = some (.int .i64 xs[k]) :=
 hr k (vI xs[k]) (by simp [h])
end
section
open Go.RowKit

def gU (xs : List Int) (most : Int) : Nat → Int → List Int → Option (List Int)
 | 0, _, _ => none
 | f + 1, p, out => if p = -1 then some out else if (out.length : Int) ≥ most ∨ TS xs.length p 1 = false ∨ rY out p = true then none else gU xs most f (xs.getD p.toNat 0) (out ++ [p])

def follow (xs : List Int) (p most : Int) : Option (List Int) := gU xs most (xs.length + 2) p []

theorem yS : ∀ (n : Nat) (l : List Int), l.Nodup → (∀ x ∈ l, 0 ≤ x ∧ x < n) → l.length ≤ n
 | 0, l, _, h => by
  cases l with
  | nil => simp
  | cons a l => have := h a (by simp); omega
 | n + 1, l, hd, h => by
  have h1 := yS n (l.erase (n : Int)) (hd.erase _) (fun x hx => by
   have hm := h x (List.mem_of_mem_erase hx)
   have hne : x ≠ (n : Int) := by
    intro e; subst e
    exact (List.Nodup.not_mem_erase hd) hx
   omega)
  by_cases hn : (n : Int) ∈ l
  ·rw [List.length_erase_of_mem hn] at h1; omega
  ·rw [List.erase_of_not_mem hn] at h1; omega

def lenOf : Value → Nat | .slice _ n _ => n | _ => 0

def yT (w : World) (r : Option (List Int)) (e : Ending) (w' : World) : Prop :=
 Below w.heap.size w w' ∧ match r with
  | some l => ∃ a c, e = .returned (.tuple #[.slice a l.length c, .int .i64 0]) ∧ w'.ownsRow w.heap.size 3 1 (.slice a l.length c) l.length (l.map vI)
  | none => e = .returned (.tuple #[.slice none 0 0, .int .i64 8])

theorem IQ (a : Option Addr) (cap : Nat) (xs : List Int) (p most : Int) (w : World) (hl : xs.length ≤ 1000000) (hr : Row w a (xs.map vI)) :
  Calls Tryz.prog 140 #[.slice a xs.length cap, .int .i64 p, .int .i64 most] w (yT w (follow xs p most)) := by
 generalize hR : follow xs p most = R
 go_enter Tryz.func140, Tryz.ntmps140
 go_wp2
 go_loopw [1, 8] (fun u1 u8 wr => ∃ (q : Int) (out : List Int) (a8 : Option Addr) (c8 f : Nat), u1 = .int .i64 q ∧ u8 = .slice a8 out.length c8 ∧ wr.ownsRow w.heap.size 3 1 (.slice a8 out.length c8) out.length (out.map vI) ∧
   Below w.heap.size w wr ∧ Hid (gU xs most f q out = R) ∧ f + out.length = xs.length + 2 ∧ Hid (out.Nodup ∧ ∀ x ∈ out, 0 ≤ x ∧ x < xs.length)) (fun _ u8 _ => xs.length + 2 - lenOf u8)
 case atStart => exact ⟨p, [], none, 0, xs.length + 2, rfl, rfl, World.ownsRow_nil _ _ _ _, Below.refl _ _, hR, rfl, List.nodup_nil, by simp⟩
 case round =>
  obtain ⟨q, out, a8, c8, f, rfl, rfl, hown, hbw, hF, hf, hnd⟩ := hrel
  have hle := yS xs.length out hnd.out.1 hnd.out.2
  obtain ⟨f, rfl⟩ : ∃ f', f = f' + 1 := ⟨f - 1, by omega⟩
  have hlo : out.length ≤ 9223372036854775807 := by omega
  have HF := hF.out
  unfold gU at HF
  by_cases h1 : q = -1
  ·have hq : (q != -1) = false := by simp [h1]
   rw [if_pos h1] at HF
   have HO := gO hown
   clear hown h1 hR
   go_wp2
   go_ret2
   subst HF
   exact ⟨hbw, _, _, rfl, HO.out⟩
  ·have hq : (q != -1) = true := by simp [h1]
   rw [if_neg h1] at HF
   have HO := gO hown
   clear hown hR hF
   by_cases h2 : most ≤ (out.length : Int)
   ·rw [if_pos (Or.inl h2)] at HF
    subst HF
    go_wp2_with fail
    go_ret2
    exact ⟨hbw, rfl⟩
   ·cases h3 : TS xs.length q 1 with
    | false =>
     rw [if_pos (Or.inr (Or.inl h3))] at HF
     subst HF
     go_wp2_with (go_at_call 142; refine (Dz _ _ _ _ _ _ (by omega) (by omega) (by omega)).mono ?_; rintro e w' ⟨rfl, rfl⟩)
     go_ret2
     exact ⟨hbw, rfl⟩
    | true =>
     cases h4 : rY out q with
     | true =>
      rw [if_pos (Or.inr (Or.inr h4))] at HF
      subst HF
      go_wp2_with (first | (go_at_call 142; refine (Dz _ _ _ _ _ _ (by omega) (by omega) (by omega)).mono ?_; rintro e w' ⟨rfl, rfl⟩) | (go_at_call 35; refine (jC _ _ _ _ _ hlo (aW HO.out)).mono ?_; rintro e w' ⟨rfl, rfl⟩))
      go_ret2
      exact ⟨hbw, rfl⟩
     | false =>
      rw [if_neg (by rw [h3, h4]; simp; omega)] at HF
      have hq2 : 0 ≤ q ∧ q < xs.length := by unfold TS at h3; simp only [decide_eq_true_eq] at h3; omega
      obtain ⟨k, rfl⟩ := Int.eq_ofNat_of_zero_le hq2.1
      have hk : k < xs.length := by omega
      rw [Int.toNat_natCast, List.getD_eq_getElem?_getD, gJ hk, Option.getD_some] at HF
      have Xc := gO HF
      clear HF
      have hrw := hr.below hbw
      have hsz := hbw.size
      have IJ : Hid ( (wr.alloc (.cells #[.int .i64 (k : Int)] 3)).ownsRow w.heap.size 3 1 (.slice a8 out.length c8) out.length (out.map vI)) := gO (own_below HO.out ((Below.refl _ _).alloc (Nat.le_refl _) _) (Nat.le_refl _))
      have Bd : Hid (Row (wr.alloc (.cells #[.int .i64 (k : Int)] 3)) (some ⟨wr.heap.size, 0, none⟩) [vI k]) := PG _ _ _
      go_wp2_with (first | (go_at_call 142; refine (Dz _ _ _ _ _ _ (by omega) (by omega) (by omega)).mono ?_; rintro e w' ⟨rfl, rfl⟩) | (go_at_call 35; refine (jC _ _ _ _ _ hlo (aW HO.out)).mono ?_; rintro e w' ⟨rfl, rfl⟩) | (at_builtin; refine fQ rfl _ _ 39 rfl w.heap.size 3 (.int .i64 0) 1 8 Tryz.underlying39 BN rfl (by decide) (by decide) a8 out.length c8 (out.map vI) rfl IJ.out (some ⟨wr.heap.size, 0, none⟩) 1 1 [vI k] rfl rfl Bd.out (by simp [vI, Value.oneCell']) (by omega) (by simp; omega) ?_))
      intro a' c' w1 hown1 hgrow
      have hb1 : Below w.heap.size w w1 := below_grown (hbw.alloc hsz _) IJ.out hgrow (Nat.le_refl _) (by simp; omega)
      obtain ⟨b, off, rfl, hbb, hc⟩ := PN (hr.below hb1) hk
      have HO1 := gO hown1
      clear hown1 IJ Bd hrw hgrow hr HO
      go_wp2
      go_roundw
      case rel =>
       refine ⟨xs[k], out ++ [(k : Int)], a', c', f, rfl, by simp, ?_, hb1, Xc.out, by simp; omega, ?_⟩
       ·have h := HO1.out
        simp only [List.length_append, List.length_cons, List.length_nil, List.map_append, List.map_cons, List.map_nil]
        exact h
       ·refine ⟨?_, ?_⟩
        ·rw [List.nodup_append]
         refine ⟨hnd.out.1, by simp, ?_⟩
         intro x hx y hy
         simp only [List.mem_singleton] at hy
         subst hy
         intro e
         subst e
         have : rY out (k : Int) = true := by unfold rY; simpa using hx
         rw [this] at h4; cases h4
        ·intro x hx
         rw [List.mem_append, List.mem_singleton] at hx
         rcases hx with hx | rfl
         ·exact hnd.out.2 x hx
         ·omega
      case measure => simp [lenOf]; omega

theorem PO (a : Option Addr) (n cap : Nat) (xs : List Int) (p most : Int) (w : World) (hn : xs.length = n) (hl : n ≤ 1000000) (hr : Row w a (xs.map vI)) :
  Calls Tryz.prog 140 #[.slice a n cap, .int .i64 p, .int .i64 most] w (yT w (follow xs p most)) := by
 subst hn
 exact IQ a cap xs p most w hl hr

theorem Fb (a : Option Addr) (n cap : Nat) (xs : List Int) (p most : Int) (w : World) (hn : xs.length = n) (hl : n ≤ 1000000) (hr : Row w a (xs.map vI)) (l : List Int) (hf : follow xs p most = some l) :
  Calls Tryz.prog 140 #[.slice a n cap, .int .i64 p, .int .i64 most] w fun e w' => ∃ a' c', e = .returned (.tuple #[.slice a' l.length c', .int .i64 0]) ∧ w'.ownsRow w.heap.size 3 1 (.slice a' l.length c') l.length (l.map vI) ∧ Below w.heap.size w w' := by
 refine (PO a n cap xs p most w hn hl hr).mono fun e w' h => ?_
 rw [hf] at h
 obtain ⟨hb, a', c', he, ho⟩ := h
 exact ⟨a', c', he, ho, hb⟩
end
section
def rC (b : Bk) : Nat × Nat := (b.a, b.o)
end
section
open Go.RowKit

def sN : List Bk → Nat
 | [] => 0
 | b :: l => 2 ^ b.o + sN l
theorem Oe (l : List Bk) (i : Nat) (hi : i < l.length) : sN (l.take (i + 1)) = sN (l.take i) + 2 ^ l[i].o := by
 induction l generalizing i with
 | nil => simp at hi
 | cons b l ih =>
  cases i with
  | zero => simp [sN]
  | succ i =>
   have hi' : i < l.length := by simpa using hi
   rw [List.take_succ_cons, List.take_succ_cons, sN, sN, ih i hi']
   simp only [List.getElem_cons_succ]
   omega
theorem UE (l : List Bk) (h : ∀ b ∈ l, b.o ≤ 4) : sN l ≤ l.length * 16 := by
 induction l with
 | nil => simp [sN]
 | cons b l ih =>
  have h1 := ih (fun b hb => h b (by simp [hb]))
  have h2 := sD (h b (by simp))
  simp only [sN, List.length_cons]
  omega

set_option maxHeartbeats 4000000 in
set_option maxRecDepth 100000 in
theorem QN (a1 a2 : Option Addr) (n1 n2 c1 c2 : Nat) (z : Zn) (w : World) (hat : DL w a1 a2 n1 n2 z) (hz : z.ok) :
  Calls Tryz.prog 176 #[.agg #[.int .i64 z.f, .int .i64 z.e, .slice a1 n1 c1, .slice a2 n2 c2]] w fun ev w' => ev = .returned (.tuple #[.int .i64 (sN z.l : Nat), .int .i64 0]) ∧ Below w.heap.size w w' := by
 have hlen : z.l.length ≤ 256 := gQ (oK.length_le hz.2 (fun b hb => (hz.2.fit b hb).1.2.2.1)) hz.1.e2
 obtain ⟨K1, F1, hsz, hbw⟩ := boxes1 w #[.int .i64 (z.f : Int), .int .i64 (z.e : Int), .slice a1 n1 c1, .slice a2 n2 c2] 102
 have lN := hat.below hbw
 have l1 := hat.l1
 clear hat
 go_enter Tryz.func176, Tryz.ntmps176
 go_wp2_with fail
 generalize w.alloc (.cells #[.int .i64 (z.f : Int), .int .i64 (z.e : Int), .slice a1 n1 c1, .slice a2 n2 c2] 102) = w0 at *
 refine (mF _ _ _ _ _ _ z _ lN hz).mono ?_
 rintro ev w1 ⟨rfl, hb1⟩
 have Cj := aB K1 hsz hb1
 have Bj := lN.below hb1
 have sG := Below.step hbw hb1
 have hs1 := gI hsz hb1.size
 clear K1 F1 lN hbw hb1
 dsimp only
 go_wp2
 go_loopw [5, 16] (fun s5 s16 wr => ∃ i : Nat, i ≤ n1 ∧ s16 = .int .i64 (i : Int) ∧ s5 = .int .i64 (sN (z.l.take i) : Nat) ∧ Hid (Below w1.heap.size w1 wr)) (fun _ s16 _ => n1 - (intOf s16).toNat)
 case atStart => exact ⟨0, Nat.zero_le _, rfl, rfl, Below.refl _ _⟩
 case round =>
  obtain ⟨i, hi, rfl, rfl, hb⟩ := hrel
  by_cases hlt : i < n1
  ·have hlt2 : i < z.l.length := by omega
   obtain ⟨bb, off, ha1, hbb, hc⟩ := aN aI (by decide) (Bj.r1.below hb.out) hlt2
   obtain rfl := ha1
   obtain ⟨hc0, hc1, hc2⟩ := bM hc
   have hfit := (hz.2.fit _ (gL hlt2)).1
   have hsum := gO (Oe z.l i hlt2)
   have hle := UE (z.l.take i) (fun b hb => (hz.2.fit b (List.mem_of_mem_take hb)).1.1)
   rw [List.length_take] at hle
   have hle2 : sN (z.l.take i) ≤ 5000 := by omega
   clear hc hle
   generalize z.l[i] = x at *
   have hsh := pR hfit.1
   have hpw := sD hfit.1
   have hNew := gO (Below.step hb.out (aC wr (.cells #[.int .i64 (x.a : Int), .int .i64 (x.o : Int), .int .i64 (x.t : Int)] 63)))
   obtain ⟨S, hS⟩ : ∃ S, sN (z.l.take i) = S := ⟨_, rfl⟩
   rw [hS] at hle2 hsum ⊢
   clear hS
   have Jr : (i : Int) < n1 := by omega
   have hw : wrap64 ((S : Int) + wrap64 (2 ^ min x.o 64)) = ((S + 2 ^ x.o : Nat) : Int) := by
    rw [show min x.o 64 = x.o by have := hfit.1; omega, hsh]
    generalize 2 ^ x.o = q at *
    have := IntWalk.wrap64_in ((S : Int) + q) (by omega)
    rw [Int.natCast_add]
    exact this
   go_wp2
   go_roundw
   case rel => exact ⟨i + 1, by omega, by go_num, by rw [hsum.out]; simp only [Value.int.injEq, true_and]; exact hw, hNew⟩
   case measure => simp [intOf]; omega
  ·obtain rfl : i = n1 := by omega
   have he : z.l.take i = z.l := by rw [← l1, List.take_length]
   rw [he]
   go_wp2
   go_ret2
   exact ⟨rfl, Below.step sG hb.out⟩
end
section
open Go.RowKit

def vB (b : Bool) : Value := .bool b
def bl (f : Nat → Bool) : List Bool := (List.range 256).map f
theorem jD (f : Nat → Bool) : (bl f).length = 256 := by simp [bl]
theorem qJ {f g : Nat → Bool} (h : ∀ p, p < 256 → f p = g p) : bl f = bl g := List.map_congr_left fun p hp => h p (List.mem_range.1 hp)
theorem JW (f : Nat → Bool) (i : Nat) (h : i < 256) : (bl f)[i]? = some (f i) := by simp [bl, h]
theorem Sr (f : Nat → Bool) (i : Nat) (v : Bool) : (bl f).set i v = bl (fun p => if p = i then v else f p) := by
 apply List.ext_getElem?
 intro j
 rw [List.getElem?_set]
 by_cases hj : j < 256
 ·rw [JW _ j hj, JW _ j hj, jD]
  by_cases e : i = j
  ·subst e; simp [hj]
  ·rw [if_neg e, if_neg (fun h => e h.symm)]
 ·have h1 : (bl f)[j]? = none := List.getElem?_eq_none (by rw [jD]; omega)
  have h2 : (bl (fun p => if p = i then v else f p))[j]? = none := List.getElem?_eq_none (by rw [jD]; omega)
  rw [h1, h2, jD]
  split
  ·rw [if_neg (by omega)]
  ·rfl

def qK (r : Rg) (p : Nat) : Bool := decide (r.f ≤ (p : Int) ∧ (p : Int) < r.f + r.s)
def dV (l : List Rg) (p : Nat) : Bool := l.any fun r => qK r p

theorem Hq {r : Rg} (h : Ak r = true) : r.small := by
 have := qI h
 unfold Rg.small
 omega

theorem Am : ∀ (l : List Rg) (p : Option Rg), eF p l = true → ∀ r ∈ l, Ak r = true
 | [], _, _, r, hr => by simp at hr
 | x :: l, p, h, r, hr => by
  simp only [eF, Bool.and_eq_true] at h
  rcases List.mem_cons.1 hr with rfl | hr
  ·exact h.1.1
  ·exact Am l (some x) h.2 r hr
theorem mO {l : List Rg} (h : dU l = true) : ∀ r ∈ l, Ak r = true := by
 simp only [dU, Bool.and_eq_true] at h
 exact Am l none h.2
theorem o7 {l : List Rg} (h : dU l = true) : ∀ r ∈ l, r.small := fun r hr => Hq (mO h r hr)
theorem tJ {l : List Rg} (h : dU l = true) : l.length ≤ 40 := by
 simp only [dU, Bool.and_eq_true, decide_eq_true_eq] at h
 exact h.1

theorem OJ : (Tryz.prog.info? 4).map (fun i => (i.zero, i.size, i.bytes)) = some (some (.bool false), 1, 1) := by kernel_rfl
theorem Vo : (List.replicate 256 (Value.bool false)) = (bl fun _ => false).map vB := by
 rw [show (bl fun _ => false) = List.replicate 256 false from by decide +kernel, List.map_replicate]
 rfl

theorem Ap (l : List Rg) (k : Nat) (hk : k < l.length) (p : Nat) : dV (l.take (k + 1)) p = (dV (l.take k) p || qK l[k] p) := by
 unfold dV
 rw [List.take_succ_eq_append_getElem hk, List.any_append]
 simp

set_option maxRecDepth 100000 in
theorem Di (a : Option Addr) (n cap : Nat) (l : List Rg) (w : World) (hn : l.length = n) (hr : Row w a (flat iO l)) (hok : ∀ r ∈ l, Ak r = true) (hl : n ≤ 9223372036854775807) :
  Calls Tryz.prog 101 #[.slice a n cap] w fun e w' => ∃ a' c', e = .returned (.slice a' 256 c') ∧ w'.ownsRow w.heap.size 4 1 (.slice a' 256 c') 256 ((bl (dV l)).map vB) ∧ Below w.heap.size w w' := by
 subst hn
 obtain ⟨i0, hi, hz, hsize, hby⟩ := info_parts OJ
 go_enter Tryz.func101, Tryz.ntmps101
 go_wp2_with (at_make; refine wpList_make_full _ rfl _ _ 82 rfl w.heap.size 4 i0 (.bool false) 1 Tryz.underlying82 hi hz hsize .i64 .i64 _ _ 256 rfl rfl rfl rfl ?q1 ?q2 ?q3 ?_)
 case q1 => rw [hby]; omega
 case q2 => unfold maxLen; omega
 case q3 => exact Nat.le_refl _
 intro w1 hown hgrow
 rw [toList_madeCells_one, Vo] at hown
 have HO := gO hown
 have hbw := (Below.refl w.heap.size w).grown hgrow (Nat.le_refl _) (by simp)
 clear hown hgrow
 go_wp2
 go_loopw [5, 6, 10] (fun _ _ s10 wr => ∃ k : Nat, k ≤ l.length ∧ s10 = .int .i64 k ∧ Hid (wr.ownsRow w.heap.size 4 1 (.slice (some ⟨w.heap.size, 0, none⟩) 256 256) 256 ((bl (dV (l.take k))).map vB)) ∧ Below w.heap.size w wr) (fun _ _ s10 _ => l.length - (intOf s10).toNat)
 case atStart => exact ⟨0, Nat.zero_le _, rfl, HO, hbw⟩
 case round =>
  obtain ⟨k, hk, rfl, hown, hbw⟩ := hrel
  by_cases hlt : k < l.length
  ·obtain ⟨b, off, rfl, hb, hc⟩ := aN iM (by decide) (hr.below hbw) hlt
   have hc0 := hc 0 (vI l[k].f) rfl
   have hc1 := hc 1 (vI l[k].s) rfl
   simp only [vI, Nat.add_zero] at hc0 hc1
   have hck := hok l[k] (gL hlt)
   obtain ⟨g1, g2, g3, g4⟩ := qI hck
   have hsm := Hq hck
   have hsucc := Ap l k hlt
   generalize hrr : l[k] = r at *
   clear hrr hok
   obtain ⟨f, s⟩ := r
   simp only at g1 g2 g3 g4 hc0 hc1
   obtain ⟨f, rfl⟩ := Int.eq_ofNat_of_zero_le g1
   obtain ⟨s, rfl⟩ := Int.eq_ofNat_of_zero_le (show (0 : Int) ≤ s by omega)
   have aBs := gO hsucc
   clear hsucc
   go_wp2
   have hb2 : Below w.heap.size w (wr.alloc (.cells #[.int .i64 (f : Int), .int .i64 (s : Int)] 55)) := hbw.alloc hbw.size _
   have B2 := bC wr #[.int .i64 (f : Int), .int .i64 (s : Int)] 55
   have hs2 : wr.heap.size < (wr.alloc (.cells #[.int .i64 (f : Int), .int .i64 (s : Int)] 55)).heap.size := by simp
   have HO2 := gO (own_below hown.out (aC wr (.cells #[.int .i64 (f : Int), .int .i64 (s : Int)] 55)) (Nat.le_refl _))
   have hne : w.heap.size < wr.heap.size := by
    obtain ⟨g, v, e, _, h, _⟩ := dZ hown.out 0 (by simp [jD])
    obtain rfl : w.heap.size = g := by simpa using e
    exact h
   generalize wr.alloc (.cells #[.int .i64 (f : Int), .int .i64 (s : Int)] 55) = w2 at *
   generalize wr.heap.size = bb at *
   go_loopw [6] (fun s6 wq => ∃ i : Nat, f ≤ i ∧ i ≤ f + s ∧ s6 = .int .i64 i ∧ Hid (wq.ownsRow w.heap.size 4 1 (.slice (some ⟨w.heap.size, 0, none⟩) 256 256) 256 ((bl (fun p => dV (l.take k) p || (decide (f ≤ p) && decide (p < i)))).map vB)) ∧ Below w.heap.size w wq ∧ Hid (∀ o, wq.cell? ⟨bb, o, none⟩ = (#[.int .i64 (f : Int), .int .i64 (s : Int)] : Array Value)[o]?) ∧ bb < wq.heap.size) (fun s6 _ => 256 - (intOf s6).toNat)
   case atStart =>
    refine ⟨f, Nat.le_refl _, by omega, rfl, ?_, hb2, B2, hs2⟩
    rw [show bl (fun p => dV (l.take k) p || (decide (f ≤ p) && decide (p < f))) = bl (dV (l.take k)) from qJ fun p _ => by
     have : (decide (f ≤ p) && decide (p < f)) = false := by
      by_cases h : f ≤ p
      ·rw [decide_eq_false (show ¬ p < f by omega), Bool.and_false]
      ·rw [decide_eq_false h, Bool.false_and]
     rw [this, Bool.or_false]]
    exact HO2
   case round =>
    obtain ⟨i, hi1, hi2, rfl, hown3, hb3, HB3, hs3⟩ := hrel
    have B3 := HB3.out
    clear B2 HO2 HO hs2 hb2
    by_cases Jr : i < f + s
    ·go_wp2_with fail
     refine (nI ⟨(f : Int), (s : Int)⟩ _ hsm).mono ?_
     rintro e w4 ⟨rfl, hb4⟩
     have B4 := aB B3 hs3 hb4
     have hown4 := own_below hown3.out hb4 (Nat.le_refl _)
     have hb5 := Below.step hb3 hb4
     have hs4 : bb < w4.heap.size := gI hs3 hb4.size
     obtain ⟨g, v, e, hg, hgs, hcg, hfg⟩ := dZ hown4 i (by rw [List.length_map, jD]; omega)
     obtain rfl : w.heap.size = g := by simpa using e
     have HO4 := gO hown4
     clear B3 hown4 hown3 e
     go_wp2
     go_roundw
     case rel =>
      refine ⟨i + 1, by omega, by omega, by go_num, ?_, hb5.setCell (Nat.le_refl _) _, ?_, by simpa using hs4⟩
      ·have h := (World.ownsRow.stored HO4.out i (vB true)).1
       rw [← List.map_set, Sr] at h
       rw [show bl (fun p => dV (l.take k) p || (decide (f ≤ p) && decide (p < i + 1))) = bl (fun p => if p = i then true else dV (l.take k) p || (decide (f ≤ p) && decide (p < i))) from qJ fun p _ => by
        by_cases e : p = i
        ·subst e
         rw [if_pos rfl, decide_eq_true hi1, decide_eq_true (Nat.lt_succ_self p)]; simp
        ·rw [if_neg e, decide_eq_decide.2 (show p < i + 1 ↔ p < i by omega)]]
       exact h
      ·intro o
       simp [go_sem, B4]
     case measure => simp [intOf]; omega
    ·obtain rfl : i = f + s := by omega
     go_wp2_with fail
     refine (nI ⟨(f : Int), (s : Int)⟩ _ hsm).mono ?_
     rintro e w4 ⟨rfl, hb4⟩
     have hb5 := Below.step hb3 hb4
     have hown4 := gO (own_below hown3.out hb4 (Nat.le_refl _))
     clear B3 hown3
     go_wp2
     go_roundw
     case rel =>
      refine ⟨k + 1, by omega, by go_num, ?_, hb5⟩
      rw [show bl (dV (l.take (k + 1))) = bl (fun p => dV (l.take k) p || (decide (f ≤ p) && decide (p < f + s))) from qJ fun p _ => by
       rw [aBs.out p]
       congr 1
       unfold qK
       rw [← Bool.decide_and]
       exact decide_eq_decide.2 (by simp only; omega)]
      exact hown4.out
     case measure => simp [intOf]; omega
  ·obtain rfl : k = l.length := by omega
   rw [List.take_of_length_le (Nat.le_refl _)] at hown
   go_wp2
   go_ret
   exact ⟨_, _, rfl, hown.out, hbw⟩
end
section
def lT (l : List Rg) (i : Nat) : List Rg :=
 match l.getLast? with
 | some r => if r.f + r.s = i then l.dropLast ++ [⟨r.f, r.s + 1⟩] else l ++ [⟨i, 1⟩]
 | none => [⟨i, 1⟩]

def iP (f : Nat → Bool) : Nat → List Rg
 | 0 => []
 | i + 1 => if f i then lT (iP f i) i else iP f i

def jX (f : Nat → Bool) : List Rg := iP f 256

structure EC (f : Nat → Bool) (i : Nat) (l : List Rg) : Prop where
 chain : ∀ k (h : k + 1 < l.length), (l[k]'(by omega)).f + (l[k]'(by omega)).s < l[k + 1].f
 low : ∀ r ∈ l, 0 ≤ r.f ∧ 1 ≤ r.s ∧ r.f + r.s ≤ i
 mem : ∀ p, dV l p = (decide (p < i) && f p)

theorem qL (l m : List Rg) (p : Nat) : dV (l ++ m) p = (dV l p || dV m p) := by simp [dV]
theorem vO (r : Rg) (p : Nat) : dV [r] p = qK r p := by simp [dV]

theorem Hr {f : Nat → Bool} {i : Nat} {l : List Rg} (h : EC f i l) (hf : f i = true) : EC f (i + 1) (lT l i) := by
 unfold lT
 rcases List.eq_nil_or_concat l with rfl | ⟨L, r, rfl⟩
 ·refine ⟨fun k hk => by simp at hk, fun r hr => ?_, fun p => ?_⟩
  ·simp only [List.getLast?_nil, List.mem_singleton] at hr; subst hr; simp only; omega
  ·have hm := h.mem p
   simp only [dV, List.any_nil] at hm
   show dV [⟨i, 1⟩] p = _
   rw [vO]
   unfold qK
   by_cases e : p = i
   ·subst e; simp [hf]; omega
   ·rw [decide_eq_false (by simp only; omega)]
    by_cases h1 : p < i
    ·rw [decide_eq_true h1, Bool.true_and] at hm; rw [← hm]; simp
    ·rw [decide_eq_false (by omega)]; simp
 ·simp only [List.concat_eq_append, List.getLast?_concat, List.dropLast_concat]
  rw [List.concat_eq_append] at h
  have hrl := h.low r (by simp)
  by_cases e : r.f + r.s = i
  ·rw [if_pos e]
   refine ⟨fun k hk => ?_, fun x hx => ?_, fun p => ?_⟩
   ·have hc := h.chain k (by simpa using hk)
    simp only [List.length_append, List.length_cons, List.length_nil] at hk
    by_cases hkl : k + 1 < L.length
    ·rw [List.getElem_append_left (by omega), List.getElem_append_left hkl] at hc ⊢; exact hc
    ·have e1 : ∀ (x : Rg) (h : k + 1 < (L ++ [x]).length), (L ++ [x])[k + 1] = x := fun x h => by rw [List.getElem_append_right (by omega)]; simp
     rw [List.getElem_append_left (by omega), e1] at hc ⊢
     exact hc
   ·rw [List.mem_append, List.mem_singleton] at hx
    rcases hx with hx | rfl
    ·have := h.low x (by simp [hx]); omega
    ·simp only; omega
   ·have hm := h.mem p
    rw [qL, vO] at hm ⊢
    by_cases ep : p = i
    ·subst ep
     rw [show qK ⟨r.f, r.s + 1⟩ p = true from decide_eq_true (by simp only; omega), hf]; simp
    ·rw [show qK ⟨r.f, r.s + 1⟩ p = qK r p from decide_eq_decide.2 (by simp only; omega), hm, decide_eq_decide.2 (show p < i ↔ p < i + 1 by omega)]
  ·rw [if_neg e]
   refine ⟨fun k hk => ?_, fun x hx => ?_, fun p => ?_⟩
   ·simp only [List.length_append, List.length_cons, List.length_nil] at hk
    by_cases hkl : k + 1 < (L ++ [r]).length
    ·rw [List.getElem_append_left (by omega), List.getElem_append_left hkl]; exact h.chain k hkl
    ·have hkk : k = L.length := by simp only [List.length_append, List.length_cons, List.length_nil] at hkl; omega
     subst hkk
     rw [List.getElem_append_left (by simp), List.getElem_append_right (by simp)]
     simp; omega
   ·rw [List.mem_append, List.mem_singleton] at hx
    rcases hx with hx | rfl
    ·have := h.low x hx; omega
    ·simp only; omega
   ·have hm := h.mem p
    rw [qL, hm, vO]
    unfold qK
    by_cases ep : p = i
    ·subst ep; simp [hf]; omega
    ·rw [decide_eq_false (show ¬ ((i : Int) ≤ (p : Int) ∧ (p : Int) < (i : Int) + 1) by omega), Bool.or_false, decide_eq_decide.2 (show p < i ↔ p < i + 1 by omega)]

theorem Dj (f : Nat → Bool) : ∀ i, EC f i (iP f i)
 | 0 => ⟨fun k hk => by simp [iP] at hk, fun r hr => by simp [iP] at hr, fun p => by simp [iP, dV]⟩
 | i + 1 => by
  unfold iP
  have ih := Dj f i
  cases hf : f i with
  | true => rw [if_pos rfl]; exact Hr ih hf
  | false =>
   rw [if_neg (by simp)]
   refine ⟨ih.chain, fun r hr => by have := ih.low r hr; omega, fun p => ?_⟩
   rw [ih.mem]
   by_cases e : p = i
   ·subst e; simp [hf]
   ·rw [decide_eq_decide.2 (show p < i ↔ p < i + 1 by omega)]

theorem xZ {f g : Nat → Bool} : ∀ i, (∀ p, p < i → f p = g p) → iP f i = iP g i
 | 0, _ => rfl
 | i + 1, h => by
  unfold iP
  rw [h i (by omega), xZ i fun p hp => h p (by omega)]
theorem yL {f g : Nat → Bool} (h : ∀ p, p < 256 → f p = g p) : jX f = jX g := xZ 256 h

def upd (f : Nat → Bool) (a b : Nat) (v : Bool) (p : Nat) : Bool := if a ≤ p ∧ p < b then v else f p

theorem Aq : ∀ (l : List Rg) (q : Rg), eF (some q) l = true → ∀ r ∈ l, q.f + q.s < r.f
 | [], _, _, r, hr => by simp at hr
 | x :: l, q, h, r, hr => by
  simp only [eF, Bool.and_eq_true] at h
  have hx : q.f + q.s < x.f := of_decide_eq_true h.1.2
  rcases List.mem_cons.1 hr with rfl | hr
  ·exact hx
  ·have h1 := Aq l x h.2 r hr
   have h2 := qI h.1.1
   omega

theorem Sv (l : List Rg) (p : Nat) : dV l p = true ↔ ∃ r ∈ l, r.f ≤ (p : Int) ∧ (p : Int) < r.f + r.s := by
 unfold dV qK
 simp [List.any_eq_true]
end
section
open Go.RowKit

theorem OU (a1 a2 : Option Addr) (n1 n2 c1 c2 : Nat) (z : Zn) (p : Nat) (w : World) (hat : DL w a1 a2 n1 n2 z) (hz : z.ok) (h1 : z.f ≤ p) (h2 : p < z.e) :
  Calls Tryz.prog 137 #[.agg #[.int .i64 z.f, .int .i64 z.e, .slice a1 n1 c1, .slice a2 n2 c2], .int .i64 p] w fun ev w' => ev = .returned (.tuple #[.int .i64 (z.y.getD ((p - z.f) / 8) 0 : Nat), .int .i64 0]) ∧ Below w.heap.size w w' := by
 have hee := hz.1.e2
 obtain ⟨K1, F1, hsz, hbw⟩ := boxes1 w #[.int .i64 (z.f : Int), .int .i64 (z.e : Int), .slice a1 n1 c1, .slice a2 n2 c2] 102
 have lN := hat.below hbw
 have l2 := hat.l2
 have hj : (p - z.f) / 8 < z.y.length := by rw [hz.1.len]; have := hz.1.f16; have := hz.1.e16; omega
 have qC : z.y.getD ((p - z.f) / 8) 0 = z.y[(p - z.f) / 8] := by rw [List.getD_eq_getElem?_getD, gJ hj]; rfl
 rw [qC]
 obtain ⟨ty, hty⟩ : ∃ ty, z.y[(p - z.f) / 8] = ty := ⟨_, rfl⟩
 rw [hty]
 have Zf := gO hty
 clear hat qC hty
 have d1 : decide (p < z.f) = false := decide_eq_false (by omega)
 have d2 : (p : Int) < z.e := by omega
 have d3 : (z.f : Int) ≤ p := by omega
 have VY : ((p : Int) - z.f) / 8 = (((p - z.f) / 8 : Nat) : Int) := by omega
 have hjn : ((((p - z.f) / 8 : Nat) : Int)) < n2 := by omega
 go_enter Tryz.func137, Tryz.ntmps137
 go_wp2_with fail
 generalize w.alloc (.cells #[.int .i64 (z.f : Int), .int .i64 (z.e : Int), .slice a1 n1 c1, .slice a2 n2 c2] 102) = w0 at *
 refine (mF _ _ _ _ _ _ z _ lN hz).mono ?_
 rintro ev w1 ⟨rfl, hb1⟩
 have Cj := aB K1 hsz hb1
 have Bj := lN.below hb1
 obtain ⟨tb, DV, ht1, htb, htc⟩ := aN bP (by decide) Bj.r2 hj
 obtain rfl := ht1
 have uJ := fU htc
 rw [Nat.mul_one] at uJ
 have sG := Below.step hbw hb1
 clear htc Bj lN K1 F1 hb1 hbw
 rw [Zf.out] at uJ
 clear Zf
 generalize (p - z.f) / 8 = J at *
 go_wp2
 go_ret2
 exact ⟨rfl, sG⟩
end
end Go.Proofs.YtcmpmobhongkiaaGreatDoor
