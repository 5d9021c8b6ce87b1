/- texts of this claim, joined. -/
import Derived.Test.YtcmpmobhongkiaaGreatDoorCM0
import Derived.Test.YtcmpmobhongkiaaGreatDoorCM1
import Derived.Test.YtcmpmobhongkiaaGreatDoorCM10
import Derived.Test.YtcmpmobhongkiaaGreatDoorCM12
import Derived.Test.YtcmpmobhongkiaaGreatDoorCM2
import Derived.Test.YtcmpmobhongkiaaGreatDoorCM7
import Derived.ProofKit
import Derived.OpenShut
import Derived.Below
import Derived.ChangeSame
import Derived.Carry
import Derived.StillTailTactics
import Derived.Lib.ConvBytes
import Derived.StringKeys
import Derived.Lib.Strings
set_option linter.unusedVariables false
set_option linter.unusedSimpArgs false
namespace Go.Proofs.YtcmpmobhongkiaaGreatDoor
section
open Go.RowKit

def gY (xs : List Int) (most : Int) : Nat → Int → List Int → Option (List Int)
 | 0, _, _ => none
 | f + 1, p, out => if p = -1 then some out else if (out.length : Int) ≥ most ∨ Sv xs.length p 1 = false ∨ oL out p = true then none else gY xs most f (xs.getD p.toNat 0) (out ++ [p])

def follow (xs : List Int) (p most : Int) : Option (List Int) := gY xs most (xs.length + 2) p []

theorem yR : ∀ (n : Nat) (l : List Int), l.Nodup → (∀ x ∈ l, 0 ≤ x ∧ x < n) → l.length ≤ n
 | 0, l, _, h => by
  cases l with
  | nil => simp
  | cons a l => have := h a (by simp); omega
 | n + 1, l, hd, h => by
  have h1 := yR n (l.erase (n : Int)) (hd.erase _) (fun x hx => by
   have hm := h x (List.mem_of_mem_erase hx)
   have hne : x ≠ (n : Int) := by
    intro e; subst e
    exact (List.Nodup.not_mem_erase hd) hx
   omega)
  by_cases hn : (n : Int) ∈ l
  ·rw [List.length_erase_of_mem hn] at h1; omega
  ·rw [List.erase_of_not_mem hn] at h1; omega

def lenOf : Value → Nat | .slice _ n _ => n | _ => 0

def yS (w : World) (r : Option (List Int)) (e : Ending) (w' : World) : Prop :=
 Below w.heap.size w w' ∧ match r with
  | some l => ∃ a c, e = .returned (.tuple #[.slice a l.length c, .int .i64 0]) ∧ w'.ownsRow w.heap.size 3 1 (.slice a l.length c) l.length (l.map vI)
  | none => e = .returned (.tuple #[.slice none 0 0, .int .i64 8])

theorem Ip (a : Option Addr) (cap : Nat) (xs : List Int) (p most : Int) (w : World) (hl : xs.length ≤ 1000000) (hr : Row w a (xs.map vI)) :
  Calls Tryz.prog 140 #[.slice a xs.length cap, .int .i64 p, .int .i64 most] w (yS w (follow xs p most)) := by
 generalize hR : follow xs p most = R
 go_enter Tryz.func140, Tryz.ntmps140
 go_wp2
 go_loopw [1, 8] (fun u1 u8 wr => ∃ (q : Int) (out : List Int) (a8 : Option Addr) (c8 f : Nat), u1 = .int .i64 q ∧ u8 = .slice a8 out.length c8 ∧ wr.ownsRow w.heap.size 3 1 (.slice a8 out.length c8) out.length (out.map vI) ∧
   Below w.heap.size w wr ∧ Hid (gY xs most f q out = R) ∧ f + out.length = xs.length + 2 ∧ Hid (out.Nodup ∧ ∀ x ∈ out, 0 ≤ x ∧ x < xs.length)) (fun _ u8 _ => xs.length + 2 - lenOf u8)
 case atStart => exact ⟨p, [], none, 0, xs.length + 2, rfl, rfl, World.ownsRow_nil _ _ _ _, Below.refl _ _, hR, rfl, List.nodup_nil, by simp⟩
 case round =>
  obtain ⟨q, out, a8, c8, f, rfl, rfl, hown, hbw, hF, hf, hnd⟩ := hrel
  have hle := yR xs.length out hnd.out.1 hnd.out.2
  obtain ⟨f, rfl⟩ : ∃ f', f = f' + 1 := ⟨f - 1, by omega⟩
  have hlo : out.length ≤ 9223372036854775807 := by omega
  have HF := hF.out
  unfold gY at HF
  by_cases h1 : q = -1
  ·have hq : (q != -1) = false := by simp [h1]
   rw [if_pos h1] at HF
   have HO := gO hown
   clear hown h1 hR
   go_wp2
   go_ret2
   subst HF
   exact ⟨hbw, _, _, rfl, HO.out⟩
  ·have hq : (q != -1) = true := by simp [h1]
   rw [if_neg h1] at HF
   have HO := gO hown
   clear hown hR hF
   by_cases h2 : most ≤ (out.length : Int)
   ·rw [if_pos (Or.inl h2)] at HF
    subst HF
    go_wp2_with fail
    go_ret2
    exact ⟨hbw, rfl⟩
   ·cases h3 : Sv xs.length q 1 with
    | false =>
     rw [if_pos (Or.inr (Or.inl h3))] at HF
     subst HF
     go_wp2_with (go_at_call 142; refine (Dl _ _ _ _ _ _ (by omega) (by omega) (by omega)).mono ?_; rintro e w' ⟨rfl, rfl⟩)
     go_ret2
     exact ⟨hbw, rfl⟩
    | true =>
     cases h4 : oL out q with
     | true =>
      rw [if_pos (Or.inr (Or.inr h4))] at HF
      subst HF
      go_wp2_with (first | (go_at_call 142; refine (Dl _ _ _ _ _ _ (by omega) (by omega) (by omega)).mono ?_; rintro e w' ⟨rfl, rfl⟩) | (go_at_call 35; refine (fM _ _ _ _ _ hlo (aY HO.out)).mono ?_; rintro e w' ⟨rfl, rfl⟩))
      go_ret2
      exact ⟨hbw, rfl⟩
     | false =>
      rw [if_neg (by rw [h3, h4]; simp; omega)] at HF
      have hq2 : 0 ≤ q ∧ q < xs.length := by unfold Sv at h3; simp only [decide_eq_true_eq] at h3; omega
      obtain ⟨k, rfl⟩ := Int.eq_ofNat_of_zero_le hq2.1
      have hk : k < xs.length := by omega
      rw [Int.toNat_natCast, List.getD_eq_getElem?_getD, gJ hk, Option.getD_some] at HF
      have VW := gO HF
      clear HF
      have hrw := hr.below hbw
      have hsz := hbw.size
      have EK : Hid ( (wr.alloc (.cells #[.int .i64 (k : Int)] 3)).ownsRow w.heap.size 3 1 (.slice a8 out.length c8) out.length (out.map vI)) := gO (own_below HO.out ((Below.refl _ _).alloc (Nat.le_refl _) _) (Nat.le_refl _))
      have Dp : Hid (Row (wr.alloc (.cells #[.int .i64 (k : Int)] 3)) (some ⟨wr.heap.size, 0, none⟩) [vI k]) := OC _ _ _
      go_wp2_with (first | (go_at_call 142; refine (Dl _ _ _ _ _ _ (by omega) (by omega) (by omega)).mono ?_; rintro e w' ⟨rfl, rfl⟩) | (go_at_call 35; refine (fM _ _ _ _ _ hlo (aY HO.out)).mono ?_; rintro e w' ⟨rfl, rfl⟩) | (at_builtin; refine gU rfl _ _ 39 rfl w.heap.size 3 (.int .i64 0) 1 8 Tryz.underlying39 BH rfl (by decide) (by decide) a8 out.length c8 (out.map vI) rfl EK.out (some ⟨wr.heap.size, 0, none⟩) 1 1 [vI k] rfl rfl Dp.out (by simp [vI, Value.oneCell']) (by omega) (by simp; omega) ?_))
      intro a' c' w1 hown1 hgrow
      have hb1 : Below w.heap.size w w1 := below_grown (hbw.alloc hsz _) EK.out hgrow (Nat.le_refl _) (by simp; omega)
      obtain ⟨b, off, rfl, hbb, hc⟩ := OH (hr.below hb1) hk
      have HO1 := gO hown1
      clear hown1 EK Dp hrw hgrow hr HO
      go_wp2
      go_roundw
      case rel =>
       refine ⟨xs[k], out ++ [(k : Int)], a', c', f, rfl, by simp, ?_, hb1, VW.out, by simp; omega, ?_⟩
       ·have h := HO1.out
        simp only [List.length_append, List.length_cons, List.length_nil, List.map_append, List.map_cons, List.map_nil]
        exact h
       ·refine ⟨?_, ?_⟩
        ·rw [List.nodup_append]
         refine ⟨hnd.out.1, by simp, ?_⟩
         intro x hx y hy
         simp only [List.mem_singleton] at hy
         subst hy
         intro e
         subst e
         have : oL out (k : Int) = true := by unfold oL; simpa using hx
         rw [this] at h4; cases h4
        ·intro x hx
         rw [List.mem_append, List.mem_singleton] at hx
         rcases hx with hx | rfl
         ·exact hnd.out.2 x hx
         ·omega
      case measure => simp [lenOf]; omega

theorem OI (a : Option Addr) (n cap : Nat) (xs : List Int) (p most : Int) (w : World) (hn : xs.length = n) (hl : n ≤ 1000000) (hr : Row w a (xs.map vI)) :
  Calls Tryz.prog 140 #[.slice a n cap, .int .i64 p, .int .i64 most] w (yS w (follow xs p most)) := by
 subst hn
 exact Ip a cap xs p most w hl hr

theorem EW (a : Option Addr) (n cap : Nat) (xs : List Int) (p most : Int) (w : World) (hn : xs.length = n) (hl : n ≤ 1000000) (hr : Row w a (xs.map vI)) (l : List Int) (hf : follow xs p most = some l) :
  Calls Tryz.prog 140 #[.slice a n cap, .int .i64 p, .int .i64 most] w fun e w' => ∃ a' c', e = .returned (.tuple #[.slice a' l.length c', .int .i64 0]) ∧ w'.ownsRow w.heap.size 3 1 (.slice a' l.length c') l.length (l.map vI) ∧ Below w.heap.size w w' := by
 refine (OI a n cap xs p most w hn hl hr).mono fun e w' h => ?_
 rw [hf] at h
 obtain ⟨hb, a', c', he, ho⟩ := h
 exact ⟨a', c', he, ho, hb⟩
end
section
open Go.RowKit
attribute [local go_sem ↓] iO

def chainTo (xs : List Int) (p k n : Nat) : Nat → List Int
 | 0 => xs
 | i + 1 => (chainTo xs p k n i).set (p + i * k) (if i + 1 < n then ((p + (i + 1) * k : Nat) : Int) else -1)

theorem fD (xs : List Int) (p k n : Nat) : ∀ i, (chainTo xs p k n i).length = xs.length
 | 0 => rfl
 | i + 1 => by simp [chainTo, fD xs p k n i]

theorem OJ (a : Option Addr) (cap : Nat) (xs : List Int) (p k n : Nat) (w : World) (hl : xs.length ≤ 1000000) (hr : Row w a (xs.map vI)) (hk1 : 1 ≤ k) (hk2 : k ≤ 64) (hn1 : 1 ≤ n) (hn2 : n ≤ xs.length) (hin : p + k * n ≤ xs.length) :
  Calls Tryz.prog 181 #[.slice a xs.length cap, .int .i64 p, .int .i64 k, .int .i64 n] w fun e w' => ∃ a' c', e = .returned (.tuple #[.slice a' xs.length c', .int .i64 0]) ∧ w'.ownsRow w.heap.size 3 1 (.slice a' xs.length c') xs.length ((chainTo xs p k n n).map vI) ∧ Below w.heap.size w w' := by
 have hkn : 0 ≤ (k : Int) * (n : Int) := Int.mul_nonneg (by omega) (by omega)
 have hkn2 : (k : Int) * (n : Int) ≤ xs.length - p := by
  have : ((k * n : Nat) : Int) = (k : Int) * (n : Int) := by simp
  omega
 have HB : Hid (Sv xs.length p ((k : Int) * (n : Int)) = true) := by unfold Sv; exact decide_eq_true (by omega)
 have d1 : decide ((k : Int) < 1) = false := decide_eq_false (by omega)
 have d2 : decide (64 < (k : Int)) = false := decide_eq_false (by omega)
 have d3 : decide ((n : Int) < 1) = false := decide_eq_false (by omega)
 go_enter Tryz.func181, Tryz.ntmps181
 go_wp2_with (first | (go_at_call 142; refine (Dl _ _ _ _ _ _ (by omega) (by omega) (by omega)).mono ?_; rw [HB.out]; rintro e w' ⟨rfl, rfl⟩) | (go_at_call 85; refine (Md _ _ _ _ (by omega) hr).mono ?_; rintro e w1 ⟨a', c', rfl, hown, hb⟩; have HO := gO hown; clear hown))
 go_loopw [11, 12, 41] (fun _ _ s41 wr => ∃ i : Nat, i ≤ n ∧ s41 = .int .i64 i ∧ Hid (wr.ownsRow w.heap.size 3 1 (.slice a' xs.length c') xs.length ((chainTo xs p k n i).map vI)) ∧ Below w.heap.size w wr) (fun _ _ s41 _ => n - (intOf s41).toNat)
 case atStart => exact ⟨0, Nat.zero_le _, rfl, HO, hb⟩
 case round =>
  obtain ⟨i, hi, rfl, hown, hbw⟩ := hrel
  by_cases hlt : i < n
  ·have hidx : p + i * k < xs.length := by
    have : i * k + k ≤ k * n := by rw [← Nat.succ_mul, Nat.mul_comm]; exact Nat.mul_le_mul_left _ hlt
    omega
   have hik : 0 ≤ (i : Int) * (k : Int) := Int.mul_nonneg (by omega) (by omega)
   have aF9 : (p : Int) + (i : Int) * (k : Int) < xs.length := by
    have : ((p + i * k : Nat) : Int) = (p : Int) + (i : Int) * (k : Int) := by simp
    omega
   obtain ⟨g, v, rfl, hg, hgs, hc, hf⟩ := eF hown.out (p + i * k) (by rw [List.length_map, fD]; exact hidx)
   have aGa : 0 ≤ ((i : Int) + 1) * (k : Int) := Int.mul_nonneg (by omega) (by omega)
   have aB7 : ((i : Int) + 1) * (k : Int) = (i : Int) * (k : Int) + k := by rw [Int.add_mul, Int.one_mul]
   have aGb : ((i : Int) + 1) * (k : Int) ≤ xs.length + 64 := by omega
   clear aB7
   by_cases hlast : i + 1 < n
   ·have hl2 : (i : Int) < (n : Int) - 1 := by omega
    go_wp2
    go_roundw
    case rel => exact ⟨i + 1, by omega, by go_num, by
      have h := (World.ownsRow.stored hown.out (p + i * k) (vI (p + ((i : Int) + 1) * k))).1
      show World.ownsRow _ _ _ _ _ _ ((chainTo xs p k n (i + 1)).map vI)
      unfold chainTo
      rw [if_pos hlast, List.map_set]
      rw [show (((p + (i + 1) * k : Nat) : Int)) = p + ((i : Int) + 1) * k from by simp]
      exact h, hbw.setCell hg _⟩
    case measure => simp [intOf]; omega
   ·have hl2 : ¬ (i : Int) < (n : Int) - 1 := by omega
    go_wp2
    go_roundw
    case rel => exact ⟨i + 1, by omega, by go_num, by
      have h := (World.ownsRow.stored hown.out (p + i * k) (vI (-1))).1
      show World.ownsRow _ _ _ _ _ _ ((chainTo xs p k n (i + 1)).map vI)
      unfold chainTo
      rw [if_neg hlast, List.map_set]
      exact h, hbw.setCell hg _⟩
    case measure => simp [intOf]; omega
  ·obtain rfl : i = n := by omega
   go_wp2
   go_ret2
   exact ⟨a', c', rfl, hown.out, hbw⟩
end
section
def objs (p k i : Nat) : List Int := (List.range i).map fun j => ((p + j * k : Nat) : Int)

theorem mV (p k i : Nat) : (objs p k i).length = i := by simp [objs]
theorem Me (p k i : Nat) : objs p k (i + 1) = objs p k i ++ [((p + i * k : Nat) : Int)] := by simp [objs, List.range_succ]

theorem xJ (xs : List Int) (p k n : Nat) (hk : 1 ≤ k) (hin : p + k * n ≤ xs.length) : ∀ j, j ≤ n → ∀ i, i < j → (chainTo xs p k n j)[p + i * k]? = some (if i + 1 < n then ((p + (i + 1) * k : Nat) : Int) else -1)
 | 0, _, i, hi => by omega
 | j + 1, hj, i, hi => by
  have hlt : ∀ i, i < n → p + i * k < xs.length := fun i hi => by
   have : i * k + k ≤ k * n := by rw [← Nat.succ_mul, Nat.mul_comm]; exact Nat.mul_le_mul_left _ hi
   omega
  unfold chainTo
  by_cases e : i = j
  ·subst e
   rw [List.getElem?_set_self (by rw [fD]; exact hlt i (by omega))]
  ·have hne : p + j * k ≠ p + i * k := by
    intro h
    have h1 : j * k = i * k := by omega
    exact e (Nat.eq_of_mul_eq_mul_right (by omega) h1).symm
   rw [List.getElem?_set_ne hne]
   exact xJ xs p k n hk hin j (by omega) i (by omega)

theorem wE (xs : List Int) (p k n : Nat) (most : Int) (hk : 1 ≤ k) (hn : 1 ≤ n) (hin : p + k * n ≤ xs.length) :
  ∀ d i f, i + d = n → 1 ≤ d → d + 1 ≤ f → (i : Int) ≤ most → gY (chainTo xs p k n n) most f ((p + i * k : Nat) : Int) (objs p k i) = if (n : Int) ≤ most then some (objs p k n) else none := by
 intro d
 induction d with
 | zero => intro i f _ h; omega
 | succ d ih =>
  intro i f hid _ hf aEo
  obtain ⟨f, rfl⟩ : ∃ f', f = f' + 1 := ⟨f - 1, by omega⟩
  have hpos : ((p + i * k : Nat) : Int) ≠ -1 := by omega
  have hlt : p + i * k < xs.length := by
   have : i * k + k ≤ k * n := by rw [← Nat.succ_mul, Nat.mul_comm]; exact Nat.mul_le_mul_left _ (by omega)
   omega
  unfold gY
  rw [if_neg hpos, mV]
  by_cases hm : (i : Int) = most
  ·rw [if_pos (Or.inl (by omega)), if_neg (by omega)]
  ·have h2 : Sv (chainTo xs p k n n).length ((p + i * k : Nat) : Int) 1 = true := by
    unfold Sv; rw [fD]; exact decide_eq_true (by omega)
   have h3 : oL (objs p k i) ((p + i * k : Nat) : Int) = false := by
    unfold oL
    rw [List.contains_eq_any_beq, List.any_eq_false]
    intro x hx
    simp only [objs, List.mem_map, List.mem_range] at hx
    obtain ⟨j, hj, rfl⟩ := hx
    simp only [beq_iff_eq]
    intro h
    have h1 : i * k = j * k := by omega
    have := Nat.eq_of_mul_eq_mul_right (by omega) h1
    omega
   rw [if_neg (by rw [h2, h3]; simp; omega), Int.toNat_natCast, List.getD_eq_getElem?_getD, xJ xs p k n hk hin n (Nat.le_refl _) i (by omega), Option.getD_some, ← Me]
   by_cases hl : i + 1 < n
   ·rw [if_pos hl]
    exact ih (i + 1) f (by omega) (by omega) (by omega) (by omega)
   ·rw [if_neg hl]
    obtain rfl : n = i + 1 := by omega
    obtain ⟨f, rfl⟩ : ∃ f', f = f' + 1 := ⟨f - 1, by omega⟩
    unfold gY
    rw [if_pos rfl, if_pos (by omega)]

theorem uI (xs : List Int) (p k n : Nat) (most : Int) (hk : 1 ≤ k) (hn : 1 ≤ n) (hin : p + k * n ≤ xs.length) (h0 : 0 ≤ most) :
  follow (chainTo xs p k n n) p most = if (n : Int) ≤ most then some (objs p k n) else none := by
 have hkn : n ≤ k * n := Nat.le_mul_of_pos_left _ (by omega)
 have h := wE xs p k n most hk hn hin n 0 ((chainTo xs p k n n).length + 2) (by omega) hn (by rw [fD]; omega) (by omega)
 simpa [follow, objs] using h
end
section
structure Ls where
 c : Nat
 z : Nat
 t : Nat
 p : List Nat
deriving DecidableEq
def Ls.key (l : Ls) : Nat := (l.c * 2 + l.z) * 3 + l.t
def jJ (l : List Nat) : List Bk := l.map fun p => ⟨p, 0, 0⟩
def lsB : List Ls → List Bk
 | [] => []
 | l :: r => jJ l.p ++ lsB r
structure Hp where
 z0 : Zn
 z1 : Zn
 m0 : Nat
 m1 : Nat
 aF : Nat
 ls : List Ls
 live : List Bk
deriving DecidableEq
def Hp.all (h : Hp) : List Bk := h.z0.l ++ (h.z1.l ++ (lsB h.ls ++ h.live))
def aB9 (aF split : Nat) (l : Ls) : Prop := l.c < aF ∧ l.z < 2 ∧ l.t < 3 ∧ 0 < l.p.length ∧ l.p.length ≤ 8 ∧ ∀ p ∈ l.p, p < 256 ∧ (p < split ↔ l.z = 0)

structure dW (h : Hp) : Prop where
 o0 : h.z0.ok
 o1 : h.z1.ok
 f0 : h.z0.f = 0
 e0 : h.z0.e = h.z1.f
 e1 : h.z1.e = 256
 m0 : h.m0 ≤ 256
 m1 : h.m1 ≤ 256
 cp : 1 ≤ h.aF ∧ h.aF ≤ 4
 lk : h.ls.Pairwise fun a b => a.key < b.key
 lr : ∀ l ∈ h.ls, aB9 h.aF h.z0.e l
 lv : ∀ b ∈ h.live, bY 0 256 b.a b.o ∧ b.t < 3
 vs : h.live.Pairwise fun x y => x.a < y.a
 one : ∀ p, cnt h.all p ≤ 1

def Hp.zone (h : Hp) (i : Nat) : Zn := if i = 0 then h.z0 else h.z1
def Hp.iL (h : Hp) (i : Nat) (z : Zn) : Hp := if i = 0 then { h with z0 := z } else { h with z1 := z }
def Hp.iD (h : Hp) (p : Nat) : Nat := if p < h.z0.e then 0 else 1
def Hp.min (h : Hp) (i : Nat) : Nat := if i = 0 then h.m0 else h.m1
def Hp.iE (h : Hp) (a o : Nat) : Hp := h.iL (h.iD a) ((h.zone (h.iD a)).back a o)
def Hp.held (h : Hp) (i : Nat) (urgent low : Bool) : Nat := (if urgent then h.min i / 2 else h.min i) + (if i = 0 ∧ low = false then (h.z1.e - h.z1.f) / 32 else 0)
def Hp.jU (h : Hp) (i order t hd : Nat) : Option (Hp × Nat) := if szB (h.zone i).l < hd + 2 ^ order then none else match (h.zone i).take order t with
 | some (z', a) => some (h.iL i z', a)
 | none => none
def iP (ls : List Ls) (k : Nat) : Nat := (ls.takeWhile fun l => decide (l.key < k)).length
def nV (ls : List Ls) (k : Nat) : Bool := match ls[iP ls k]? with
 | some l => decide (l.key = k)
 | none => false
def bD (ls : List Ls) (l : Ls) (p : Nat) : List Ls := match ls[iP ls l.key]? with
 | some x => if x.key = l.key then ls.set (iP ls l.key) { x with p := x.p ++ [p] } else ls.take (iP ls l.key) ++ { l with p := [p] } :: ls.drop (iP ls l.key)
 | none => ls.take (iP ls l.key) ++ { l with p := [p] } :: ls.drop (iP ls l.key)
def Hp.fill (h : Hp) (l : Ls) (hd : Nat) : Nat → Hp
 | 0 => h
 | n + 1 => match h.jU l.z 0 l.t hd with
  | some (h', q) => Hp.fill { h' with ls := bD h'.ls l q } l hd n
  | none => h
def Hp.single (h : Hp) (l : Ls) (hd : Nat) : Option (Hp × Nat) := match h.ls[iP h.ls l.key]? with
 | some x => if x.key = l.key then some ({ h with ls := if x.p.length = 1 then h.ls.eraseIdx (iP h.ls l.key) else h.ls.set (iP h.ls l.key) { x with p := x.p.dropLast } }, x.p.getLastD 0) else (h.jU l.z 0 l.t hd).map fun r => (r.1.fill l hd 3, r.2)
 | none => (h.jU l.z 0 l.t hd).map fun r => (r.1.fill l hd 3, r.2)
def Hp.ask (h : Hp) (cpu i order t : Nat) (urgent low : Bool) : Option (Hp × Nat) := if order = 0 then h.single ⟨cpu, i, t, []⟩ (h.held i urgent low) else h.jU i order t (h.held i urgent low)
def Hp.attempt (h : Hp) (cpu order t : Nat) (urgent low : Bool) : Option (Hp × Nat) :=
 if low then h.ask cpu 0 order t urgent low else match h.ask cpu 1 order t urgent low with
  | some r => some r
  | none => h.ask cpu 0 order t urgent low
def aV (h : Hp) : List Nat → Hp
 | [] => h
 | p :: l => aV (h.iE p 0) l
def bQ (h : Hp) : List Ls → Hp
 | [] => h
 | l :: r => bQ (aV h l.p) r
def Hp.drain (h : Hp) : Hp := { bQ h h.ls with ls := [] }
def Hp.alloc (h : Hp) (cpu order t : Nat) (urgent low : Bool) : Option (Hp × Nat) :=
 match (match h.attempt cpu order t urgent low with
  | some r => some r
  | none => h.drain.attempt cpu order t urgent low) with
 | some (h', a) => some ({ h' with live := bG h'.live ⟨a, order, t⟩ }, a)
 | none => none
def Hp.give (h : Hp) (cpu p : Nat) : Hp :=
 let l : Ls := ⟨cpu, h.iD p, (h.zone (h.iD p)).y.getD ((p - (h.zone (h.iD p)).f) / 8) 0, []⟩
 let h1 := { h with ls := bD h.ls l p }
 match h1.ls[iP h1.ls l.key]? with
 | some x => if 8 < x.p.length then { aV h1 (x.p.take 4) with ls := h1.ls.set (iP h1.ls l.key) { x with p := x.p.drop 4 } } else h1
 | none => h1
def Hp.gX (h : Hp) (cpu i : Nat) (b : Bk) : Hp :=
 let h1 := { h with live := h.live.eraseIdx i }
 if 0 < b.o then h1.iE b.a b.o else h1.give cpu b.a
end
section
structure Sl where
 p : Nat
 n : Nat
 h : Int
deriving DecidableEq
structure Ca where
 ns : List (List UInt8)
 z : Nat
 r : Nat
 o : Nat
 sl : List Sl
 ac : List Int
deriving DecidableEq
structure Sy where
 w : List Int
 h : Hp
 cs : List Ca
deriving DecidableEq

def dV (k : Nat) : Nat := if 4 ≤ 16 / k then 0 else if 4 ≤ 32 / k then 1 else 2
def eY (k : Nat) : Nat := 16 * 2 ^ dV k / k
def nameB (s : List UInt8) : Bool := decide (0 < s.length ∧ s.length ≤ 8) && s.all fun c => decide ((97 ≤ c ∧ c ≤ 122) ∨ (48 ≤ c ∧ c ≤ 57))
def iM (c : Ca) (p : Nat) (a : Int) : Bool := decide (0 ≤ a - 16 * p ∧ a - 16 * p < c.r * c.z ∧ (a - 16 * p) % c.z = 0)

structure pO (s : Sy) (c : Ca) (x : Sl) : Prop where
 live : ∃ b ∈ s.h.live, b.a = x.p ∧ b.o = c.o
 chain : ∃ l, follow s.w x.h c.r = some l ∧ l.length = x.n ∧ ∀ a ∈ l, iM c x.p a = true
structure nX (s : Sy) (c : Ca) : Prop where
 z : 1 ≤ c.z ∧ c.z ≤ 64
 o : c.o = dV c.z
 r : c.r = eY c.z
 ns : c.ns ≠ []
 nm : ∀ n ∈ c.ns, nameB n = true
 nr : c.ns.Pairwise fun a b => Go.Op.bytesLess a b = true
 ac : c.ac.length = s.h.aF
 sr : c.sl.Pairwise fun a b => a.p < b.p
 sk : ∀ x ∈ c.sl, pO s c x
 aw : ∀ a ∈ c.ac, a = -1 ∨ ∃ x ∈ c.sl, (x.p : Int) = a
 ad : c.ac.Pairwise fun a b => a = b → a = -1
structure fC (s : Sy) : Prop where
 wl : s.w.length = 4096
 hk : dW s.h
 cl : s.cs.length ≤ 20
 ck : ∀ c ∈ s.cs, nX s c
 zd : s.cs.Pairwise fun c d => c.z ≠ d.z
 nd : s.cs.Pairwise fun c d => ∀ n ∈ c.ns, n ∉ d.ns
 pd : s.cs.Pairwise fun c d => ∀ x ∈ c.sl, ∀ y ∈ d.sl, x.p ≠ y.p

def Sy.named (s : Sy) (n : List UInt8) : Option Nat := s.cs.findIdx? fun c => c.ns.contains n
def Sy.dU (s : Sy) (i : Nat) (c : Ca) : Sy := { s with cs := s.cs.set i c }
def Ca.find (c : Ca) (p : Int) : Option Nat := c.sl.findIdx? fun x => decide ((x.p : Int) = p)
def Iu (l : List Sl) (p : Nat) : Nat := (l.takeWhile fun x => decide (x.p < p)).length
def mP (l : List Sl) (x : Sl) : List Sl := l.take (Iu l x.p) ++ x :: l.drop (Iu l x.p)
def Sy.grow (s : Sy) (i cpu : Nat) (c : Ca) : Option (Sy × Nat) := match s.h.alloc cpu c.o 0 false false with
 | some (h', a) => some ({ w := chainTo s.w (16 * a) c.z c.r c.r, h := h', cs := s.cs.set i { c with sl := mP c.sl ⟨a, c.r, ((16 * a : Nat) : Int)⟩ } }, Iu c.sl a)
 | none => none
def Ca.own (c : Ca) (cpu : Nat) : Option Nat := match c.find (c.ac.getD cpu (-1)) with
 | some k => match c.sl[k]? with
  | some x => if 0 < x.n then some k else none
  | none => none
 | none => none
def Ca.nobody (c : Ca) : Option Nat := c.sl.findIdx? fun x => decide (0 < x.n) && !c.ac.contains (x.p : Int)
def Sy.mine (s : Sy) (i cpu k : Nat) : Sy := match s.cs[i]? with
 | some c => match c.sl[k]? with
  | some x => s.dU i { c with ac := c.ac.set cpu (x.p : Int) }
  | none => s
 | none => s
def Sy.choose (s : Sy) (i cpu : Nat) : Option (Sy × Nat) := match s.cs[i]? with
 | some c => match c.own cpu with
  | some k => some (s, k)
  | none => match c.nobody with
   | some k => some (s.mine i cpu k, k)
   | none => match s.grow i cpu c with
    | some (s', k) => some (s'.mine i cpu k, k)
    | none => none
 | none => none
def Sy.pop (s : Sy) (i k : Nat) : Option (Sy × Int) := match s.cs[i]? with
 | some c => match c.sl[k]? with
  | some x => some (s.dU i { c with sl := c.sl.set k ⟨x.p, x.n - 1, s.w.getD x.h.toNat 0⟩ }, x.h)
  | none => none
 | none => none
def Sy.one (s : Sy) (i cpu : Nat) : Option (Sy × Int) := match s.choose i cpu with
 | some (s', k) => s'.pop i k
 | none => none
def uH (l : List (List UInt8)) (n : List UInt8) : Nat := (l.takeWhile fun x => Go.Op.bytesLess x n).length
def Sy.create (s : Sy) (n : List UInt8) (z : Nat) : Option Sy := match s.cs.findIdx? fun c => decide (c.z = z) with
 | some i => match s.cs[i]? with
  | some c => some (s.dU i { c with ns := c.ns.take (uH c.ns n) ++ n :: c.ns.drop (uH c.ns n) })
  | none => none
 | none => if s.cs.length = 20 then none else some { s with cs := s.cs ++ [⟨[n], z, eY z, dV z, [], List.replicate s.h.aF (-1)⟩] }
end
section
open Go.RowKit

def sV (l : List UInt8) : Value := .string ⟨l.toArray⟩
def encS (l : List UInt8) : List Value := [sV l]
theorem aU (l : List UInt8) : (encS l).length = 1 := rfl
theorem l9 {w : World} {g o : Nat} {r : List UInt8} (hc : ∀ i v, (encS r)[i]? = some v → w.cell? ⟨g, o + i, none⟩ = some v) : w.cell? ⟨g, o, none⟩ = some (.string ⟨r.toArray⟩) := hc 0 _ rfl
def aX (x : Sl) : List Value := [vI x.p, vI x.n, vI x.h]
theorem aK (x : Sl) : (aX x).length = 3 := rfl
theorem fA {w : World} {b o : Nat} {r : Sl} (hc : ∀ i v, (aX r)[i]? = some v → w.cell? ⟨b, o + i, none⟩ = some v) : w.cell? ⟨b, o, none⟩ = some (.int .i64 r.p) ∧ w.cell? ⟨b, o + 1, none⟩ = some (.int .i64 r.n) ∧ w.cell? ⟨b, o + 2, none⟩ = some (.int .i64 r.h) := ⟨hc 0 _ rfl, hc 1 _ rfl, hc 2 _ rfl⟩
structure Cc where
 a1 : Option Addr
 n1 : Nat
 c1 : Nat
 a2 : Option Addr
 n2 : Nat
 c2 : Nat
 a3 : Option Addr
 n3 : Nat
 c3 : Nat
 c : Ca
def bV (y : Cc) : List Value := [.slice y.a1 y.n1 y.c1, vI y.c.z, vI y.c.r, vI y.c.o, .slice y.a2 y.n2 y.c2, .slice y.a3 y.n3 y.c3]
theorem cZ (y : Cc) : (bV y).length = 6 := rfl
theorem mZ {w : World} {b o : Nat} {y : Cc} (hc : ∀ i v, (bV y)[i]? = some v → w.cell? ⟨b, o + i, none⟩ = some v) : w.cell? ⟨b, o, none⟩ = some (.slice y.a1 y.n1 y.c1) ∧ w.cell? ⟨b, o + 1, none⟩ = some (.int .i64 y.c.z) ∧ w.cell? ⟨b, o + 2, none⟩ = some (.int .i64 y.c.r) ∧ w.cell? ⟨b, o + 3, none⟩ = some (.int .i64 y.c.o) ∧ w.cell? ⟨b, o + 4, none⟩ = some (.slice y.a2 y.n2 y.c2) ∧ w.cell? ⟨b, o + 5, none⟩ = some (.slice y.a3 y.n3 y.c3) := ⟨hc 0 _ rfl, hc 1 _ rfl, hc 2 _ rfl, hc 3 _ rfl, hc 4 _ rfl, hc 5 _ rfl⟩
structure IB (w : World) (y : Cc) : Prop where
 l1 : y.c.ns.length = y.n1
 l2 : y.c.sl.length = y.n2
 l3 : y.c.ac.length = y.n3
 r1 : Row w y.a1 (flat encS y.c.ns)
 r2 : Row w y.a2 (flat aX y.c.sl)
 r3 : Row w y.a3 (y.c.ac.map vI)
 k1 : y.n1 ≤ y.c1
 k2 : y.n2 ≤ y.c2
 k3 : y.n3 ≤ y.c3
theorem IB.below {w w' : World} {y : Cc} (h : IB w y) (hb : Below w.heap.size w w') : IB w' y := ⟨h.l1, h.l2, h.l3, h.r1.below hb, h.r2.below hb, h.r3.below hb, h.k1, h.k2, h.k3⟩

set_option maxHeartbeats 4000000 in
set_option maxRecDepth 100000 in
theorem yU (c : Ca) (a1 a2 a3 : Option Addr) (n1 c1 n2 c2 n3 c3 p : Nat) (a : Int) (w : World) (hz : 1 ≤ c.z) (hrz : c.r * c.z ≤ 100000) (hp : p ≤ 1000) (ha1 : -1000000000000 ≤ a) (ha2 : a ≤ 1000000000000) :
  Calls Tryz.prog 90 #[.agg #[.slice a1 n1 c1, .int .i64 c.z, .int .i64 c.r, .int .i64 c.o, .slice a2 n2 c2, .slice a3 n3 c3], .int .i64 p, .int .i64 a] w fun ev w' => ev = .returned (.bool (iM c p a)) ∧ Below w.heap.size w w' := by
 have hb := aB w (.cells #[.slice a1 n1 c1, .int .i64 (c.z : Int), .int .i64 (c.r : Int), .int .i64 (c.o : Int), .slice a2 n2 c2, .slice a3 n3 c3] 94)
 have K := bC w #[.slice a1 n1 c1, .int .i64 (c.z : Int), .int .i64 (c.r : Int), .int .i64 (c.o : Int), .slice a2 n2 c2, .slice a3 n3 c3] 94
 have k1 := K 1
 have k2 := K 2
 simp only [gB, gC, gD] at k1 k2
 have hmul : ((c.r : Int) * (c.z : Int)) = ((c.r * c.z : Nat) : Int) := by rw [Int.natCast_mul]
 have hnn : 0 ≤ (c.r : Int) * (c.z : Int) := by rw [hmul]; omega
 have hub : (c.r : Int) * (c.z : Int) ≤ 100000 := by rw [hmul]; omega
 clear hmul
 have HB := gO hb
 clear hb K
 have hzi : ((c.z : Int) == 0) = false := by rw [beq_eq_false_iff_ne]; omega
 by_cases h1 : 0 ≤ a - p * 16
 ·by_cases h2 : a - p * 16 < (c.r : Int) * c.z
  ·have d1 : decide (0 ≤ a - (p : Int) * 16) = true := decide_eq_true h1
   go_enter Tryz.func90, Tryz.ntmps90
   go_wp2_with fail
   go_ret
   refine ⟨aW ?_, HB.out⟩
   unfold iM
   rw [Int.mul_comm 16 (p : Int)]
   by_cases h3 : (a - (p : Int) * 16) % (c.z : Int) = 0
   ·rw [h3, decide_eq_true ⟨h1, h2, rfl⟩]; rfl
   ·rw [decide_eq_false (fun h => h3 h.2.2)]
    exact beq_eq_false_iff_ne.2 h3
  ·have d1 : decide (0 ≤ a - (p : Int) * 16) = true := decide_eq_true h1
   go_enter Tryz.func90, Tryz.ntmps90
   go_wp2_with fail
   go_ret
   refine ⟨aW ?_, HB.out⟩
   unfold iM
   rw [Int.mul_comm 16 (p : Int)]
   symm
   exact decide_eq_false (fun h => absurd h.2.1 (Int.not_lt.2 h2))
 ·have d1 : decide (0 ≤ a - (p : Int) * 16) = false := decide_eq_false h1
  go_enter Tryz.func90, Tryz.ntmps90
  go_wp2_with fail
  go_ret
  refine ⟨aW ?_, HB.out⟩
  unfold iM
  rw [Int.mul_comm 16 (p : Int)]
  symm
  exact decide_eq_false (fun h => absurd h.1 (Int.not_le.2 h1))
end
section
theorem dH (h : Hp) (p : Nat) : cnt h.all p = cnt h.z0.l p + cnt h.z1.l p + cnt (lsB h.ls) p + cnt h.live p := by
 unfold Hp.all
 rw [bJ, bJ, bJ]
 omega
theorem zC (h : Hp) (i p : Nat) : cnt (h.zone i).l p ≤ cnt h.all p := by
 rw [dH]
 unfold Hp.zone
 split <;> omega
theorem Fv (h : Hp) (i : Nat) (z : Zn) (p : Nat) : cnt (h.iL i z).all p + cnt (h.zone i).l p = cnt h.all p + cnt z.l p := by
 rw [dH, dH]
 unfold Hp.iL Hp.zone
 split <;> simp only <;> omega
theorem dW.zone {h : Hp} (hk : dW h) (i : Nat) : (h.zone i).ok := by
 unfold Hp.zone
 split
 ·exact hk.o0
 ·exact hk.o1
theorem dW.iL {h : Hp} (hk : dW h) (i : Nat) {z : Zn} (hz : z.ok) (hf : z.f = (h.zone i).f) (he : z.e = (h.zone i).e) (h1 : ∀ p, cnt (h.iL i z).all p ≤ 1) : dW (h.iL i z) := by
 by_cases hi : i = 0
 ·subst hi
  have e : h.iL 0 z = { h with z0 := z } := if_pos rfl
  have e2 : h.zone 0 = h.z0 := if_pos rfl
  rw [e2] at hf he
  rw [e] at h1 ⊢
  exact ⟨hz, hk.o1, hf.trans hk.f0, he.trans hk.e0, hk.e1, hk.m0, hk.m1, hk.cp, hk.lk, fun l hl => by simp only; rw [he]; exact hk.lr l hl, hk.lv, hk.vs, h1⟩
 ·have e : h.iL i z = { h with z1 := z } := if_neg hi
  have e2 : h.zone i = h.z1 := if_neg hi
  rw [e2] at hf he
  rw [e] at h1 ⊢
  exact ⟨hk.o0, hz, hk.f0, hk.e0.trans hf.symm, he.trans hk.e1, hk.m0, hk.m1, hk.cp, hk.lk, hk.lr, hk.lv, hk.vs, h1⟩
structure Same (h g : Hp) : Prop where
 m0 : g.m0 = h.m0
 m1 : g.m1 = h.m1
 aF : g.aF = h.aF
 split : g.z0.e = h.z0.e
theorem Same.refl (h : Hp) : Same h h := ⟨rfl, rfl, rfl, rfl⟩
theorem Same.trans {a b c : Hp} (h1 : Same a b) (h2 : Same b c) : Same a c := ⟨h2.m0.trans h1.m0, h2.m1.trans h1.m1, h2.aF.trans h1.aF, h2.split.trans h1.split⟩
theorem Ce {h : Hp} {i : Nat} {z : Zn} (he : z.e = (h.zone i).e) : Same h (h.iL i z) ∧ (h.iL i z).ls = h.ls ∧ (h.iL i z).live = h.live := by
 unfold Hp.iL
 unfold Hp.zone at he
 split
 ·rename_i hi
  rw [if_pos hi] at he
  exact ⟨⟨rfl, rfl, rfl, he⟩, rfl, rfl⟩
 ·exact ⟨⟨rfl, rfl, rfl, rfl⟩, rfl, rfl⟩
theorem dW.fits {h : Hp} (hk : dW h) {a o : Nat} (hb : bY 0 256 a o) : bY (h.zone (h.iD a)).f (h.zone (h.iD a)).e a o := by
 obtain ⟨h1, h2, h3, h4⟩ := hb
 unfold Hp.iD
 by_cases hlt : a < h.z0.e
 ·rw [if_pos hlt]
  have e : h.zone 0 = h.z0 := if_pos rfl
  rw [e, hk.f0]
  exact ⟨h1, by omega, hlt, h4⟩
 ·rw [if_neg hlt]
  have e : h.zone 1 = h.z1 := if_neg (by omega)
  rw [e, hk.e1, ← hk.e0]
  exact ⟨h1, by omega, h3, h4⟩
theorem dW.iE {h : Hp} (hk : dW h) {a o : Nat} (hb : bY 0 256 a o) (hd : ∀ p, cnt h.all p + hit ⟨a, o, 0⟩ p ≤ 1) :
  dW (h.iE a o) ∧ (∀ p, cnt (h.iE a o).all p = cnt h.all p + hit ⟨a, o, 0⟩ p) ∧ Same h (h.iE a o) ∧ (h.iE a o).ls = h.ls ∧ (h.iE a o).live = h.live := by
 have hz := hk.zone (h.iD a)
 have hfit := hk.fits hb
 have hap : ∀ x ∈ (h.zone (h.iD a)).l, apartB a o x := fun x hx => dN fun p h1 h2 => by
  have g1 := hd p
  have g2 := zC h (h.iD a) p
  have g3 := iW.2 (show eP (h.zone (h.iD a)).l p from ⟨x, hx, h2⟩)
  have g4 : hit ⟨a, o, 0⟩ p = 1 := jE.2 h1
  omega
 have hc : ∀ p, cnt (h.iE a o).all p = cnt h.all p + hit ⟨a, o, 0⟩ p := fun p => by
  have g1 := Fv h (h.iD a) ((h.zone (h.iD a)).back a o) p
  have g2 := OU hz hfit hap 0 p
  unfold Hp.iE
  omega
 have hs := Ce (h := h) (i := h.iD a) (z := (h.zone (h.iD a)).back a o) rfl
 exact ⟨hk.iL _ (Zn.oN hz hfit hap).1 rfl rfl (fun p => by have := hc p; unfold Hp.iE at this; rw [this]; exact hd p), hc, hs.1, hs.2.1, hs.2.2⟩
theorem Pz {z : Zn} (hz : z.ok) : szB z.l ≤ 256 := by
 have h1 : ∀ b ∈ z.l, b.fin ≤ 256 := fun b hb => by
  have h2 := (hz.2.fit b hb).1
  have h3 := pU hz.1.e16 h2
  have h4 := hz.1.e2
  unfold Bk.fin
  omega
 rw [← MC h1]
 have h5 : ∀ n, sumTo (cnt z.l) n ≤ n := fun n => by
  induction n with
  | zero => exact Nat.le_refl _
  | succ n ih =>
   have := kL (kM hz.2.sep) n
   rw [sumTo]
   omega
 exact h5 256
structure MV (h : Hp) (order : Nat) (h' : Hp) (a : Nat) : Prop where
 ok : dW h'
 fit : bY 0 256 a order
 c : ∀ t p, cnt h'.all p + hit ⟨a, order, t⟩ p = cnt h.all p
 same : Same h h'
 live : h'.live = h.live
theorem dW.jU {h h' : Hp} (hk : dW h) {i order t hd a : Nat} (ho : order ≤ 4) (ht : t < 3) (hi : i < 2) (he : h.jU i order t hd = some (h', a)) :
  MV h order h' a ∧ h'.ls = h.ls ∧ (a < h.z0.e ↔ i = 0) := by
 unfold Hp.jU at he
 split at he
 ·cases he
 ·cases hz : (h.zone i).take order t with
  | none => rw [hz] at he; cases he
  | some r =>
   obtain ⟨z', a'⟩ := r
   rw [hz] at he
   simp only [Option.some.injEq, Prod.mk.injEq] at he
   obtain ⟨rfl, rfl⟩ := he
   have AZ := hk.zone i
   have hex : ∃ b ∈ (h.zone i).l, order ≤ b.o := Classical.byContradiction fun hn => by
    rw [Zn.BL hn] at hz; cases hz
   obtain ⟨z2, a2, h1, hT⟩ := Zn.BK AZ ho ht hex
   rw [hz] at h1
   simp only [Option.some.injEq, Prod.mk.injEq] at h1
   obtain ⟨rfl, rfl⟩ := h1
   have hc : ∀ t p, cnt (h.iL i z').all p + hit ⟨a', order, t⟩ p = cnt h.all p := fun t p => by
    have g1 := Fv h i z' p
    have g2 := OT AZ hT t p
    omega
   have hs := Ce (h := h) (i := i) (z := z') hT.e
   have hfit := hT.fit
   have hbound : bY 0 256 a' order ∧ (a' < h.z0.e ↔ i = 0) := by
    obtain ⟨g1, g2, g3, g4⟩ := hfit
    unfold Hp.zone at g2 g3
    by_cases hi0 : i = 0
    ·rw [if_pos hi0] at g2 g3
     have := hk.o0.1.e2
     exact ⟨⟨g1, by omega, by omega, g4⟩, fun _ => hi0, fun _ => g3⟩
    ·rw [if_neg hi0] at g2 g3
     have := hk.e1
     have := hk.e0
     exact ⟨⟨g1, by omega, by omega, g4⟩, fun h => by omega, fun h => absurd h hi0⟩
   exact ⟨⟨hk.iL i hT.ok hT.f hT.e (fun p => by have := hc 0 p; have := hk.one p; omega), hbound.1, hc, hs.1, hs.2.2⟩, hs.2.1, hbound.2⟩
end
section
theorem IY (l m : List Ls) : lsB (l ++ m) = lsB l ++ lsB m := by
 induction l with
 | nil => rfl
 | cons x l ih => rw [List.cons_append, lsB, lsB, ih, List.append_assoc]
theorem iH (l m : List Nat) (q : Nat) : cnt (jJ (l ++ m)) q = cnt (jJ l) q + cnt (jJ m) q := by
 unfold jJ
 rw [List.map_append, bJ]
theorem xU (p q : Nat) : cnt (jJ [p]) q = hit ⟨p, 0, 0⟩ q := rfl
theorem jA (l m : List Ls) (q : Nat) : cnt (lsB (l ++ m)) q = cnt (lsB l) q + cnt (lsB m) q := by rw [IY, bJ]
theorem fQ (x : Ls) (l : List Ls) (q : Nat) : cnt (lsB (x :: l)) q = cnt (jJ x.p) q + cnt (lsB l) q := by rw [lsB, bJ]
theorem zD {l : List Ls} {i : Nat} (hi : i < l.length) : l = l.take i ++ l[i] :: l.drop (i + 1) := by
 rw [← List.drop_eq_getElem_cons hi, List.take_append_drop]
theorem qH {l : List Ls} {i : Nat} (hi : i < l.length) (x : Ls) (q : Nat) : cnt (lsB (l.set i x)) q + cnt (jJ l[i].p) q = cnt (lsB l) q + cnt (jJ x.p) q := by
 have h1 : l.set i x = l.take i ++ x :: l.drop (i + 1) := by rw [List.set_eq_take_append_cons_drop, if_pos hi]
 conv => rhs; rw [zD hi]
 rw [h1, jA, jA, fQ, fQ]
 omega
theorem rX {l : List Ls} {i : Nat} (hi : i < l.length) (q : Nat) : cnt (lsB (l.eraseIdx i)) q + cnt (jJ l[i].p) q = cnt (lsB l) q := by
 conv => rhs; rw [zD hi]
 rw [List.eraseIdx_eq_take_drop_succ, jA, jA, fQ]
 omega
theorem xW (l : List Ls) (i : Nat) (x : Ls) (q : Nat) : cnt (lsB (l.take i ++ x :: l.drop i)) q = cnt (lsB l) q + cnt (jJ x.p) q := by
 conv => rhs; rw [← List.take_append_drop i l]
 rw [jA, jA, fQ]
 omega
theorem cnt_push (ls : List Ls) (l : Ls) (p q : Nat) : cnt (lsB (bD ls l p)) q = cnt (lsB ls) q + hit ⟨p, 0, 0⟩ q := by
 unfold bD
 split
 ·rename_i x hx
  obtain ⟨hi, hxi⟩ := List.getElem?_eq_some_iff.1 hx
  split
  ·have h := qH hi { x with p := x.p ++ [p] } q
   rw [hxi] at h
   simp only [iH, xU] at h
   omega
  ·rw [xW]
   rfl
 ·rw [xW]
  rfl

def jL (ls : List Ls) : Prop := ls.Pairwise fun a b => a.key < b.key
theorem PD (ls : List Ls) (k : Nat) : iP ls k ≤ ls.length := by
 unfold iP
 exact (List.takeWhile_prefix _).length_le
theorem wK {ls : List Ls} {k : Nat} : ∀ x ∈ ls.take (iP ls k), x.key < k := by
 intro x hx
 unfold iP at hx
 rw [yL] at hx
 exact of_decide_eq_true (Iq (p := fun l : Ls => decide (l.key < k)) hx)
theorem qW {ls : List Ls} (h : jL ls) {k : Nat} : ∀ x ∈ ls.drop (iP ls k), k ≤ x.key := by
 intro x hx
 unfold iP at hx
 rw [drop_tw] at hx
 induction ls with
 | nil => simp at hx
 | cons y ls ih =>
  obtain ⟨h1, h2⟩ := List.pairwise_cons.1 h
  by_cases hy : y.key < k
  ·rw [List.dropWhile_cons_of_pos (by simpa using hy)] at hx
   exact ih h2 hx
  ·rw [List.dropWhile_cons_of_neg (by simpa using hy), List.mem_cons] at hx
   rcases hx with rfl | hx
   ·omega
   ·have := h1 x hx; omega
theorem zF {ls : List Ls} (h : jL ls) {i : Nat} (hi : i < ls.length) {x : Ls} (hx : x.key = ls[i].key) : jL (ls.set i x) := by
 unfold jL at *
 rw [gN] at *
 intro a b ha hb hab
 rw [List.length_set] at ha hb
 rw [List.getElem_set, List.getElem_set]
 have h1 := h a b ha hb hab
 by_cases e1 : i = a
 ·subst e1
  rw [if_pos rfl, if_neg (by omega), hx]
  exact h1
 ·rw [if_neg e1]
  by_cases e2 : i = b
  ·subst e2
   rw [if_pos rfl, hx]
   exact h1
  ·rw [if_neg e2]
   exact h1
theorem Fz {ls : List Ls} (h : jL ls) {x : Ls} (hn : ∀ y ∈ ls, y.key ≠ x.key) : jL (ls.take (iP ls x.key) ++ x :: ls.drop (iP ls x.key)) := by
 unfold jL
 rw [List.pairwise_append]
 refine ⟨h.sublist (List.take_sublist _ _), List.pairwise_cons.2 ⟨fun y hy => ?_, h.sublist (List.drop_sublist _ _)⟩, fun a ha b hb => ?_⟩
 ·have h1 := qW h y hy
  have h2 := hn y (List.mem_of_mem_drop hy)
  omega
 ·have h1 := wK a ha
  rw [List.mem_cons] at hb
  rcases hb with rfl | hb
  ·exact h1
  ·have h2 := qW h b hb
   omega
theorem Ky {ls : List Ls} (h : jL ls) {x : Ls} (hx : x ∈ ls) : ls[iP ls x.key]? = some x := by
 have hm : x ∈ ls.drop (iP ls x.key) := by
  have := hx
  rw [← List.take_append_drop (iP ls x.key) ls, List.mem_append] at this
  rcases this with h1 | h1
  ·have := wK x h1; omega
  ·exact h1
 cases hd : ls.drop (iP ls x.key) with
 | nil => rw [hd] at hm; simp at hm
 | cons y r =>
  have hy : ls[iP ls x.key]? = some y := by
   have := congrArg (·[0]?) hd
   simpa [List.getElem?_drop] using this
  rw [hd, List.mem_cons] at hm
  rcases hm with rfl | hm
  ·exact hy
  ·have h1 : (ls.drop (iP ls x.key)).Pairwise fun a b => a.key < b.key := h.sublist (List.drop_sublist _ _)
   rw [hd] at h1
   have h2 := (List.pairwise_cons.1 h1).1 x hm
   have h3 := qW h (k := x.key) y (by rw [hd]; simp)
   omega
theorem mJ {ls : List Ls} (h : jL ls) {k : Nat} (hm : ∀ y, ls[iP ls k]? = some y → y.key ≠ k) : ∀ y ∈ ls, y.key ≠ k := by
 intro y hy e
 subst e
 exact hm y (Ky h hy) rfl
theorem key_inj {a b : Ls} (ha : a.z < 2 ∧ a.t < 3) (hb : b.z < 2 ∧ b.t < 3) (h : a.key = b.key) : a.c = b.c ∧ a.z = b.z ∧ a.t = b.t := by
 unfold Ls.key at h
 omega

def Kz (N aF split : Nat) (l : Ls) : Prop := l.c < aF ∧ l.z < 2 ∧ l.t < 3 ∧ 0 < l.p.length ∧ l.p.length ≤ N ∧ ∀ p ∈ l.p, p < 256 ∧ (p < split ↔ l.z = 0)
theorem jW {ls : List Ls} (h : jL ls) (l : Ls) (p : Nat) : jL (bD ls l p) := by
 unfold bD
 split
 ·rename_i x hx
  obtain ⟨hi, hxi⟩ := List.getElem?_eq_some_iff.1 hx
  split
  ·exact zF h hi (by rw [hxi]; rfl)
  ·rename_i hne
   exact Fz (x := { l with p := [p] }) h (mJ h fun y hy => by
    change ls[iP ls l.key]? = some y at hy
    rw [hx] at hy
    obtain rfl := gP hy
    exact hne)
 ·rename_i hx
  exact Fz (x := { l with p := [p] }) h (mJ h fun y hy => by
   change ls[iP ls l.key]? = some y at hy
   rw [hx] at hy
   cases hy)
theorem DL {ls : List Ls} {N M aF split : Nat} (h : ∀ x ∈ ls, Kz N aF split x) {l : Ls} {p : Nat} (hl : l.c < aF ∧ l.z < 2 ∧ l.t < 3) (hp : p < 256 ∧ (p < split ↔ l.z = 0)) (hNM : N ≤ M) (hM : 1 ≤ M) (hx : ∀ x ∈ ls, x.key = l.key → x.p.length + 1 ≤ M) : ∀ x ∈ bD ls l p, Kz M aF split x := by
 have up : ∀ x ∈ ls, Kz M aF split x := fun x hx => by
  obtain ⟨h1, h2, h3, h4, h5, h6⟩ := h x hx
  exact ⟨h1, h2, h3, h4, by omega, h6⟩
 have new : Kz M aF split { l with p := [p] } := ⟨hl.1, hl.2.1, hl.2.2, by simp, by simpa using hM, fun q hq => by
  obtain rfl : q = p := by simpa using hq
  exact hp⟩
 intro y hy
 unfold bD at hy
 split at hy
 ·rename_i x hxe
  obtain ⟨hi, hxi⟩ := List.getElem?_eq_some_iff.1 hxe
  have hxm : x ∈ ls := by rw [← hxi]; exact gL hi
  split at hy
  ·rename_i hk
   rcases List.mem_or_eq_of_mem_set hy with hy | rfl
   ·exact up y hy
   ·obtain ⟨h1, h2, h3, h4, h5, h6⟩ := h x hxm
    have hkk := key_inj ⟨h2, h3⟩ ⟨hl.2.1, hl.2.2⟩ hk
    refine ⟨h1, h2, h3, by simp, by have := hx x hxm hk; simpa using this, fun q hq => ?_⟩
    simp only [List.mem_append, List.mem_singleton] at hq
    rcases hq with hq | rfl
    ·exact h6 q hq
    ·exact ⟨hp.1, by rw [hkk.2.1]; exact hp.2⟩
  ·rw [List.mem_append, List.mem_cons] at hy
   rcases hy with hy | rfl | hy
   ·exact up y (List.mem_of_mem_take hy)
   ·exact new
   ·exact up y (List.mem_of_mem_drop hy)
 ·rw [List.mem_append, List.mem_cons] at hy
  rcases hy with hy | rfl | hy
  ·exact up y (List.mem_of_mem_take hy)
  ·exact new
  ·exact up y (List.mem_of_mem_drop hy)
end
section
theorem dW.push {h : Hp} (hk : dW h) {l : Ls} {p : Nat} (hl : l.c < h.aF ∧ l.z < 2 ∧ l.t < 3) (hp : p < 256 ∧ (p < h.z0.e ↔ l.z = 0)) (h8 : ∀ x ∈ h.ls, x.key = l.key → x.p.length + 1 ≤ 8) (hd : ∀ q, cnt h.all q + hit ⟨p, 0, 0⟩ q ≤ 1) :
  dW { h with ls := bD h.ls l p } ∧ ∀ q, cnt ({ h with ls := bD h.ls l p } : Hp).all q = cnt h.all q + hit ⟨p, 0, 0⟩ q := by
 have hc : ∀ q, cnt ({ h with ls := bD h.ls l p } : Hp).all q = cnt h.all q + hit ⟨p, 0, 0⟩ q := fun q => by
  rw [dH, dH]
  simp only
  rw [cnt_push]
  omega
 exact ⟨⟨hk.o0, hk.o1, hk.f0, hk.e0, hk.e1, hk.m0, hk.m1, hk.cp, jW hk.lk l p, DL (N := 8) (M := 8) hk.lr hl hp (Nat.le_refl _) (by omega) h8, hk.lv, hk.vs, fun q => by rw [hc]; exact hd q⟩, hc⟩

def uX (ls : List Ls) (k : Nat) : Nat := match ls.find? fun x => decide (x.key = k) with
 | some x => x.p.length
 | none => 0
theorem FH {ls : List Ls} (h : jL ls) {x : Ls} (hx : x ∈ ls) : uX ls x.key = x.p.length := by
 unfold uX
 have : ls.find? (fun y => decide (y.key = x.key)) = some x := by
  induction ls with
  | nil => simp at hx
  | cons y ls ih =>
   obtain ⟨h1, h2⟩ := List.pairwise_cons.1 h
   rw [List.mem_cons] at hx
   rcases hx with rfl | hx
   ·rw [List.find?_cons_of_pos (by simp)]
   ·rw [List.find?_cons_of_neg (by have := h1 x hx; simp; omega)]
    exact ih h2 hx
 rw [this]
theorem zG {ls : List Ls} {l : Ls} {p : Nat} (h : jL ls) : ∀ x ∈ bD ls l p, x.key = l.key → x.p.length = uX ls l.key + 1 := by
 intro x hx hkey
 have hr := jW h l p
 unfold bD at hx hr
 split at hx
 ·rename_i y hy
  obtain ⟨hi, hyi⟩ := List.getElem?_eq_some_iff.1 hy
  have hym : y ∈ ls := by rw [← hyi]; exact gL hi
  by_cases hk : y.key = l.key
  ·rw [if_pos hk] at hx
   have hl := FH h hym
   rw [hk] at hl
   rcases List.mem_or_eq_of_mem_set hx with hm | rfl
   ·obtain ⟨j, hj, rfl⟩ := List.getElem_of_mem hx
    rw [List.length_set] at hj
    rw [List.getElem_set] at hkey ⊢
    by_cases he : iP ls l.key = j
    ·rw [if_pos he] at hkey ⊢
     simp [hl]
    ·rw [if_neg he] at hkey
     exfalso
     rcases Nat.lt_or_gt_of_ne he with hlt | hgt
     ·have := List.pairwise_iff_getElem.1 h _ _ hi hj hlt
      rw [hyi, hk, hkey] at this
      omega
     ·have := List.pairwise_iff_getElem.1 h _ _ hj hi hgt
      rw [hyi, hk, hkey] at this
      omega
   ·simp [hl]
  ·rw [if_neg hk] at hx
   have hmiss := mJ h (k := l.key) fun w hw => by rw [hy] at hw; obtain rfl := gP hw; exact hk
   have hz : uX ls l.key = 0 := by
    unfold uX
    rw [List.find?_eq_none.2 (fun w hw => by simpa using hmiss w hw)]
   rw [List.mem_append, List.mem_cons] at hx
   rcases hx with hm | rfl | hm
   ·exact absurd hkey (hmiss x (List.mem_of_mem_take hm))
   ·rw [hz]; rfl
   ·exact absurd hkey (hmiss x (List.mem_of_mem_drop hm))
 ·rename_i hy
  have hmiss := mJ h (k := l.key) fun w hw => by rw [hy] at hw; cases hw
  have hz : uX ls l.key = 0 := by
   unfold uX
   rw [List.find?_eq_none.2 (fun w hw => by simpa using hmiss w hw)]
  rw [List.mem_append, List.mem_cons] at hx
  rcases hx with hm | rfl | hm
  ·exact absurd hkey (hmiss x (List.mem_of_mem_take hm))
  ·rw [hz]; rfl
  ·exact absurd hkey (hmiss x (List.mem_of_mem_drop hm))

theorem dW.fill {l : Ls} {hd : Nat} : ∀ (n : Nat) {h : Hp}, dW h → (l.c < h.aF ∧ l.z < 2 ∧ l.t < 3) → (∀ x ∈ h.ls, x.key = l.key → x.p.length + n ≤ 8) → n ≤ 8 →
  dW (h.fill l hd n) ∧ (∀ q, cnt (h.fill l hd n).all q = cnt h.all q) ∧ Same h (h.fill l hd n) ∧ (h.fill l hd n).live = h.live
 | 0, h, hk, _, _, _ => ⟨hk, fun _ => rfl, Same.refl h, rfl⟩
 | n + 1, h, hk, hl, h8, hn => by
  unfold Hp.fill
  cases ht : h.jU l.z 0 l.t hd with
  | none => exact ⟨hk, fun _ => rfl, Same.refl h, rfl⟩
  | some r =>
   obtain ⟨h', a⟩ := r
   obtain ⟨hT, hls, hz⟩ := hk.jU (by omega) hl.2.2 hl.2.1 ht
   have hl' : l.c < h'.aF ∧ l.z < 2 ∧ l.t < 3 := by rw [hT.same.aF]; exact hl
   obtain ⟨g1, g2⟩ := hT.ok.push (l := l) (p := a) hl' ⟨hT.fit.2.2.1, by rw [hT.same.split]; exact hz⟩ (fun x hx hk => by rw [hls] at hx; have := h8 x hx hk; omega) (fun q => by rw [hT.c 0 q]; exact hk.one q)
   obtain ⟨k1, k2, k3, k4⟩ := dW.fill n (h := { h' with ls := bD h'.ls l a }) g1 hl' (fun x hx hkey => by
    have := zG hT.ok.lk x hx hkey
    have h2 : uX h'.ls l.key + (n + 1) ≤ 8 := by
     unfold uX
     cases hf : h'.ls.find? fun x => decide (x.key = l.key) with
     | none => simp only; omega
     | some y =>
      have hy := List.mem_of_find?_eq_some hf
      have hyk := List.find?_some hf
      rw [hls] at hy
      exact h8 y hy (of_decide_eq_true hyk)
    omega) (by omega)
   exact ⟨k1, fun q => by rw [k2, g2, hT.c 0 q], Same.trans (b := { h' with ls := bD h'.ls l a }) (Same.trans hT.same ⟨rfl, rfl, rfl, rfl⟩) k3, k4.trans hT.live⟩
end
section
theorem oG {p : Nat} (h : p < 256) : bY 0 256 p 0 := ⟨by omega, by omega, h, by simp [Nat.mod_one]⟩
theorem YX (a o t t' p : Nat) : hit ⟨a, o, t⟩ p = hit ⟨a, o, t'⟩ p := rfl
theorem MW {ls : List Ls} {k n : Nat} (hm : ∀ y ∈ ls, y.key ≠ k) : ∀ x ∈ ls, x.key = k → x.p.length + n ≤ 8 := fun x hx hk => absurd hk (hm x hx)

theorem dW.filled {h h' : Hp} (hk : dW h) {l : Ls} {hd a : Nat} (hl : l.c < h.aF ∧ l.z < 2 ∧ l.t < 3) (hm : ∀ y ∈ h.ls, y.key ≠ l.key) (he : (h.jU l.z 0 l.t hd).map (fun r => (r.1.fill l hd 3, r.2)) = some (h', a)) : MV h 0 h' a := by
 cases ht : h.jU l.z 0 l.t hd with
 | none => rw [ht] at he; cases he
 | some r =>
  obtain ⟨g, b⟩ := r
  rw [ht] at he
  simp only [Option.map_some, Option.some.injEq, Prod.mk.injEq] at he
  obtain ⟨rfl, rfl⟩ := he
  obtain ⟨hT, hls, hz⟩ := hk.jU (by omega) hl.2.2 hl.2.1 ht
  obtain ⟨k1, k2, k3, k4⟩ := dW.fill (l := l) (hd := hd) 3 hT.ok (by rw [hT.same.aF]; exact hl) (MW (by rw [hls]; exact hm)) (by omega)
  exact ⟨k1, hT.fit, fun t p => by rw [k2]; exact hT.c t p, hT.same.trans k3, k4.trans hT.live⟩

theorem dW.single {h h' : Hp} (hk : dW h) {l : Ls} {hd a : Nat} (hl : l.c < h.aF ∧ l.z < 2 ∧ l.t < 3) (he : h.single l hd = some (h', a)) : MV h 0 h' a := by
 unfold Hp.single at he
 cases hx : h.ls[iP h.ls l.key]? with
 | none =>
  rw [hx] at he
  exact hk.filled hl (mJ hk.lk fun y hy => by rw [hx] at hy; cases hy) he
 | some x =>
  rw [hx] at he
  simp only at he
  obtain ⟨hi, hxi⟩ := List.getElem?_eq_some_iff.1 hx
  by_cases hkey : x.key = l.key
  ·rw [if_pos hkey] at he
   simp only [Option.some.injEq, Prod.mk.injEq] at he
   obtain ⟨rfl, rfl⟩ := he
   have hxm : x ∈ h.ls := by rw [← hxi]; exact gL hi
   obtain ⟨q1, q2, q3, q4, q5, q6⟩ := hk.lr x hxm
   have hne : x.p ≠ [] := fun e => by rw [e] at q4; simp at q4
   obtain ⟨ys, y, hy⟩ : ∃ ys y, x.p = ys ++ [y] := ⟨x.p.dropLast, x.p.getLast hne, (List.dropLast_concat_getLast hne).symm⟩
   have hlast : x.p.getLastD 0 = y := by rw [hy]; simp
   have hdrop : x.p.dropLast = ys := by rw [hy]; simp
   have hlen : x.p.length = ys.length + 1 := by rw [hy]; simp
   have hym : y ∈ x.p := by rw [hy]; simp
   rw [hlast, hdrop, hlen]
   have hpg : ∀ q, cnt (jJ x.p) q = cnt (jJ ys) q + hit ⟨y, 0, 0⟩ q := fun q => by rw [hy, iH]; rfl
   have hcl : ∀ q, cnt (lsB (if ys.length + 1 = 1 then h.ls.eraseIdx (iP h.ls l.key) else h.ls.set (iP h.ls l.key) { x with p := ys })) q + hit ⟨y, 0, 0⟩ q = cnt (lsB h.ls) q := fun q => by
    split
    ·rename_i h1
     have := rX hi q
     rw [hxi, hpg] at this
     have hz : ys = [] := List.eq_nil_of_length_eq_zero (by omega)
     rw [hz] at this
     simp only [jJ, List.map_nil, cnt] at this
     omega
    ·have := qH hi { x with p := ys } q
     rw [hxi, hpg] at this
     simp only at this
     omega
   have hca : ∀ t q, cnt ({ h with ls := if ys.length + 1 = 1 then h.ls.eraseIdx (iP h.ls l.key) else h.ls.set (iP h.ls l.key) { x with p := ys } } : Hp).all q + hit ⟨y, 0, t⟩ q = cnt h.all q := fun t q => by
    rw [YX y 0 t 0, dH, dH]
    simp only
    have := hcl q
    omega
   refine ⟨⟨hk.o0, hk.o1, hk.f0, hk.e0, hk.e1, hk.m0, hk.m1, hk.cp, ?_, ?_, hk.lv, hk.vs, fun q => by have := hca 0 q; have := hk.one q; omega⟩, oG (q6 y hym).1, hca, ⟨rfl, rfl, rfl, rfl⟩, rfl⟩
   ·simp only
    split
    ·exact hk.lk.sublist (List.eraseIdx_sublist _ _)
    ·exact zF hk.lk hi (by rw [hxi]; rfl)
   ·simp only
    intro w hw
    split at hw
    ·exact hk.lr w ((List.eraseIdx_sublist _ _).subset hw)
    ·rename_i h1
     rcases List.mem_or_eq_of_mem_set hw with hw | rfl
     ·exact hk.lr w hw
     ·exact ⟨q1, q2, q3, by simp only; omega, by simp only; omega, fun q hq => q6 q (by rw [hy]; simp [hq])⟩
  ·rw [if_neg hkey] at he
   exact hk.filled hl (mJ hk.lk fun y hy => by rw [hx] at hy; obtain rfl := gP hy; exact hkey) he

theorem dW.ask {h h' : Hp} (hk : dW h) {cpu i order t a : Nat} {urgent low : Bool} (hc : cpu < h.aF) (hi : i < 2) (ho : order ≤ 4) (ht : t < 3) (he : h.ask cpu i order t urgent low = some (h', a)) : MV h order h' a := by
 unfold Hp.ask at he
 split at he
 ·rename_i h0
  subst h0
  exact hk.single ⟨hc, hi, ht⟩ he
 ·exact (hk.jU ho ht hi he).1
theorem dW.attempt {h h' : Hp} (hk : dW h) {cpu order t a : Nat} {urgent low : Bool} (hc : cpu < h.aF) (ho : order ≤ 4) (ht : t < 3) (he : h.attempt cpu order t urgent low = some (h', a)) : MV h order h' a := by
 unfold Hp.attempt at he
 split at he
 ·exact hk.ask hc (by omega) ho ht he
 ·cases h1 : h.ask cpu 1 order t urgent low with
  | some r =>
   rw [h1] at he
   obtain rfl := gP he
   exact hk.ask hc (by omega) ho ht h1
  | none =>
   rw [h1] at he
   exact hk.ask hc (by omega) ho ht he

theorem PE (h : Hp) (m : List Ls) (a o : Nat) : ({ h with ls := m } : Hp).iE a o = { h.iE a o with ls := m } := by
 unfold Hp.iE Hp.iL Hp.zone Hp.iD
 simp only
 split <;> split <;> rfl
theorem jB : ∀ (ps : List Nat) (h : Hp) (m : List Ls), aV { h with ls := m } ps = { aV h ps with ls := m }
 | [], _, _ => rfl
 | p :: ps, h, m => by rw [aV, aV, PE, jB ps]
theorem wL : ∀ (ls : List Ls) (h : Hp) (m : List Ls), bQ { h with ls := m } ls = { bQ h ls with ls := m }
 | [], _, _ => rfl
 | l :: ls, h, m => by rw [bQ, bQ, jB, wL ls]
theorem dW.aV : ∀ (ps : List Nat) {h : Hp}, dW h → (∀ p ∈ ps, p < 256) → (∀ q, cnt h.all q + cnt (jJ ps) q ≤ 1) →
  dW (aV h ps) ∧ (∀ q, cnt (aV h ps).all q = cnt h.all q + cnt (jJ ps) q) ∧ Same h (aV h ps) ∧ (aV h ps).ls = h.ls ∧ (aV h ps).live = h.live
 | [], h, hk, _, _ => ⟨hk, fun q => by simp [Go.Proofs.YtcmpmobhongkiaaGreatDoor.aV, jJ, cnt], Same.refl h, rfl, rfl⟩
 | p :: ps, h, hk, hp, hd => by
  have hcons : ∀ q, cnt (jJ (p :: ps)) q = hit ⟨p, 0, 0⟩ q + cnt (jJ ps) q := fun _ => rfl
  obtain ⟨g1, g2, g3, g4, g5⟩ := hk.iE (oG (hp p (by simp))) (fun q => by have := hd q; rw [hcons] at this; omega)
  obtain ⟨k1, k2, k3, k4, k5⟩ := dW.aV ps g1 (fun q hq => hp q (by simp [hq])) (fun q => by rw [g2]; have := hd q; rw [hcons] at this; omega)
  exact ⟨k1, fun q => by have := k2 q; rw [g2] at this; rw [hcons]; show cnt (Go.Proofs.YtcmpmobhongkiaaGreatDoor.aV (h.iE p 0) ps).all q = _; omega, g3.trans k3, k4.trans g4, k5.trans g5⟩
theorem dW.bQ : ∀ (ls : List Ls) {h : Hp}, dW h → (∀ l ∈ ls, ∀ p ∈ l.p, p < 256) → (∀ q, cnt h.all q + cnt (lsB ls) q ≤ 1) →
  dW (bQ h ls) ∧ (∀ q, cnt (bQ h ls).all q = cnt h.all q + cnt (lsB ls) q) ∧ Same h (bQ h ls) ∧ (bQ h ls).ls = h.ls ∧ (bQ h ls).live = h.live
 | [], h, hk, _, _ => ⟨hk, fun q => by simp [Go.Proofs.YtcmpmobhongkiaaGreatDoor.bQ, lsB, cnt], Same.refl h, rfl, rfl⟩
 | l :: ls, h, hk, hp, hd => by
  obtain ⟨g1, g2, g3, g4, g5⟩ := hk.aV l.p (hp l (by simp)) (fun q => by have := hd q; rw [fQ] at this; omega)
  obtain ⟨k1, k2, k3, k4, k5⟩ := dW.bQ ls g1 (fun m hm => hp m (by simp [hm])) (fun q => by rw [g2]; have := hd q; rw [fQ] at this; omega)
  exact ⟨k1, fun q => by have := k2 q; rw [g2] at this; rw [fQ]; show cnt (Go.Proofs.YtcmpmobhongkiaaGreatDoor.bQ (Go.Proofs.YtcmpmobhongkiaaGreatDoor.aV h l.p) ls).all q = _; omega, g3.trans k3, k4.trans g4, k5.trans g5⟩
theorem dW.DN {h : Hp} (hk : dW h) : dW { h with ls := [] } :=
 ⟨hk.o0, hk.o1, hk.f0, hk.e0, hk.e1, hk.m0, hk.m1, hk.cp, List.Pairwise.nil, fun l hl => by simp at hl, hk.lv, hk.vs, fun q => by
  have h1 := hk.one q
  rw [dH] at h1 ⊢
  simp only [lsB, cnt]
  omega⟩
theorem dW.drain {h : Hp} (hk : dW h) : dW h.drain ∧ (∀ q, cnt h.drain.all q = cnt h.all q) ∧ Same h h.drain ∧ h.drain.ls = [] ∧ h.drain.live = h.live := by
 have e : h.drain = Go.Proofs.YtcmpmobhongkiaaGreatDoor.bQ { h with ls := [] } h.ls := (wL h.ls h []).symm
 have hc : ∀ q, cnt ({ h with ls := [] } : Hp).all q + cnt (lsB h.ls) q = cnt h.all q := fun q => by
  rw [dH, dH]
  simp only [lsB, cnt]
  omega
 obtain ⟨k1, k2, k3, k4, k5⟩ := hk.DN.bQ h.ls (fun l hl p hp => ((hk.lr l hl).2.2.2.2.2 p hp).1) (fun q => by rw [hc]; exact hk.one q)
 rw [e]
 exact ⟨k1, fun q => by rw [k2, hc], Same.trans (b := { h with ls := [] }) ⟨rfl, rfl, rfl, rfl⟩ k3, k4, k5⟩
end
section
theorem wM (l : List Bk) (b : Bk) (q : Nat) : cnt (bG l b) q = cnt l q + hit b q := by
 unfold bG
 conv => rhs; rw [← List.take_append_drop (lb l b.a) l]
 rw [bJ, bJ, cnt]
 omega
theorem wO {l : List Bk} {i : Nat} (hi : i < l.length) (q : Nat) : cnt (l.eraseIdx i) q + hit l[i] q = cnt l q := by
 have h1 : l = l.take i ++ l[i] :: l.drop (i + 1) := by rw [← List.drop_eq_getElem_cons hi, List.take_append_drop]
 conv => rhs; rw [h1]
 rw [List.eraseIdx_eq_take_drop_succ, bJ, bJ, cnt]
 omega
theorem IZ {l : List Bk} (h : pK l) {b : Bk} (hn : ∀ x ∈ l, x.a ≠ b.a) : pK (bG l b) := by
 unfold pK bG
 rw [List.pairwise_append]
 refine ⟨h.sublist (List.take_sublist _ _), List.pairwise_cons.2 ⟨fun y hy => ?_, h.sublist (List.drop_sublist _ _)⟩, fun x hx y hy => ?_⟩
 ·have h1 := pV h y hy
  have h2 := hn y (List.mem_of_mem_drop hy)
  omega
 ·have h1 := uJ x hx
  rw [List.mem_cons] at hy
  rcases hy with rfl | hy
  ·exact h1
  ·have h2 := pV h y hy
   omega
theorem MX {l : List Bk} {b x : Bk} (h : x ∈ bG l b) : x = b ∨ x ∈ l := by
 unfold bG at h
 rw [List.mem_append, List.mem_cons] at h
 rcases h with h | rfl | h
 ·exact .inr (List.mem_of_mem_take h)
 ·exact .inl rfl
 ·exact .inr (List.mem_of_mem_drop h)
theorem PG (h : Hp) (p : Nat) : cnt h.live p ≤ cnt h.all p := by rw [dH]; omega

theorem dW.PI {g : Hp} (hk : dW g) {a o t : Nat} (hfit : bY 0 256 a o) (ht : t < 3) (hd : ∀ q, cnt g.all q + hit ⟨a, o, t⟩ q ≤ 1) :
  dW { g with live := bG g.live ⟨a, o, t⟩ } ∧ ∀ q, cnt ({ g with live := bG g.live ⟨a, o, t⟩ } : Hp).all q = cnt g.all q + hit ⟨a, o, t⟩ q := by
 have hc : ∀ q, cnt ({ g with live := bG g.live ⟨a, o, t⟩ } : Hp).all q = cnt g.all q + hit ⟨a, o, t⟩ q := fun q => by
  rw [dH, dH]
  simp only
  rw [wM]
  omega
 refine ⟨⟨hk.o0, hk.o1, hk.f0, hk.e0, hk.e1, hk.m0, hk.m1, hk.cp, hk.lk, hk.lr, fun b hb => ?_, IZ hk.vs fun x hx e => ?_, fun q => by rw [hc]; exact hd q⟩, hc⟩
 ·rcases MX hb with rfl | hb
  ·exact ⟨hfit, ht⟩
  ·exact hk.lv b hb
 ·have h1 := hd a
  have h2 := PG g a
  have hpo := dM o
  have hpx := dM x.o
  have h3 : 0 < cnt g.live a := iW.2 ⟨x, hx, by unfold inB; simp only at e; omega⟩
  have h4 : hit ⟨a, o, t⟩ a = 1 := jE.2 (by unfold inB; simp only; omega)
  omega

theorem dW.alloc {h h' : Hp} (hk : dW h) {cpu order t a : Nat} {urgent low : Bool} (hc : cpu < h.aF) (ho : order ≤ 4) (ht : t < 3) (he : h.alloc cpu order t urgent low = some (h', a)) :
  dW h' ∧ (∀ q, cnt h'.all q = cnt h.all q) ∧ Same h h' ∧ h'.live = bG h.live ⟨a, order, t⟩ ∧ bY 0 256 a order := by
 have key : ∃ g, MV h order g a ∧ h' = { g with live := bG g.live ⟨a, order, t⟩ } := by
  unfold Hp.alloc at he
  cases h1 : h.attempt cpu order t urgent low with
  | some r =>
   rw [h1] at he
   simp only [Option.some.injEq, Prod.mk.injEq] at he
   obtain ⟨rfl, rfl⟩ := he
   exact ⟨r.1, hk.attempt hc ho ht h1, rfl⟩
  | none =>
   rw [h1] at he
   simp only at he
   cases h2 : h.drain.attempt cpu order t urgent low with
   | none => rw [h2] at he; cases he
   | some r =>
    rw [h2] at he
    simp only [Option.some.injEq, Prod.mk.injEq] at he
    obtain ⟨rfl, rfl⟩ := he
    obtain ⟨d1, d2, d3, d4, d5⟩ := hk.drain
    have hT := d1.attempt (by rw [d3.aF]; exact hc) ho ht h2
    exact ⟨r.1, ⟨hT.ok, hT.fit, fun t p => by rw [hT.c, d2], d3.trans hT.same, hT.live.trans d5⟩, rfl⟩
 obtain ⟨g, hT, rfl⟩ := key
 obtain ⟨k1, k2⟩ := hT.ok.PI hT.fit ht (fun q => by rw [hT.c t q]; exact hk.one q)
 exact ⟨k1, fun q => by rw [k2, hT.c t q], Same.trans hT.same ⟨rfl, rfl, rfl, rfl⟩, by simp only; rw [hT.live], hT.fit⟩

theorem Ja {ls : List Ls} {l : Ls} {p : Nat} : ∀ x ∈ bD ls l p, x.key ≠ l.key → x ∈ ls := by
 intro x hx hne
 unfold bD at hx
 split at hx
 ·rename_i y hy
  split at hx
  ·rename_i hk
   rcases List.mem_or_eq_of_mem_set hx with hx | rfl
   ·exact hx
   ·exact absurd hk hne
  ·rw [List.mem_append, List.mem_cons] at hx
   rcases hx with hx | rfl | hx
   ·exact List.mem_of_mem_take hx
   ·exact absurd rfl hne
   ·exact List.mem_of_mem_drop hx
 ·rw [List.mem_append, List.mem_cons] at hx
  rcases hx with hx | rfl | hx
  ·exact List.mem_of_mem_take hx
  ·exact absurd rfl hne
  ·exact List.mem_of_mem_drop hx
theorem PK (ls : List Ls) (l : Ls) (p : Nat) : ∃ x ∈ bD ls l p, x.key = l.key := by
 unfold bD
 split
 ·rename_i y hy
  obtain ⟨hi, hyi⟩ := List.getElem?_eq_some_iff.1 hy
  split
  ·rename_i hk
   exact ⟨{ y with p := y.p ++ [p] }, List.mem_set hi _, hk⟩
  ·exact ⟨{ l with p := [p] }, by simp, rfl⟩
 ·exact ⟨{ l with p := [p] }, by simp, rfl⟩
theorem KE {ls : List Ls} (h : jL ls) (l : Ls) (p : Nat) : ∃ x, (bD ls l p)[iP (bD ls l p) l.key]? = some x ∧ x.key = l.key ∧ x.p.length = uX ls l.key + 1 := by
 obtain ⟨x, hx, hk⟩ := PK ls l p
 have h1 := Ky (jW h l p) hx
 rw [hk] at h1
 exact ⟨x, h1, hk, zG h x hx hk⟩
theorem KF {ls : List Ls} {k N : Nat} (h : ∀ x ∈ ls, x.p.length ≤ N) : uX ls k ≤ N := by
 unfold uX
 cases hf : ls.find? fun x => decide (x.key = k) with
 | none => exact Nat.zero_le _
 | some y => exact h y (List.mem_of_find?_eq_some hf)

theorem dW.give {h : Hp} (hk : dW h) {cpu p : Nat} (hc : cpu < h.aF) (hp : p < 256) (hd : ∀ q, cnt h.all q + hit ⟨p, 0, 0⟩ q ≤ 1) :
  dW (h.give cpu p) ∧ (∀ q, cnt (h.give cpu p).all q = cnt h.all q + hit ⟨p, 0, 0⟩ q) ∧ Same h (h.give cpu p) ∧ (h.give cpu p).live = h.live := by
 unfold Hp.give
 obtain ⟨t, ht⟩ : ∃ t, (h.zone (h.iD p)).y.getD ((p - (h.zone (h.iD p)).f) / 8) 0 = t := ⟨_, rfl⟩
 have ht3 : t < 3 := by
  rw [← ht]
  have hz := (hk.zone (h.iD p)).1.typ
  rw [List.getD_eq_getElem?_getD]
  cases hg : (h.zone (h.iD p)).y[(p - (h.zone (h.iD p)).f) / 8]? with
  | none => simp
  | some u => exact hz u (gM hg)
 rw [ht]
 have hz2 : h.iD p < 2 := by unfold Hp.iD; split <;> omega
 have hz3 : p < h.z0.e ↔ h.iD p = 0 := by unfold Hp.iD; split <;> simp_all
 obtain ⟨l, hl⟩ : ∃ l : Ls, l = ⟨cpu, h.iD p, t, []⟩ := ⟨_, rfl⟩
 have hlr : l.c < h.aF ∧ l.z < 2 ∧ l.t < 3 := by rw [hl]; exact ⟨hc, hz2, ht3⟩
 have hlz : p < 256 ∧ (p < h.z0.e ↔ l.z = 0) := by rw [hl]; exact ⟨hp, hz3⟩
 rw [← hl]
 simp only
 obtain ⟨x, hx, hxk, hxl⟩ := KE hk.lk l p
 rw [hx]
 simp only
 have hlen := KF (k := l.key) (fun x hx => (hk.lr x hx).2.2.2.2.1)
 by_cases h8 : 8 < x.p.length
 ·rw [if_pos h8]
  obtain ⟨hi, hxi⟩ := List.getElem?_eq_some_iff.1 hx
  have hxm : x ∈ bD h.ls l p := by rw [← hxi]; exact gL hi
  have h9 := DL (N := 8) (M := 9) hk.lr hlr hlz (by omega) (by omega) (fun y hy _ => by have := (hk.lr y hy).2.2.2.2.1; omega)
  obtain ⟨q1, q2, q3, q4, q5, q6⟩ := h9 x hxm
  have hpg : ∀ q, cnt (jJ x.p) q = cnt (jJ (x.p.take 4)) q + cnt (jJ (x.p.drop 4)) q := fun q => by rw [← iH, List.take_append_drop]
  have hcl : ∀ q, cnt (lsB ((bD h.ls l p).set (iP (bD h.ls l p) l.key) { x with p := x.p.drop 4 })) q + cnt (jJ (x.p.take 4)) q = cnt (lsB h.ls) q + hit ⟨p, 0, 0⟩ q := fun q => by
   have h1 := qH hi { x with p := x.p.drop 4 } q
   have h2 := cnt_push h.ls l p q
   rw [hxi, hpg] at h1
   simp only at h1
   omega
  have hca : ∀ q, cnt ({ h with ls := (bD h.ls l p).set (iP (bD h.ls l p) l.key) { x with p := x.p.drop 4 } } : Hp).all q + cnt (jJ (x.p.take 4)) q = cnt h.all q + hit ⟨p, 0, 0⟩ q := fun q => by
   rw [dH, dH]
   simp only
   have := hcl q
   omega
  have hk2 : dW { h with ls := (bD h.ls l p).set (iP (bD h.ls l p) l.key) { x with p := x.p.drop 4 } } := by
   refine ⟨hk.o0, hk.o1, hk.f0, hk.e0, hk.e1, hk.m0, hk.m1, hk.cp, zF (jW hk.lk l p) hi (by rw [hxi]; rfl), fun y hy => ?_, hk.lv, hk.vs, fun q => by have := hca q; have := hd q; omega⟩
   simp only at hy ⊢
   obtain ⟨j, hj, rfl⟩ := List.getElem_of_mem hy
   rw [List.length_set] at hj
   rw [List.getElem_set]
   by_cases hij : iP (bD h.ls l p) l.key = j
   ·rw [if_pos hij]
    exact ⟨q1, q2, q3, by simp only [List.length_drop]; omega, by simp only [List.length_drop]; omega, fun q hq => q6 q (List.mem_of_mem_drop hq)⟩
   ·rw [if_neg hij]
    refine hk.lr _ (Ja _ (gL hj) fun e => ?_)
    rcases Nat.lt_or_gt_of_ne hij with hlt | hgt
    ·have := List.pairwise_iff_getElem.1 (jW hk.lk l p) _ _ hi hj hlt
     rw [hxi, hxk, e] at this
     omega
    ·have := List.pairwise_iff_getElem.1 (jW hk.lk l p) _ _ hj hi hgt
     rw [hxi, hxk, e] at this
     omega
  obtain ⟨k1, k2, k3, k4, k5⟩ := hk2.aV (x.p.take 4) (fun q hq => (q6 q (List.mem_of_mem_take hq)).1) (fun q => by rw [hca]; exact hd q)
  have e : Go.Proofs.YtcmpmobhongkiaaGreatDoor.aV { h with ls := (bD h.ls l p).set (iP (bD h.ls l p) l.key) { x with p := x.p.drop 4 } } (x.p.take 4) = { Go.Proofs.YtcmpmobhongkiaaGreatDoor.aV { h with ls := bD h.ls l p } (x.p.take 4) with ls := (bD h.ls l p).set (iP (bD h.ls l p) l.key) { x with p := x.p.drop 4 } } := jB (x.p.take 4) { h with ls := bD h.ls l p } _
  rw [← e]
  exact ⟨k1, fun q => by rw [k2, hca], Same.trans (b := { h with ls := (bD h.ls l p).set (iP (bD h.ls l p) l.key) { x with p := x.p.drop 4 } }) ⟨rfl, rfl, rfl, rfl⟩ k3, k5⟩
 ·rw [if_neg h8]
  obtain ⟨g1, g2⟩ := hk.push hlr hlz (fun y hy hyk => by
   have h1 := FH hk.lk hy
   rw [hyk] at h1
   omega) hd
  exact ⟨g1, g2, ⟨rfl, rfl, rfl, rfl⟩, rfl⟩

theorem dW.gX {h : Hp} (hk : dW h) {cpu i : Nat} (hc : cpu < h.aF) (hi : i < h.live.length) :
  dW (h.gX cpu i h.live[i]) ∧ (∀ q, cnt (h.gX cpu i h.live[i]).all q = cnt h.all q) ∧ Same h (h.gX cpu i h.live[i]) ∧ (h.gX cpu i h.live[i]).live = h.live.eraseIdx i := by
 have hb := hk.lv _ (gL hi)
 have hce : ∀ q, cnt ({ h with live := h.live.eraseIdx i } : Hp).all q + hit ⟨h.live[i].a, h.live[i].o, 0⟩ q = cnt h.all q := fun q => by
  have h1 := wO hi q
  have h2 : hit ⟨h.live[i].a, h.live[i].o, 0⟩ q = hit h.live[i] q := rfl
  rw [dH, dH, h2]
  simp only
  omega
 have hk1 : dW { h with live := h.live.eraseIdx i } := ⟨hk.o0, hk.o1, hk.f0, hk.e0, hk.e1, hk.m0, hk.m1, hk.cp, hk.lk, hk.lr, fun b hb => hk.lv b ((List.eraseIdx_sublist _ _).subset hb), hk.vs.sublist (List.eraseIdx_sublist _ _), fun q => by have := hce q; have := hk.one q; omega⟩
 unfold Hp.gX
 simp only
 split
 ·obtain ⟨g1, g2, g3, g4, g5⟩ := hk1.iE hb.1 (fun q => by rw [hce]; exact hk.one q)
  exact ⟨g1, fun q => by rw [g2, hce], Same.trans (b := { h with live := h.live.eraseIdx i }) ⟨rfl, rfl, rfl, rfl⟩ g3, g5⟩
 ·rename_i h0
  have ho : h.live[i].o = 0 := by omega
  rw [ho] at hce
  obtain ⟨g1, g2, g3, g4⟩ := hk1.give (cpu := cpu) hc hb.1.2.2.1 (fun q => by rw [hce]; exact hk.one q)
  exact ⟨g1, fun q => by rw [g2, hce], Same.trans (b := { h with live := h.live.eraseIdx i }) ⟨rfl, rfl, rfl, rfl⟩ g3, g4⟩
end
section
open Go.RowKit

structure Rs where
 e : TypeId
 k : Nat
 v : Value
 n : Nat
 xs : List Value
def Rs.on (r : Rs) (W : World) (base : Nat) : Prop := W.ownsRow base r.e r.k r.v r.n r.xs
def Rs.off (a b : Rs) : Prop := ∀ g, a.v.ownBlock = some g → b.v.ownBlock ≠ some g
theorem Rs.off.symm {a b : Rs} (h : a.off b) : b.off a := fun g h1 h2 => h g h2 h1

structure dA (W : World) (base : Nat) (rs : List Rs) : Prop where
 each : ∀ r ∈ rs, r.on W base
 Ci : rs.Pairwise Rs.off

section
variable {W W' : World} {jI : Nat} {rs : List Rs}
theorem dA.below (h : dA W jI rs) (hb : Below W.heap.size W W') : dA W' jI rs := ⟨fun r hr => own_below (h.each r hr) hb (Nat.le_refl _), h.Ci⟩
theorem dA.base {base' : Nat} (h : dA W jI rs) (hb : base' ≤ jI) : dA W base' rs := ⟨fun r hr => own_base (h.each r hr) hb, h.Ci⟩
theorem dA.ne (h : dA W jI rs) {g : Nat} (hg : g < jI ∨ W.heap.size ≤ g) : ∀ r ∈ rs, r.v.ownBlock ≠ some g := fun r hr => own_ne (h.each r hr) hg
theorem dA.far (h : dA W jI rs) {g : Nat} (hg : ∀ r ∈ rs, r.v.ownBlock ≠ some g) (i : Nat) (u : Value) : dA (W.setCell ⟨g, i, none⟩ u) jI rs := ⟨fun r hr => dL (h.each r hr) (hg r hr) u, h.Ci⟩
theorem dA.at (h : dA W jI rs) {i : Nat} (hi : i < rs.length) : rs[i].on W jI := h.each _ (gL hi)
theorem dA.off (h : dA W jI rs) {i j : Nat} (hi : i < rs.length) (hj : j < rs.length) (hne : i ≠ j) : rs[i].off rs[j] := by
 rcases Nat.lt_or_gt_of_ne hne with hlt | hgt
 ·exact List.pairwise_iff_getElem.1 h.Ci i j hi hj hlt
 ·exact (List.pairwise_iff_getElem.1 h.Ci j i hj hi hgt).symm
theorem DR {rs : List Rs} {i : Nat} {r' : Rs} (hd : rs.Pairwise Rs.off) (hi : i < rs.length) (h : ∀ j (hj : j < rs.length), j ≠ i → r'.off rs[j]) : (rs.set i r').Pairwise Rs.off := by
 rw [gN]
 intro a b ha hb hab
 rw [List.length_set] at ha hb
 rw [List.getElem_set, List.getElem_set]
 by_cases h1 : i = a
 ·subst h1
  rw [if_pos rfl, if_neg (by omega)]
  exact h b hb (by omega)
 ·rw [if_neg h1]
  by_cases h2 : i = b
  ·subst h2
   rw [if_pos rfl]
   exact (h a ha (by omega)).symm
  ·rw [if_neg h2]
   exact List.pairwise_iff_getElem.1 hd a b ha hb hab
theorem sO {rs : List Rs} {i : Nat} {r' r : Rs} (h : r ∈ rs.set i r') : r = r' ∨ ∃ j, ∃ (hj : j < rs.length), j ≠ i ∧ r = rs[j] := by
 obtain ⟨j, hj, rfl⟩ := List.getElem_of_mem h
 rw [List.length_set] at hj
 rw [List.getElem_set]
 by_cases h1 : i = j
 ·rw [if_pos h1]; exact .inl rfl
 ·rw [if_neg h1]; exact .inr ⟨j, hj, fun e => h1 e.symm, rfl⟩
theorem dA.grown (h : dA W jI rs) {i : Nat} (hi : i < rs.length) {r' : Rs} (hg : W.grownBy W' rs[i].v.ownBlock) (ho : r'.on W' jI) (hn : ∀ g, r'.v.ownBlock = some g → rs[i].v.ownBlock = some g ∨ W.heap.size ≤ g) : dA W' jI (rs.set i r') := by
 have hoff : ∀ j (hj : j < rs.length), j ≠ i → r'.off rs[j] := fun j hj hne g h1 h2 => by
  rcases hn g h1 with h3 | h3
  ·exact h.off hi hj (fun e => hne e.symm) g h3 h2
  ·exact own_ne (h.at hj) (.inr h3) h2
 refine ⟨fun r hr => ?_, DR h.Ci hi hoff⟩
 rcases sO hr with rfl | ⟨j, hj, hne, rfl⟩
 ·exact ho
 ·exact iF (h.at hj) hg (fun k hk e => h.off hi hj (fun e => hne e.symm) k e hk)
theorem dA.swap (h : dA W jI rs) {i : Nat} (hi : i < rs.length) {r' : Rs} {bs : Nat} (ho : r'.on W bs) (hb : jI ≤ bs) (hbs : ∀ j (hj : j < rs.length), j ≠ i → ∀ g, rs[j].v.ownBlock = some g → g < bs) : dA W jI (rs.set i r') := by
 refine ⟨fun r hr => ?_, DR h.Ci hi fun j hj hne g h1 h2 => ?_⟩
 ·rcases sO hr with rfl | ⟨j, hj, hne, rfl⟩
  ·exact own_base ho hb
  ·exact h.at hj
 ·have h3 := hbs j hj hne g h2
  have h4 := (ho.lt g h1).1
  omega
theorem dA.cell (h : dA W jI rs) {i : Nat} (hi : i < rs.length) {g : Nat} {c : Nat} (hv : rs[i].v = .slice (some ⟨g, 0, none⟩) rs[i].n c) (j : Nat) (u : Value) (hu : u.oneCell' = true) : dA (W.setCell ⟨g, j, none⟩ u) jI (rs.set i { rs[i] with xs := rs[i].xs.set j u }) := by
 have hb : rs[i].v.ownBlock = some g := by rw [hv]; rfl
 refine ⟨fun r hr => ?_, DR h.Ci hi fun j' hj' hne => h.off hi hj' (fun e => hne e.symm)⟩
 rcases sO hr with rfl | ⟨j', hj', hne, rfl⟩
 ·have h0 := h.at hi
  unfold Rs.on at *
  simp only
  rw [hv] at h0
  have h1 := (World.ownsRow.stored h0 j u).1
  rw [hv]
  exact h1
 ·exact dL (h.at hj') (h.off hi hj' (fun e => hne e.symm) g hb) u
theorem dA.cons (h : dA W jI rs) {r' : Rs} {bs : Nat} (ho : r'.on W bs) (hb : jI ≤ bs) (hbs : ∀ r ∈ rs, ∀ g, r.v.ownBlock = some g → g < bs) : dA W jI (r' :: rs) :=
 ⟨fun r hr => by
  rw [List.mem_cons] at hr
  rcases hr with rfl | hr
  ·exact own_base ho hb
  ·exact h.each r hr, List.pairwise_cons.2 ⟨fun r hr g h1 h2 => by have h3 := hbs r hr g h2; have h4 := (ho.lt g h1).1; omega, h.Ci⟩⟩
theorem dA.sub {rs' : List Rs} (h : dA W jI rs) (hs : rs'.Sublist rs) : dA W jI rs' := ⟨fun r hr => h.each r (hs.subset hr), h.Ci.sublist hs⟩
theorem dA.perm {rs' : List Rs} (h : dA W jI rs) (hp : rs.Perm rs') : dA W jI rs' := ⟨fun r hr => h.each r (hp.mem_iff.2 hr), (hp.pairwise_iff (fun h => Rs.off.symm h)).1 h.Ci⟩
theorem dA.nil (W : World) (jI : Nat) : dA W jI [] := ⟨fun r hr => by simp at hr, List.Pairwise.nil⟩
theorem dA.lt (h : dA W jI rs) : ∀ r ∈ rs, ∀ g, r.v.ownBlock = some g → jI ≤ g ∧ g < W.heap.size := fun r hr g hg => (h.each r hr).lt g hg
end
end
section
theorem Nz {h g : Hp} (hk : dW h) (hg : dW g) (hs : Same h g) (i : Nat) (u lo : Bool) : g.held i u lo = h.held i u lo := by
 have e1 : g.z1.f = h.z1.f := by rw [← hg.e0, ← hk.e0, hs.split]
 have e2 : g.z1.e = h.z1.e := by rw [hg.e1, hk.e1]
 unfold Hp.held Hp.min
 rw [e1, e2, hs.m0, hs.m1]
theorem dW.NC {h h' : Hp} (hk : dW h) {l : Ls} {hd a n : Nat} (hl : l.c < h.aF ∧ l.z < 2 ∧ l.t < 3) (h8 : ∀ x ∈ h.ls, x.key = l.key → x.p.length + (n + 1) ≤ 8) (hn : n + 1 ≤ 8) (he : h.jU l.z 0 l.t hd = some (h', a)) :
  dW h' ∧ dW { h' with ls := bD h'.ls l a } ∧ (∀ x ∈ bD h'.ls l a, x.key = l.key → x.p.length + n ≤ 8) ∧ Same h { h' with ls := bD h'.ls l a } := by
 obtain ⟨hT, hls, hz⟩ := hk.jU (by omega) hl.2.2 hl.2.1 he
 have hl' : l.c < h'.aF ∧ l.z < 2 ∧ l.t < 3 := by rw [hT.same.aF]; exact hl
 obtain ⟨g1, g2⟩ := hT.ok.push (l := l) (p := a) hl' ⟨hT.fit.2.2.1, by rw [hT.same.split]; exact hz⟩ (fun x hx hk => by rw [hls] at hx; have := h8 x hx hk; omega) (fun q => by rw [hT.c 0 q]; exact hk.one q)
 refine ⟨hT.ok, g1, fun x hx hkey => ?_, Same.trans hT.same ⟨rfl, rfl, rfl, rfl⟩⟩
 have := zG hT.ok.lk x hx hkey
 have h2 : uX h'.ls l.key + (n + 1) ≤ 8 := by
  unfold uX
  cases hf : h'.ls.find? fun x => decide (x.key = l.key) with
  | none => simp only; omega
  | some y =>
   have hy := List.mem_of_find?_eq_some hf
   have hyk := List.find?_some hf
   rw [hls] at hy
   exact h8 y hy (of_decide_eq_true hyk)
 omega
theorem CG {ls : List Ls} {k : Nat} (h : nV ls k = true) : ∃ hi : iP ls k < ls.length, ls[iP ls k].key = k := by
 unfold nV at h
 cases he : ls[iP ls k]? with
 | none => rw [he] at h; cases h
 | some x =>
  rw [he] at h
  obtain ⟨hi, hx⟩ := List.getElem?_eq_some_iff.1 he
  exact ⟨hi, by rw [hx]; simpa using h⟩
theorem zT {ls : List Ls} {k : Nat} (h : nV ls k = false) : ∀ y, ls[iP ls k]? = some y → y.key ≠ k := fun y hy => by
 unfold nV at h
 rw [hy] at h
 simpa using h
theorem Ee {h : Hp} {l : Ls} {hd : Nat} (hh : nV h.ls l.key = true) (hi : iP h.ls l.key < h.ls.length) : h.single l hd = some ({ h with ls := if h.ls[iP h.ls l.key].p.length = 1 then h.ls.eraseIdx (iP h.ls l.key) else h.ls.set (iP h.ls l.key) { h.ls[iP h.ls l.key] with p := h.ls[iP h.ls l.key].p.dropLast } }, h.ls[iP h.ls l.key].p.getLastD 0) := by
 obtain ⟨_, hx⟩ := CG hh
 unfold Hp.single
 rw [gJ hi]
 simp only [hx, if_true]
theorem Ji {h : Hp} {l : Ls} {hd : Nat} (hh : nV h.ls l.key = false) : h.single l hd = (h.jU l.z 0 l.t hd).map fun r => (r.1.fill l hd 3, r.2) := by
 have h1 := zT hh
 unfold Hp.single
 cases he : h.ls[iP h.ls l.key]? with
 | none => rfl
 | some x => simp only [h1 x he, if_false]
end
section
theorem TV {k : Nat} : eY k * k ≤ 64 := by
 unfold eY
 refine gQ (Nat.div_mul_le_self _ _) ?_
 have : dV k ≤ 2 := by unfold dV; split <;> (try split) <;> omega
 rcases (show dV k = 0 ∨ dV k = 1 ∨ dV k = 2 by omega) with h | h | h <;> rw [h] <;> decide
theorem x9 (xs : List Int) (most : Int) : ∀ (f : Nat) (p : Int) (out l : List Int), (out.length : Int) ≤ most → gY xs most f p out = some l → (l.length : Int) ≤ most
 | 0, _, _, _, _, h => by simp [gY] at h
 | f + 1, p, out, l, ho, h => by
  unfold gY at h
  split at h
  ·rw [← gP h]; exact ho
  ·split at h
   ·cases h
   ·rename_i h2
    refine x9 xs most f _ _ l ?_ h
    simp only [List.length_append, List.length_cons, List.length_nil]
    have : ¬ (most ≤ (out.length : Int)) := fun h3 => h2 (.inl h3)
    omega
theorem Jl {xs : List Int} {p most : Int} {l : List Int} (hm : 0 ≤ most) (h : follow xs p most = some l) : (l.length : Int) ≤ most := x9 xs most _ p [] l (by simpa using hm) h
theorem nX.rz {s : Sy} {c : Ca} (h : nX s c) : c.r * c.z ≤ 64 := by rw [h.r]; exact TV
theorem nX.r64 {s : Sy} {c : Ca} (h : nX s c) : c.r ≤ 64 := gQ (Nat.le_mul_of_pos_right _ h.z.1) h.rz
theorem pO.zX {s : Sy} {c : Ca} {x : Sl} (h : pO s c x) (hk : dW s.h) : x.p < 256 := by
 obtain ⟨b, hb, h1, _⟩ := h.live
 have := (hk.lv b hb).1.2.2.1
 omega
theorem pO.Jm {s : Sy} {c : Ca} {x : Sl} (h : pO s c x) : x.n ≤ c.r := by
 obtain ⟨l, h1, h2, _⟩ := h.chain
 have := Jl (by omega) h1
 omega
theorem rC {c : Ca} {p : Nat} {a : Int} (h : iM c p a = true) : 16 * (p : Int) ≤ a ∧ a < 16 * p + c.r * c.z ∧ (a - 16 * p) % c.z = 0 := by
 have := of_decide_eq_true h
 omega
theorem CO : ∀ {l : List Sl} {k N : Nat}, (l.Pairwise fun a b => a.p < b.p) → (∀ x ∈ l, k ≤ x.p ∧ x.p < N) → l.length + k ≤ N ∨ l = []
 | [], _, _, _, _ => .inr rfl
 | c :: m, k, N, q1, q2 => by
  have q3 := List.pairwise_cons.1 q1
  have q4 := q2 c (by simp)
  rcases CO (k := c.p + 1) (N := N) q3.2 fun x hx => ⟨q3.1 x hx, (q2 x (by simp [hx])).2⟩ with q5 | rfl
  ·simp only [List.length_cons]; exact .inl (by omega)
  ·simp only [List.length_cons, List.length_nil]; exact .inl (by omega)
theorem nX.kT {s : Sy} {c : Ca} (h : nX s c) (hk : dW s.h) : c.sl.length ≤ 256 := by
 rcases CO (k := 0) (N := 256) h.sr fun x hx => ⟨Nat.zero_le _, (h.sk x hx).zX hk⟩ with h1 | h1
 ·omega
 ·rw [h1]; exact Nat.zero_le _
end
section
open Go.RowKit

theorem Jp : ∀ x : List UInt8, Go.Op.bytesLess x x = false
 | [] => rfl
 | a :: x => by
  rw [Go.Op.bytesLess, Jp x]
  simp
theorem zZ : ∀ {x y z : List UInt8}, Go.Op.bytesLess x y = true → Go.Op.bytesLess y z = true → Go.Op.bytesLess x z = true
 | [], [], _, h, _ => by simp [Go.Op.bytesLess] at h
 | [], _ :: _, [], _, h => by simp [Go.Op.bytesLess] at h
 | [], _ :: _, _ :: _, _, _ => rfl
 | _ :: _, [], _, h, _ => by simp [Go.Op.bytesLess] at h
 | _ :: _, _ :: _, [], _, h => by simp [Go.Op.bytesLess] at h
 | a :: x, b :: y, c :: z, h, k => by
  simp only [Go.Op.bytesLess, Bool.or_eq_true, Bool.and_eq_true, decide_eq_true_eq, beq_iff_eq, UInt8.lt_iff_toNat_lt] at h k ⊢
  rcases h with h | ⟨rfl, h⟩
  ·rcases k with k | ⟨rfl, k⟩
   ·exact .inl (by omega)
   ·exact .inl h
  ·rcases k with k | ⟨rfl, k⟩
   ·exact .inl k
   ·exact .inr ⟨rfl, zZ h k⟩
theorem TW {x y : List UInt8} {b : Bool} (h : Go.Op.bytesLess x y = b) : Go.Op.bytesLess (ByteArray.mk x.toArray).toList (ByteArray.mk y.toArray).toList = b := by
 rw [Go.Lib.toList_data, Go.Lib.toList_data]
 exact h
theorem NM {x y : List UInt8} (w : World) {b : Bool} (h : Go.Op.bytesLess x y = b) : (binOp .geq 9 (.string ⟨x.toArray⟩) (.string ⟨y.toArray⟩)).run Tryz.prog w = .ok (.bool (!b)) w := by
 simp [binOp, Go.Op.stringOp]
 exact h

theorem Jq : (Tryz.prog.info? 4).map (fun i => (i.zero, i.size, i.bytes)) = some (some (.bool false), 1, 1) := by kernel_rfl
theorem Aa (w : World) : (zeroValue 4).run Tryz.prog w = .ok (.bool false) w := by
 obtain ⟨i, hi, hz, hs, hb⟩ := info_parts Jq
 simp [zeroValue, typeInfo, hi, hz]
theorem xA {w w' : World} {B n : Nat} (hg : w.grownBy w' (some B)) (h1 : n ≤ B) (h2 : n ≤ w.heap.size) : Below n w w' :=
 ⟨hg.os, hg.tape, hg.output, hg.size, fun k hk => hg.block k (by omega) (by simp; omega)⟩
theorem Le {w w' : World} {B b : Nat} {vs : Array Value} (hk : ∀ o, w.cell? ⟨b, o, none⟩ = vs[o]?) (hg : w.grownBy w' (some B)) (hb : b < w.heap.size) (hne : b ≠ B) (o : Nat) : w'.cell? ⟨b, o, none⟩ = vs[o]? :=
 (World.cell?_of_block (w := w) (a := ⟨b, o, none⟩) (hg.block b hb (by simp; exact hne))).trans (hk o)
section
variable {w : World} {B n : Nat} {S : Lit → Prop}
theorem Vm (l : List UInt8) (hl : l.length ≤ 1000) : keyOf Tryz.prog 9 (sV l) = some (.string l) := by
 have h := Go.WideMaps.keyOf_string_mk Tryz.underlying9 (s := ByteArray.mk l.toArray) (by unfold maxLen; show l.toArray.size ≤ _; simp; omega)
 simpa [sV] using h
theorem Vo (p : Nat) (hp : p ≤ 1000) : keyOf Tryz.prog 3 (.int .i64 (p : Int)) = some (.int .i64 (p : Int)) :=
 Go.Maps.keyOf_int_mk Tryz.underlying3 (by
  show (decide (IntKind.i64.min ≤ (p : Int)) && decide ((p : Int) ≤ IntKind.i64.max)) = true
  rw [show IntKind.i64.min = -9223372036854775808 from rfl, show IntKind.i64.max = 9223372036854775807 from rfl]
  simp
  omega)
theorem Gn (h : dX w Tryz.prog 9 4 B n S) (l : List UInt8) (hl : l.length ≤ 1000) (hno : ¬ S (.string l)) : (Instr.lookup 147 (.map (some B)) (sV l) false).run Tryz.prog w = .ok (.bool false) w :=
 h.out (Go.Maps.string_keyed Tryz.underlying9) Tryz.underlying147 Tryz.underlying4 (Aa w) (Vm l hl) trivial hno
theorem Gp (h : dX w Tryz.prog 9 4 B n S) (hn : n ≤ 1000000) (l : List UInt8) (hl : l.length ≤ 1000) : ∃ w', (Instr.mapUpdate 147 (.map (some B)) (sV l) (.bool true)).run Tryz.prog w = .ok () w' ∧ dX w' Tryz.prog 9 4 B (n + 1) (fun x => x = .string l ∨ S x) ∧ w.grownBy w' (some B) :=
 h.put (Go.Maps.string_keyed Tryz.underlying9) Tryz.underlying147 Tryz.underlying4 (by unfold maxLen; omega) (Vm l hl) trivial
theorem Qs (h : dX w Tryz.prog 3 4 B n S) (p : Nat) (hp : p ≤ 1000) (hno : ¬ S (.int .i64 (p : Int))) : (Instr.lookup 148 (.map (some B)) (.int .i64 (p : Int)) false).run Tryz.prog w = .ok (.bool false) w :=
 h.out (Go.Maps.int_keyed Tryz.underlying3) Tryz.underlying148 Tryz.underlying4 (Aa w) (Vo p hp) trivial hno
theorem Qu (h : dX w Tryz.prog 3 4 B n S) (hn : n ≤ 1000000) (p : Nat) (hp : p ≤ 1000) : ∃ w', (Instr.mapUpdate 148 (.map (some B)) (.int .i64 (p : Int)) (.bool true)).run Tryz.prog w = .ok () w' ∧ dX w' Tryz.prog 3 4 B (n + 1) (fun x => x = .int .i64 (p : Int) ∨ S x) ∧ w.grownBy w' (some B) :=
 h.put (Go.Maps.int_keyed Tryz.underlying3) Tryz.underlying148 Tryz.underlying4 (by unfold maxLen; omega) (Vo p hp) trivial
end
end
section
def Link (xs : List Int) : Int → List Int → Prop
 | p, [] => p = -1
 | p, a :: m => p = a ∧ Link xs (xs.getD a.toNat 0) m
theorem Ll {n : Nat} {p : Int} : Sv n p 1 = true ↔ 0 ≤ p ∧ p < n := by
 unfold Sv
 simp only [decide_eq_true_eq]
 omega
theorem vP {xs : List Int} {most : Int} : ∀ (f : Nat) (p : Int) (out l : List Int), gY xs most f p out = some l → ∃ m, l = out ++ m ∧ Link xs p m ∧ (∀ a ∈ m, 0 ≤ a ∧ a < xs.length) ∧ (m ≠ [] → (l.length : Int) ≤ most) ∧ (out.Nodup → l.Nodup)
 | 0, _, _, _, h => by simp [gY] at h
 | f + 1, p, out, l, h => by
  unfold gY at h
  split at h
  ·rename_i hp
   obtain rfl := gP h
   exact ⟨[], by simp, hp, by simp, by simp, id⟩
  ·rename_i hp
   split at h
   ·cases h
   ·rename_i hn
    simp only [not_or, Bool.not_eq_false, Bool.not_eq_true] at hn
    obtain ⟨h1, h2, h3⟩ := hn
    obtain ⟨m, hm, hl, hr, hb, hd⟩ := vP f _ _ l h
    have hpr := Ll.1 h2
    refine ⟨p :: m, by rw [hm]; simp, ⟨rfl, hl⟩, fun a ha => ?_, fun _ => ?_, fun ho => hd ?_⟩
    ·rcases List.mem_cons.1 ha with rfl | ha
     ·exact hpr
     ·exact hr a ha
    ·by_cases hme : m = []
     ·subst hme
      rw [hm]
      simp
      omega
     ·exact hb hme
    ·rw [List.nodup_append]
     refine ⟨ho, by simp, fun a ha b hb' e => ?_⟩
     simp only [List.mem_singleton] at hb'
     subst hb' e
     unfold oL at h3
     rw [List.contains_iff_mem.2 ha] at h3
     cases h3
theorem vS {xs : List Int} {most : Int} : ∀ (m : List Int) (p : Int) (out : List Int) (f : Nat), Link xs p m → (∀ a ∈ m, 0 ≤ a ∧ a < xs.length) → (m ≠ [] → ((out ++ m).length : Int) ≤ most) → (out ++ m).Nodup → m.length + 1 ≤ f → gY xs most f p out = some (out ++ m)
 | [], p, out, f + 1, hl, _, _, _, _ => by
  unfold gY
  rw [if_pos (show p = -1 from hl), List.append_nil]
 | a :: m, p, out, f + 1, ⟨hp, hl⟩, hr, hb, hd, hf => by
  subst hp
  have hpr := hr p (by simp)
  have hb1 := hb (by simp)
  unfold gY
  rw [if_neg (by omega), if_neg, vS m _ (out ++ [p]) f hl (fun a ha => hr a (List.mem_cons_of_mem _ ha)) (fun _ => by simpa using hb1) (by simpa using hd) (by simpa using hf)]
  ·simp
  ·simp only [not_or, Bool.not_eq_false, Bool.not_eq_true]
   refine ⟨by simp at hb1; omega, Ll.2 hpr, ?_⟩
   unfold oL
   rw [← Bool.not_eq_true, List.contains_iff_mem]
   intro hm
   rw [List.nodup_append] at hd
   exact hd.2.2 p hm p (by simp) rfl
 | [], _, _, 0, _, _, _, _, h => by simp at h
 | _ :: _, _, _, 0, _, _, _, _, h => by simp at h
theorem gW {xs : List Int} {p most : Int} {l : List Int} : follow xs p most = some l ↔ Link xs p l ∧ (∀ a ∈ l, 0 ≤ a ∧ a < xs.length) ∧ (l ≠ [] → (l.length : Int) ≤ most) ∧ l.Nodup := by
 constructor
 ·intro h
  obtain ⟨m, hm, h1, h2, h3, h4⟩ := vP _ _ _ _ h
  simp only [List.nil_append] at hm
  subst hm
  exact ⟨h1, h2, h3, h4 (by simp)⟩
 ·rintro ⟨h1, h2, h3, h4⟩
  have h5 := yR xs.length l h4 h2
  exact vS l p [] _ h1 h2 (by simpa using h3) (by simpa using h4) (by omega)
theorem Link.move {xs ys : List Int} : ∀ {m : List Int} {p : Int}, Link xs p m → (∀ a ∈ m, ys.getD a.toNat 0 = xs.getD a.toNat 0) → Link ys p m
 | [], _, h, _ => h
 | a :: m, _, ⟨h1, h2⟩, he => ⟨h1, by rw [he a (by simp)]; exact h2.move fun b hb => he b (List.mem_cons_of_mem _ hb)⟩

theorem pO.move {s s' : Sy} {c c' : Ca} {x : Sl} (h : pO s c x) (hz : c'.z = c.z) (hr : c'.r = c.r) (ho : c'.o = c.o) (hl : ∀ b ∈ s.h.live, b ∈ s'.h.live) (hw : s'.w.length = s.w.length) (hs : ∀ a : Int, iM c x.p a = true → s'.w.getD a.toNat 0 = s.w.getD a.toNat 0) : pO s' c' x := by
 obtain ⟨b, hb, h1, h2⟩ := h.live
 obtain ⟨l, h3, h4, h5⟩ := h.chain
 refine ⟨⟨b, hl b hb, h1, by rw [ho]; exact h2⟩, l, ?_, h4, fun a ha => ?_⟩
 ·rw [hr]
  rw [gW] at h3 ⊢
  rw [hw]
  exact ⟨h3.1.move fun a ha => hs a (h5 a ha), h3.2⟩
 ·have h6 := h5 a ha
  unfold iM at h6 ⊢
  rw [hz, hr]
  exact h6
theorem nX.move {s s' : Sy} {c : Ca} (h : nX s c) (hc : s'.h.aF = s.h.aF) (hs : ∀ x ∈ c.sl, pO s' c x) : nX s' c :=
 ⟨h.z, h.o, h.r, h.ns, h.nm, h.nr, by rw [hc]; exact h.ac, h.sr, hs, h.aw, h.ad⟩
theorem fC.upd {s s' : Sy} (hk : fC s) {i : Nat} {c c' : Ca} (hi : s.cs[i]? = some c) (hw : s'.w.length = 4096) (hh : dW s'.h) (hcs : s'.cs = s.cs.set i c') (hz : c'.z = c.z) (hn : c'.ns = c.ns) (hc : nX s' c') (ho : ∀ d ∈ s.cs, nX s' d)
  (hp : ∀ x ∈ c'.sl, (∃ y ∈ c.sl, y.p = x.p) ∨ ∀ d ∈ s.cs, ∀ y ∈ d.sl, y.p ≠ x.p) : fC s' := by
 obtain ⟨hil, hic⟩ := List.getElem?_eq_some_iff.1 hi
 have key : ∀ {R : Ca → Ca → Prop}, s.cs.Pairwise R → (∀ j (hj : j < s.cs.length), j < i → R s.cs[j] c → R s.cs[j] c') → (∀ j (hj : j < s.cs.length), i < j → R c s.cs[j] → R c' s.cs[j]) → s'.cs.Pairwise R := fun {R} h1 h2 h3 => by
  rw [hcs]
  rw [gN] at h1 ⊢
  intro j k hj hk' hjk
  rw [List.length_set] at hj hk'
  have h4 := h1 j k hj hk' hjk
  rw [List.getElem_set, List.getElem_set]
  split
  ·rename_i e
   subst e
   rw [if_neg (by omega)]
   exact h3 k hk' hjk (by rw [← hic]; exact h4)
  ·split
   ·rename_i e
    subst e
    exact h2 j hj hjk (by rw [← hic]; exact h4)
   ·exact h4
 refine ⟨hw, hh, by rw [hcs, List.length_set]; exact hk.cl, fun d hd => ?_, key hk.zd (fun _ _ _ h => by rw [hz]; exact h) (fun _ _ _ h => by rw [hz]; exact h), key hk.nd (fun _ _ _ h => by rw [hn]; exact h) (fun _ _ _ h => by rw [hn]; exact h), key hk.pd (fun j hj _ h x hx y hy => ?_) (fun j hj _ h x hx y hy => ?_)⟩
 ·rw [hcs] at hd
  rcases List.mem_or_eq_of_mem_set hd with h | rfl
  ·exact ho d h
  ·exact hc
 ·rcases hp y hy with ⟨y', hy', e⟩ | h'
  ·rw [← e]
   exact h x hx y' hy'
  ·exact h' _ (gL hj) x hx
 ·rcases hp x hx with ⟨x', hx', e⟩ | h'
  ·rw [← e]
   exact h x' hx' y hy
  ·exact fun e => h' _ (gL hj) y hy e.symm
end
section
theorem lF {z : Zn} {p n : Nat} (h : z.ok) (hd : ∀ q, p ≤ q → q < p + n → ¬ eP z.l q) (hp : z.f ≤ p) (hn : p + n ≤ z.e) : ∀ i, i ≤ n → (dO z p i).ok ∧ (dO z p i).f = z.f ∧ (dO z p i).e = z.e ∧ ∀ q, eP (dO z p i).l q ↔ (eP z.l q ∨ (p ≤ q ∧ q < p + i))
 | 0, _ => ⟨h, rfl, rfl, fun q => by
   show eP z.l q ↔ _
   constructor
   ·exact .inl
   ·rintro (h | h)
    ·exact h
    ·omega⟩
 | i + 1, hi => by
  obtain ⟨g1, g2, g3, g4⟩ := lF h hd hp hn i (by omega)
  have hfit : bY (dO z p i).f (dO z p i).e (p + i) 0 := by rw [g2, g3]; exact ⟨by omega, by omega, by omega, by simp [Nat.mod_one]⟩
  have hap : ∀ x ∈ (dO z p i).l, apartB (p + i) 0 x := fun x hx => dN fun q hq Xh => by
   unfold inB at hq
   simp only [Nat.pow_zero] at hq
   rcases (g4 q).1 ⟨x, hx, Xh⟩ with h1 | h1
   ·exact hd q (by omega) (by omega) h1
   ·omega
  obtain ⟨k1, k2⟩ := Zn.oN g1 hfit hap
  refine ⟨k1, g2, g3, fun q => ?_⟩
  show eP ((dO z p i).back (p + i) 0).l q ↔ _
  rw [k2, g4]
  unfold inB
  simp only [Nat.pow_zero, or_assoc]
  constructor
  ·rintro (h | h | h)
   ·exact .inl h
   ·exact .inr (by omega)
   ·exact .inr (by omega)
  ·rintro (h | h)
   ·exact .inl h
   ·exact .inr (by omega)
theorem JH {z : Zn} {p n i : Nat} (h : z.ok) (hd : ∀ q, p ≤ q → q < p + n → ¬ eP z.l q) (hp : z.f ≤ p) (hn : p + n ≤ z.e) (hi : i < n) : bY (dO z p i).f (dO z p i).e (p + i) 0 ∧ ∀ x ∈ (dO z p i).l, apartB (p + i) 0 x := by
 obtain ⟨g1, g2, g3, g4⟩ := lF h hd hp hn i (by omega)
 refine ⟨by rw [g2, g3]; exact ⟨by omega, by omega, by omega, by simp [Nat.mod_one]⟩, fun x hx => dN fun q hq Xh => ?_⟩
 unfold inB at hq
 simp only [Nat.pow_zero] at hq
 rcases (g4 q).1 ⟨x, hx, Xh⟩ with h1 | h1
 ·exact hd q (by omega) (by omega) h1
 ·omega
end
section
open Go.RowKit
theorem Ur {z : Zn} (hz : z.ok) : z.l.length ≤ 256 := by
 refine gQ ?_ (Pz hz)
 generalize z.l = l
 induction l with
 | nil => simp
 | cons b l ih =>
  have := dM b.o
  simp only [szB, List.length_cons]
  omega

set_option maxHeartbeats 4000000 in
set_option maxRecDepth 100000 in
theorem Hf (a1 a2 : Option Addr) (n1 n2 c1 c2 : Nat) (z : Zn) (p n : Nat) (w : World) (hat : Dw w a1 a2 n1 n2 z) (hz : z.ok) (hd0 : ∀ q, p ≤ q → q < p + n → ¬ eP z.l q) (hp : z.f ≤ p) (hn : p + n ≤ z.e) :
  Calls Tryz.prog 104 #[.agg #[.int .i64 z.f, .int .i64 z.e, .slice a1 n1 c1, .slice a2 n2 c2], .int .i64 p, .int .i64 n] w fun ev w' => ∃ a1' a2' n1' c1' c2', ev = .returned (.tuple #[.agg #[.int .i64 z.f, .int .i64 z.e, .slice a1' n1' c1', .slice a2' n2 c2'], .int .i64 0]) ∧ fG w' w.heap.size a1' a2' n1' n2 c1' c2' (dO z p n) ∧ Below w.heap.size w w' := by
 have hee := hz.1.e2
 have l1 := hat.l1
 have l2 := hat.l2
 have hl0 : z.l.length ≤ 256 := Ur hz
 have HD := gO hd0
 have hy32 : z.y.length ≤ 32 := by rw [hz.1.len]; omega
 obtain ⟨K3, K6, F3, F6, hsz, hbw⟩ := boxes2 w #[.int .i64 (z.f : Int), .int .i64 (z.e : Int), .slice a1 n1 c1, .slice a2 n2 c2] 102 #[.int .i64 0, .int .i64 0, .slice none 0 0, .slice none 0 0] 102
 have lQ := hat.below hbw
 have d1 : decide (p < z.f) = false := decide_eq_false (by omega)
 have d2 : decide ((z.e : Int) < p) = false := decide_eq_false (by omega)
 have d3 : decide ((z.e : Int) - p < n) = false := decide_eq_false (by omega)
 have d4 : decide (z.e < p) = false := decide_eq_false (by omega)
 have d5 : (p : Int) ≤ z.e := by omega
 clear hat hd0
 go_enter Tryz.func104, Tryz.ntmps104
 go_wp2_with fail
 generalize (w.alloc (.cells #[.int .i64 (z.f : Int), .int .i64 (z.e : Int), .slice a1 n1 c1, .slice a2 n2 c2] 102)).alloc (.cells #[.int .i64 0, .int .i64 0, .slice none 0 0, .slice none 0 0] 102) = w0 at *
 refine (mD _ _ _ _ _ _ z _ lQ hz).mono ?_
 rintro ev w1 ⟨rfl, hb1⟩
 have UQ := aC K3 (by omega) hb1
 have UR := aC K6 (by omega) hb1
 have UU := aJ F3 (by omega) hb1
 have UW := aJ F6 (by omega) hb1
 have AY := lQ.below hb1
 have sK := Below.step hbw hb1
 have hB : w.heap.size + 2 ≤ w1.heap.size := by have := hb1.size; omega
 clear K3 K6 F3 F6 hb1 lQ hbw hsz
 go_wp2_with fail
 refine (yM _ _ _ _ _ _ z.f z.e z _ AY (by omega) (by omega)).mono ?_
 rintro ev w5 ⟨a3, a4, c3, c4, rfl, hown, hb5⟩
 have UY := aC UQ (by omega) hb5
 have UZ := aC UR (by omega) hb5
 have Va := aJ UU (by omega) hb5
 have Vb := aJ UW (by omega) hb5
 have rM := Below.step sK hb5
 have hnn := (hown.ne (g := w.heap.size) (.inl (by omega)))
 have I1 : GInv w ((((w5.setCell ⟨w.heap.size, 0, none⟩ (.int .i64 z.f)).setCell ⟨w.heap.size, 1, none⟩ (.int .i64 z.e)).setCell ⟨w.heap.size, 2, none⟩ (.slice a3 n1 c3)).setCell ⟨w.heap.size, 3, none⟩ (.slice a4 n2 c4)) a3 a4 n1 n2 c3 c4 z := by
  have h5 := hb5.size
  exact ⟨aG (aG (aG (aG UY 0 _) 1 _) 2 _) 3 _, aH (aH (aH (aH Va _ _) _ _) _ _) _ _, aA (aA (aA (aA UZ (by omega) _ _) (by omega) _ _) (by omega) _ _) (by omega) _ _, aH (aH (aH (aH Vb _ _) _ _) _ _) _ _, (((((hown.base hB).set hnn _ _).set hnn _ _).set hnn _ _).set hnn _ _), by simp only [World.size_setCell]; omega, Below.setCell (Below.setCell (Below.setCell (Below.setCell rM (by simp only; omega) _) (by simp only; omega) _) (by simp only; omega) _) (by simp only; omega) _⟩
 have HI := gO I1
 clear I1 UZ Vb hown rM UQ UR UU UW AY sK hb5 hnn d1 d2 d3 d4 d5
 go_wp2
 clear UY Va
 generalize (((w5.setCell ⟨w.heap.size, 0, none⟩ (.int .i64 z.f)).setCell ⟨w.heap.size, 1, none⟩ (.int .i64 z.e)).setCell ⟨w.heap.size, 2, none⟩ (.slice a3 n1 c3)).setCell ⟨w.heap.size, 3, none⟩ (.slice a4 n2 c4) = w6 at *
 go_loopw [9] (fun s9 wr => ∃ (i : Nat) (b1 b2 : Option Addr) (m1 e1 e2 : Nat), i ≤ n ∧ s9 = .int .i64 ((p + i : Nat) : Int) ∧ Hid (GInv w wr b1 b2 m1 n2 e1 e2 (dO z p i))) (fun s9 _ => p + n - (intOf s9).toNat)
 case atStart => exact ⟨0, a3, a4, n1, c3, c4, Nat.zero_le _, by simp, HI⟩
 case round =>
  obtain ⟨i, b1, b2, m1, e1, e2, hin, rfl, HK⟩ := hrel
  clear HI
  by_cases hlt : i < n
  ·obtain ⟨g1, g2, g3, g4⟩ := lF (p := p) (n := n) hz HD.out hp hn i (by omega)
   obtain ⟨s1, s2⟩ := JH (p := p) (n := n) hz HD.out hp hn (i := i) hlt
   have I := HK.out
   have hHi := I.hi
   have k0 := I.k3 0
   have k1 := I.k3 1
   have k2 := I.k3 2
   have k3 := I.k3 3
   simp only [gB, gC, gD] at k0 k1 k2 k3
   have hwr : w.heap.size < wr.heap.size := by omega
   have dl : decide ((p : Int) + i < p + n) = true := decide_eq_true (by omega)
   have dl2 : decide (p + i < p + n) = true := decide_eq_true (by omega)
   have HGE : Hid (dO z p (i + 1) = (dO z p i).back (p + i) 0) := rfl
   have HS1 := gO s1
   have HS2 := gO s2
   have HG1 := gO g1
   have HG2 := gO g2
   have HG3 := gO g3
   clear g4 s1 s2 g1 g2 g3
   generalize dO z p i = y at *
   have HK2 := gO I
   clear I HK
   go_wp2_with fail
   refine (oN _ _ _ _ _ _ y (p + i) 0 _ HK2.out.own.at HG1.out HS1.out HS2.out).mono ?_
   rintro ev w7 ⟨b3, b4, m3, e3, e4, rfl, hown, hb7⟩
   have Tn := hb7.size
   have HK4 := gO (HK2.out.below hb7)
   have xR : fG w7 (w.heap.size + 2) b3 b4 m3 n2 e3 e4 (y.back (p + i) 0) := hown.base hHi
   have HK5 : Hid (GInv w ((((w7.setCell ⟨w.heap.size, 0, none⟩ (.int .i64 y.f)).setCell ⟨w.heap.size, 1, none⟩ (.int .i64 y.e)).setCell ⟨w.heap.size, 2, none⟩ (.slice b3 m3 e3)).setCell ⟨w.heap.size, 3, none⟩ (.slice b4 n2 e4)) b3 b4 m3 n2 e3 e4 (y.back (p + i) 0)) := HK4.out.put xR
   have HK6 := gO (HK5.out.below (aB _ (.cells #[.int .i64 (y.f : Int), .int .i64 (y.e : Int), .slice b3 m3 e3, .slice b4 n2 e4] 102)))
   have ff3 := HK4.out.f3
   have k30 := HK4.out.k3 0
   have k31 := HK4.out.k3 1
   have k32 := HK4.out.k3 2
   have k33 := HK4.out.k3 3
   simp only [gB, gC, gD] at k30 k31 k32 k33
   have Pv : w.heap.size < w7.heap.size := by omega
   clear hown xR k0 k1 k2 k3 HK2 HK4 HK5 hb7
   go_wp2
   go_roundw
   case rel => exact ⟨i + 1, b3, b4, m3, e3, e4, by omega, by go_num, by rw [HGE.out]; exact HK6⟩
   case measure => simp [intOf]; omega
  ·obtain rfl : i = n := by omega
   have HG := lF (p := p) (n := i) hz HD.out hp hn i (by omega)
   have I := HK.out
   have hHi := I.hi
   have k0 := I.k3 0
   have k1 := I.k3 1
   have k2 := I.k3 2
   have k3 := I.k3 3
   rw [HG.2.1, HG.2.2.1] at *
   simp only [gB, gC, gD] at k0 k1 k2 k3
   have x6 := I.k6
   have xf6 := I.f6
   have hwr : w.heap.size < wr.heap.size := by omega
   have HK2 := gO I
   clear I HK
   go_wp2
   refine bodyPost_ret (v := .tuple #[.agg #[.int .i64 z.f, .int .i64 z.e, .slice b1 m1 e1, .slice b2 n2 e2], .int .i64 0]) (by simp [results, Tryz.results104, go_sem, x6]) rfl ⟨b1, b2, m1, e1, e2, rfl, ?_, ?_⟩
   ·have no := HK2.out.own.ne (g := w.heap.size + 1) (.inl (by omega))
    exact ((((HK2.out.own.set no _ _).set no _ _).set no _ _).set no _ _).base (base' := w.heap.size) (by omega)
   ·have hbb := HK2.out.bw
    exact Below.setCell (Below.setCell (Below.setCell (Below.setCell hbb (by simp only; omega) _) (by simp only; omega) _) (by simp only; omega) _) (by simp only; omega) _
end
section
theorem LX (f : Nat → Bool) (r : Rg) (hf : 0 ≤ r.f) (hs : 1 ≤ r.s) (p : Nat) : upd f r.f.toNat (r.f + r.s).toNat false p = (f p && !nH r p) := by
 unfold upd nH
 by_cases h : r.f ≤ (p : Int) ∧ (p : Int) < r.f + r.s
 ·rw [if_pos (by omega), decide_eq_true h]
  simp
 ·rw [if_neg (by omega), decide_eq_false h]
  simp
theorem RZ {m : List Rg} {r1 r2 : Rg} (hm : dB m = true) (h1 : 0 ≤ r1.f ∧ 1 ≤ r1.s) (h2 : 0 ≤ r2.f ∧ 1 ≤ r2.s) : (iJ ⟨m, [r1, r2]⟩).length ≤ m.length + 2 := by
 have e : ∀ p, p < 256 → Rh ⟨m, [r1, r2]⟩ p = upd (upd (bW m) r1.f.toNat (r1.f + r1.s).toNat false) r2.f.toNat (r2.f + r2.s).toNat false p := fun p _ => by
  rw [LX _ r2 h2.1 h2.2, LX _ r1 h1.1 h1.2]
  unfold Rh bW
  simp only [List.any_cons, List.any_nil, Bool.or_false, Bool.not_or, Bool.and_assoc]
 unfold iJ
 rw [pJ e]
 have l1 := nI (upd (bW m) r1.f.toNat (r1.f + r1.s).toNat false) r2.f.toNat (r2.f + r2.s).toNat false (by omega)
 have l2 := nI (bW m) r1.f.toNat (r1.f + r1.s).toNat false (by omega)
 have l3 := congrArg List.length (Ap hm)
 omega
theorem Ih (a b c : Int) : dB (iJ (AQ a b c)) = true := by
 have hm := (JZ a b c).1
 have h1 := iK a (m := 20) (by decide)
 have h5 := iK c (m := 30) (by decide)
 have h6 := iK a (m := 7) (by decide)
 have h7 := iK b (m := 9) (by decide)
 have h8 := iK c (m := 5) (by decide)
 have h := RZ (m := (AQ a b c).m) (r1 := ⟨pk a 20 + pk c 30, 1 + pk a 7⟩) (r2 := ⟨150 + pk b 9, 1 + pk c 5⟩) hm ⟨by simp only; omega, by simp only; omega⟩ ⟨by simp only; omega, by simp only; omega⟩
 refine Eu _ (gQ h ?_)
 show 2 + 2 ≤ 40
 omega
theorem UL (a b c : Int) : ∃ split least aF : Nat, 16 * pk a 9 = (split : Int) ∧ pk b 12 = (least : Int) ∧ 1 + pk c 4 = (aF : Int) ∧ split ≤ 256 ∧ split % 16 = 0 ∧ least ≤ 256 ∧ 1 ≤ aF ∧ aF ≤ 4 := by
 have h1 := iK a (m := 9) (by decide)
 have h2 := iK b (m := 12) (by decide)
 have h3 := iK c (m := 4) (by decide)
 exact ⟨(16 * pk a 9).toNat, (pk b 12).toNat, (1 + pk c 4).toNat, by omega, by omega, by omega, by omega, by omega, by omega, by omega, by omega⟩
end
section
open Go.RowKit Go.WideShapes Go.ChangeShapes
section
variable {H : Type} {enc : TypeId × Value → H} {P : Program}

theorem vY (hl : laidOutB P = true) {W W' : World} (hb : Below W.heap.size W W') : ∀ (ts : List TypeId) (vs : List Value) (ds : List (DataW H)) (p : List MemPlace),
  (∀ t ∈ ts, P.readableRec t = true ∧ t < P.types.size) → (∀ x ∈ p, x.block < W.heap.size) → DataW.TrodAll enc P W 0 (fun _ => true) true ts vs ds p → DataW.TrodAll enc P W' 0 (fun b => decide (b < W.heap.size)) true ts vs ds p
 | [], [], [], p, _, _, h => h
 | t :: ts, v :: vs, d :: ds, p, hr, hp, h => by
  obtain ⟨p1, p2, h1, h2, rfl⟩ := h
  refine ⟨p1, p2, ?_, vY hl hb ts vs ds p2 (fun t ht => hr t (by simp [ht])) (fun x hx => hp x (by simp [hx])) h2, rfl⟩
  have := hr t (by simp)
  exact Below.trod hl this.1 this.2 h1 hb fun x hx => hp x (by simp [hx])
 | [], [], _ :: _, _, _, _, h => h.elim
 | [], _ :: _, _, _, _, _, h => h.elim
 | _ :: _, [], _, _, _, _, h => h.elim
 | _ :: _, _ :: _, [], _, _, _, h => h.elim

theorem Sr {f : Func} {s : ChangeSpec} {apart : Bool} {W W' : World} {args : Array Value} {ds : List (DataW H)} {before : List MemPlace}
  (hl : laidOutB P = true) (hr : ∀ t ∈ f.params.toList, P.readableRec t = true ∧ t < P.types.size)
  (hW : DataW.Whole enc P f.params.toList s.vars apart W args.toList ds [] before) (hv : s.vars = []) {tb : TypeId} (hres : f.resultTypes = #[tb]) (htb : P.underlying tb = some .bool)
  (hf1 : (s.fn H (ds ++ [])).results = [.lit (.bool true)]) (hf2 : (s.fn H (ds ++ [])).args = ds) (hf3 : (s.fn H (ds ++ [])).vars = []) (hb : Below W.heap.size W W') :
  s.post enc P f apart true false false W args (.bool true) W' := by
 have hlt : ∀ p ∈ before, p.block < W.heap.size := fun p hp => hW.lt p hp
 obtain ⟨pa, pv, h1, h2, h3, h4, h5⟩ := hW
 refine ⟨ds, [], before, [], pa, [], ⟨pa, pv, h1, h2, h3, h4, h5⟩, ?_, ?_, ?_, World.keptBut_mono (fun p f => f.elim) (hb.frame (fun _ => False)), fun h => by cases h⟩
 ·rw [hres, hf1]
  exact trodAll_mk1 (shut_bool htb true)
 ·rw [hf2]
  exact vY hl hb _ _ _ _ hr (fun x hx => hlt x (by rw [h3]; simp [hx])) h1
 ·rw [hv, hf3]
  rfl
end

section
variable {H : Type} {enc : TypeId × Value → H} {P : Program}
end
end
end Go.Proofs.YtcmpmobhongkiaaGreatDoor
