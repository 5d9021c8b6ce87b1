/- Contracts of package ram: Chain, Move. -/
import Derived.Test.YtcomljehcmnlmaaRam2
import Derived.Test.YtcomljehcmnlmaaBase2
import Derived.StillTailTactics
namespace Go.Proofs.Ytcomljehcmnlmaa
open Go.RowKit
set_option linter.unusedVariables false
attribute [local go_sem ↓] sliced_cut

/-- after i objects have been chained -/
def chainTo (xs : List Int) (p k n : Nat) : Nat → List Int
  | 0 => xs
  | i + 1 => (chainTo xs p k n i).set (p + i * k) (if i + 1 < n then ((p + (i + 1) * k : Nat) : Int) else -1)

theorem chainTo_length (xs : List Int) (p k n : Nat) : ∀ i, (chainTo xs p k n i).length = xs.length
  | 0 => rfl
  | i + 1 => by simp [chainTo, chainTo_length xs p k n i]

theorem chain_ok (a : Option Addr) (cap : Nat) (xs : List Int) (p k n : Nat) (w : World) (hl : xs.length ≤ 1000000) (hr : Row w a (xs.map vI)) (hk1 : 1 ≤ k) (hk2 : k ≤ 64) (hn1 : 1 ≤ n) (hn2 : n ≤ xs.length) (hin : p + k * n ≤ xs.length) :
    Calls Try.prog 20 #[.slice a xs.length cap, .int .i64 p, .int .i64 k, .int .i64 n] w fun e w' => ∃ a' c', e = .returned (.tuple #[.slice a' xs.length c', .int .i64 0]) ∧ w'.ownsRow w.heap.size 3 1 (.slice a' xs.length c') xs.length ((chainTo xs p k n n).map vI) ∧ Below w.heap.size w w' := by
  have hkn : 0 ≤ (k : Int) * (n : Int) := Int.mul_nonneg (by omega) (by omega)
  have hkn2 : (k : Int) * (n : Int) ≤ xs.length - p := by
    have : ((k * n : Nat) : Int) = (k : Int) * (n : Int) := by simp
    omega
  have HB : Hid (inB xs.length p ((k : Int) * (n : Int)) = true) := by unfold inB; exact decide_eq_true (by omega)
  have d1 : decide ((k : Int) < 1) = false := decide_eq_false (by omega)
  have d2 : decide (64 < (k : Int)) = false := decide_eq_false (by omega)
  have d3 : decide ((n : Int) < 1) = false := decide_eq_false (by omega)
  go_enter Try.func20, Try.ntmps20
  go_wp2_with (first | (go_at_call 32; refine (in_any _ _ _ _ _ _ (by omega) (by omega) (by omega)).mono ?_; rw [HB.out]; rintro e w' ⟨rfl, rfl⟩) | (go_at_call 14; refine (clone_int _ _ _ _ (by omega) hr).mono ?_; rintro e w1 ⟨a', c', rfl, hown, hb⟩; have HO := Hid.mk hown; clear hown))
  go_loopw [11, 12, 41] (fun _ _ s41 wr => ∃ i : Nat, i ≤ n ∧ s41 = .int .i64 i ∧ Hid (wr.ownsRow w.heap.size 3 1 (.slice a' xs.length c') xs.length ((chainTo xs p k n i).map vI)) ∧ Below w.heap.size w wr) (fun _ _ s41 _ => n - (intOf s41).toNat)
  case atStart => exact ⟨0, Nat.zero_le _, rfl, HO, hb⟩
  case round =>
    obtain ⟨i, hi, rfl, hown, hbw⟩ := hrel
    by_cases hlt : i < n
    · have hidx : p + i * k < xs.length := by
        have : i * k + k ≤ k * n := by rw [← Nat.succ_mul, Nat.mul_comm]; exact Nat.mul_le_mul_left _ hlt
        omega
      have hik : 0 ≤ (i : Int) * (k : Int) := Int.mul_nonneg (by omega) (by omega)
      have hik2 : (p : Int) + (i : Int) * (k : Int) < xs.length := by
        have : ((p + i * k : Nat) : Int) = (p : Int) + (i : Int) * (k : Int) := by simp
        omega
      obtain ⟨g, v, rfl, hg, hgs, hc, hf⟩ := own_cell hown.out (p + i * k) (by rw [List.length_map, chainTo_length]; exact hidx)
      have hik3 : 0 ≤ ((i : Int) + 1) * (k : Int) := Int.mul_nonneg (by omega) (by omega)
      have hik4 : ((i : Int) + 1) * (k : Int) = (i : Int) * (k : Int) + k := by rw [Int.add_mul, Int.one_mul]
      have hik5 : ((i : Int) + 1) * (k : Int) ≤ xs.length + 64 := by omega
      clear hik4
      by_cases hlast : i + 1 < n
      · have hl2 : (i : Int) < (n : Int) - 1 := by omega
        go_wp2
        go_roundw
        case rel => exact ⟨i + 1, by omega, by go_num, by
            have h := (World.ownsRow.stored hown.out (p + i * k) (vI (p + ((i : Int) + 1) * k))).1
            show World.ownsRow _ _ _ _ _ _ ((chainTo xs p k n (i + 1)).map vI)
            unfold chainTo
            rw [if_pos hlast, List.map_set]
            rw [show (((p + (i + 1) * k : Nat) : Int)) = p + ((i : Int) + 1) * k from by simp]
            exact h, hbw.setCell hg _⟩
        case measure => simp [intOf]; omega
      · have hl2 : ¬ (i : Int) < (n : Int) - 1 := by omega
        go_wp2
        go_roundw
        case rel => exact ⟨i + 1, by omega, by go_num, by
            have h := (World.ownsRow.stored hown.out (p + i * k) (vI (-1))).1
            show World.ownsRow _ _ _ _ _ _ ((chainTo xs p k n (i + 1)).map vI)
            unfold chainTo
            rw [if_neg hlast, List.map_set]
            exact h, hbw.setCell hg _⟩
        case measure => simp [intOf]; omega
    · obtain rfl : i = n := by omega
      go_wp2
      go_ret2
      exact ⟨a', c', rfl, hown.out, hbw⟩

theorem move_bad (a : Option Addr) (cap : Nat) (len : Nat) (p q n : Int) (w : World) (hl : len ≤ 1000000) (hn : -1000000 ≤ n) (hn2 : n ≤ 10000000) (h : inB len p n = false ∨ inB len q n = false) :
    Calls Try.prog 15 #[.slice a len cap, .int .i64 p, .int .i64 q, .int .i64 n] w fun e w' => e = .returned (.tuple #[.slice none 0 0, .int .i64 1]) ∧ w = w' := by
  cases h1 : inB len p n with
  | false =>
    go_enter Try.func15, Try.ntmps15
    go_wp2_with (go_at_call 32; refine (in_any _ _ _ _ _ _ (by omega) (by omega) (by omega)).mono ?_; rintro e w' ⟨rfl, rfl⟩)
    go_ret2
    exact ⟨rfl, rfl⟩
  | true =>
    have h2 : inB len q n = false := by rcases h with h | h; (rw [h1] at h; cases h); exact h
    clear h
    go_enter Try.func15, Try.ntmps15
    go_wp2_with (go_at_call 32; refine (in_any _ _ _ _ _ _ (by omega) (by omega) (by omega)).mono ?_; rintro e w' ⟨rfl, rfl⟩)
    go_ret2
    exact ⟨rfl, rfl⟩

/-- what Move tells -/
def moveI (xs : List Int) (p q n : Nat) : List Int := xs.take p ++ (xs.drop q).take n ++ xs.drop (p + n)

theorem move_ok (a : Option Addr) (cap : Nat) (xs : List Int) (p q n : Nat) (w : World) (hl : xs.length ≤ 1000000) (hcap : xs.length ≤ cap) (hr : Row w a (xs.map vI)) (hp : p + n ≤ xs.length) (hq : q + n ≤ xs.length) :
    Calls Try.prog 15 #[.slice a xs.length cap, .int .i64 p, .int .i64 q, .int .i64 n] w fun e w' => ∃ a' c', e = .returned (.tuple #[.slice a' xs.length c', .int .i64 0]) ∧ w'.ownsRow w.heap.size 3 1 (.slice a' xs.length c') xs.length ((moveI xs p q n).map vI) ∧ Below w.heap.size w w' := by
  have h1 : inB xs.length p n = true := decide_eq_true (by omega)
  have h2 : inB xs.length q n = true := decide_eq_true (by omega)
  go_enter Try.func15, Try.ntmps15
  go_wp2_with (first | (go_at_call 32; refine (in_any _ _ _ _ _ _ (by omega) (by omega) (by omega)).mono ?_; rintro e w' ⟨rfl, rfl⟩) | (go_at_call 14; refine (clone_int _ _ _ _ (by omega) hr).mono ?_; rintro e w1 ⟨a', c', rfl, hown, hb⟩; have HO := Hid.mk hown; have hcc := own_cap hown; clear hown))
  have s1 : IntKind.i64.wrap ((p : Int) + n) = (p : Int) + n := IntWalk.i64_in _ (by omega)
  have s2 : IntKind.i64.wrap ((q : Int) + n) = (q : Int) + n := IntWalk.i64_in _ (by omega)
  have b1 : (p : Int) + n ≤ (c' : Int) := by omega
  have b2 : (q : Int) + n ≤ (cap : Int) := by omega
  have b3 : (p : Int) ≤ p + n := by omega
  have b4 : (q : Int) ≤ q + n := by omega
  go_still_tail 12, (by kernel_rfl)
  change wpList _ _ _ _ _ w1.drew
  have e1 : ((p : Int) + n).toNat - p = n := by omega
  have e2 : ((q : Int) + n).toNat - q = n := by omega
  rw [e1, e2]
  have hd : Below w.heap.size w w1.drew := hb.drew
  have HO2 := own_below HO.out ((Below.refl w1.heap.size w1).drew) (Nat.le_refl _)
  have hrow := (hr.below hd).cut q cap 1 n (by omega)
  generalize w1.drew = w2 at hd HO2 hrow
  have hsz : (Try.prog.info? 3).map (·.size) = some 1 := by kernel_rfl
  have hlen : (((xs.drop q).take n).map vI).length = n := by simp; omega
  refine wpList_cp rfl _ _ 27 27 rfl 3 Try.underlying27 1 hsz _ _ n _ n _ rfl rfl (((xs.drop q).take n).map vI) (by rw [hlen]; simp) ?_ (vI_one _) w.heap.size xs.length c' p a' (xs.map vI) HO2 ?_ ?_ (by rw [hlen]; omega) ?_
  · rw [Nat.mul_one, ← List.map_drop, ← List.map_take] at hrow; exact hrow
  · intro h0
    rw [hlen] at h0
    unfold cutA
    rw [if_neg (by omega)]
  · intro hn
    by_cases h0 : n = 0
    · subst h0; simp
    · exfalso
      unfold cutA at hn
      rw [if_neg (by omega)] at hn
      obtain ⟨g, e, _⟩ := own_at HO2 0 (by simp; omega)
      rw [e] at hn; cases hn
  · intro w3 hown hgrow
    have hb3 : Below w.heap.size w w3 := below_grown hd HO2 hgrow (Nat.le_refl _) hd.size
    have H3 : w3.ownsRow w.heap.size 3 1 (.slice a' xs.length c') xs.length ((moveI xs p q n).map vI) := by
      rw [hlen] at hown
      simp only [moveI, List.map_append, List.map_take, List.map_drop, Nat.mul_one] at hown ⊢
      exact hown
    have HH := Hid.mk H3
    clear H3 hown hgrow hrow HO HO2
    go_wp2
    go_ret2
    exact ⟨a', c', rfl, HH.out, hb3⟩
end Go.Proofs.Ytcomljehcmnlmaa
