/- The walk of paddockkeep.StoreLoads. -/
import Derived.Test.YtcomljehcmnlmaaRam3
import Derived.Test.YtcomljehcmnlmaaFrame
namespace Go.Proofs.Ytcomljehcmnlmaa
open Go.RowKit
set_option linter.unusedVariables false

theorem ramNew_n (p : Int) (n : Nat) (w : World) (h1 : 0 ≤ p) (h2 : p ≤ 256) (hn : p * 16 = n) :
    Calls Try.prog 17 #[.int .i64 p] w fun e w' => ∃ a c, e = .returned (.tuple #[.slice a n c, .int .i64 0]) ∧ w'.ownsRow w.heap.size 3 1 (.slice a n c) n ((List.replicate n 0).map vI) ∧ Below w.heap.size w w' := by
  obtain rfl : n = p.toNat * 16 := by omega
  exact ramNew_ok p w h1 h2

theorem ramStore_n (a : Option Addr) (n cap : Nat) (xs : List Int) (k : Nat) (v : Int) (w : World) (hn : xs.length = n) (hl : n * 8 ≤ 140737488355328) (hr : Row w a (xs.map vI)) (hk : k < n) :
    Calls Try.prog 18 #[.slice a n cap, .int .i64 k, .int .i64 v] w fun e w' => ∃ a' c', e = .returned (.tuple #[.slice a' n c', .int .i64 0]) ∧ w'.ownsRow w.heap.size 3 1 (.slice a' n c') n ((xs.set k v).map vI) ∧ Below w.heap.size w w' := by
  subst hn
  exact ramStore_ok a cap xs k v w hl hr hk

theorem ramLoad_n (a : Option Addr) (n cap : Nat) (xs : List Int) (k : Nat) (v : Int) (w : World) (hn : xs.length = n) (hl : n ≤ 9223372036854775807) (hr : Row w a (xs.map vI)) (hk : k < n) (hv : xs[k]? = some v) :
    Calls Try.prog 19 #[.slice a n cap, .int .i64 k] w fun e w' => e = .returned (.tuple #[.int .i64 v, .int .i64 0]) ∧ w = w' := by
  subst hn
  obtain rfl : xs[k] = v := by simpa [hk] using hv
  exact ramLoad_ok a cap xs k w hl hr hk

theorem storeLoads_walk (a0 : Int) (w0 : (Lit.int .i64 a0).wf = true) (a1 : Int) (w1 : (Lit.int .i64 a1).wf = true) (a2 : Int) (w2 : (Lit.int .i64 a2).wf = true) (a3 : Int) (w3 : (Lit.int .i64 a3).wf = true) (w : World) :
    Calls Try.prog 6 #[.int .i64 a0, .int .i64 a1, .int .i64 a2, .int .i64 a3] w fun e w' => e = .returned (.bool true) ∧ Below w.heap.size w w' := by
  have hb0 := bounds_i64 w0
  have hb1 := bounds_i64 w1
  have hb2 := bounds_i64 w2
  have p1 := pk_nonneg a0 4 (by omega)
  have p2 := pk_lt a0 4 (by omega)
  obtain ⟨n, hn⟩ : ∃ n : Nat, (1 + pk a0 4) * 16 = (n : Int) := ⟨((1 + pk a0 4) * 16).toNat, by omega⟩
  have HN := Hid.mk hn
  have hn1 : 16 ≤ n := by omega
  have hn2 : n ≤ 64 := by omega
  obtain ⟨ka, hka⟩ : ∃ ka : Nat, pk a1 ((n : Int) + 1) = ka := ⟨(pk a1 ((n : Int) + 1)).toNat, by have := pk_nonneg a1 ((n : Int) + 1) (by omega); omega⟩
  obtain ⟨kb, hkb⟩ : ∃ kb : Nat, pk a2 ((n : Int) + 1) = kb := ⟨(pk a2 ((n : Int) + 1)).toNat, by have := pk_nonneg a2 ((n : Int) + 1) (by omega); omega⟩
  have ka2 : ka ≤ n := by have := pk_lt a1 ((n : Int) + 1) (by omega); omega
  have kb2 : kb ≤ n := by have := pk_lt a2 ((n : Int) + 1) (by omega); omega
  have HKA := Hid.mk hka
  have HKB := Hid.mk hkb
  clear hn hka hkb
  by_cases hA : ka = n
  · have hAi : ((ka : Int) == (n : Int)) = true := by simp [hA]
    have hbad : ¬ (0 ≤ (ka : Int) ∧ (ka : Int) < n) := by omega
    clear hA
    go_enter Try.func6, Try.ntmps6
    go_wp2_with fail
    refine (picked_any _ _ _ (by omega) (by omega) (by omega) (by omega)).mono ?_; rintro e w' ⟨rfl, rfl⟩
    go_wp2_with fail
    refine (ramNew_n _ n _ (by omega) (by omega) HN.out).mono ?_; rintro e wa ⟨a, c, rfl, hown, hba⟩
    have HO := Hid.mk hown; clear hown
    go_wp2_with fail
    refine (picked_any _ _ _ (by omega) (by omega) (by omega) (by omega)).mono ?_; rw [HKA.out]; rintro e w' ⟨rfl, rfl⟩
    go_wp2_with fail
    refine (picked_any _ _ _ (by omega) (by omega) (by omega) (by omega)).mono ?_; rw [HKB.out]; rintro e w' ⟨rfl, rfl⟩
    go_wp2_with fail
    refine (ramStore_bad _ _ _ _ _ _ (by omega) hbad).mono ?_; rintro e w' ⟨rfl, rfl⟩
    go_wp2
    go_ret
    exact ⟨rfl, hba⟩
  · have hAi : ((ka : Int) == (n : Int)) = false := by simp; omega
    have hlt : ka < n := by omega
    clear hA
    go_enter Try.func6, Try.ntmps6
    go_wp2_with fail
    refine (picked_any _ _ _ (by omega) (by omega) (by omega) (by omega)).mono ?_; rintro e w' ⟨rfl, rfl⟩
    go_wp2_with fail
    refine (ramNew_n _ n _ (by omega) (by omega) HN.out).mono ?_; rintro e wa ⟨a, c, rfl, hown, hba⟩
    have HO := Hid.mk hown; clear hown
    go_wp2_with fail
    refine (picked_any _ _ _ (by omega) (by omega) (by omega) (by omega)).mono ?_; rw [HKA.out]; rintro e w' ⟨rfl, rfl⟩
    go_wp2_with fail
    refine (picked_any _ _ _ (by omega) (by omega) (by omega) (by omega)).mono ?_; rw [HKB.out]; rintro e w' ⟨rfl, rfl⟩
    go_wp2_with fail
    refine (ramStore_n _ n _ (List.replicate n 0) _ _ _ (by simp) (by omega) (own_row HO.out) hlt).mono ?_; rintro e wb ⟨a', c', rfl, hownb, hbb⟩
    have HB := Hid.mk hownb; clear hownb
    have hbab : Below w.heap.size w wb := hba.trans (hbb.mono hba.size)
    go_wp2_with fail
    refine (ramLoad_n _ n _ _ _ a3 _ (by simp) (by omega) (own_row HB.out) hlt (by simp [hlt])).mono ?_; rintro e w' ⟨rfl, rfl⟩
    by_cases hB : kb = n
    · have hBi : ((kb : Int) == (n : Int)) = true := by simp [hB]
      have hbad : ¬ (0 ≤ (kb : Int) ∧ (kb : Int) < n) := by omega
      clear hB
      go_wp2_with fail
      refine (ramLoad_bad _ _ _ _ _ (by omega) hbad).mono ?_; rintro e w' ⟨rfl, rfl⟩
      go_wp2
      all_goals go_ret
      all_goals exact ⟨rfl, hbab⟩
    · have hBi : ((kb : Int) == (n : Int)) = false := by simp; omega
      have hltb : kb < n := by omega
      clear hB
      by_cases hE : ka = kb
      · have hEi : ((ka : Int) == (kb : Int)) = true := by simp [hE]
        have hv : ((List.replicate n 0).set ka a3)[kb]? = some a3 := by subst hE; simp [hlt]
        clear hE
        go_wp2_with fail
        refine (ramLoad_n _ n _ _ _ a3 _ (by simp) (by omega) (own_row HB.out) hltb hv).mono ?_; rintro e w' ⟨rfl, rfl⟩
        clear hv
        go_wp2
        all_goals go_ret
        all_goals exact ⟨rfl, hbab⟩
      · have hEi : ((ka : Int) == (kb : Int)) = false := by simp; omega
        have hv : ((List.replicate n 0).set ka a3)[kb]? = some 0 := by rw [List.getElem?_set_ne hE]; simp [hltb]
        clear hE
        go_wp2_with fail
        refine (ramLoad_n _ n _ _ _ 0 _ (by simp) (by omega) (own_row HB.out) hltb hv).mono ?_; rintro e w' ⟨rfl, rfl⟩
        clear hv
        go_wp2
        all_goals go_ret
        all_goals exact ⟨rfl, hbab⟩
end Go.Proofs.Ytcomljehcmnlmaa
