/- The walk of paddockkeep.ChainFollows. -/
import Derived.Test.YtcomljehcmnlmaaChain
import Derived.Test.YtcomljehcmnlmaaStoreLoadsWalk
namespace Go.Proofs.Ytcomljehcmnlmaa
open Go.RowKit
set_option linter.unusedVariables false

theorem chain_n (a : Option Addr) (len cap : Nat) (xs : List Int) (p k n : Nat) (w : World) (hlen : xs.length = len) (hl : len ≤ 1000000) (hr : Row w a (xs.map vI)) (hk1 : 1 ≤ k) (hk2 : k ≤ 64) (hn1 : 1 ≤ n) (hn2 : n ≤ len) (hin : p + k * n ≤ len) :
    Calls Try.prog 20 #[.slice a len cap, .int .i64 p, .int .i64 k, .int .i64 n] w fun e w' => ∃ a' c', e = .returned (.tuple #[.slice a' len c', .int .i64 0]) ∧ w'.ownsRow w.heap.size 3 1 (.slice a' len c') len ((chainTo xs p k n n).map vI) ∧ Below w.heap.size w w' := by
  subst hlen
  exact chain_ok a cap xs p k n w hl hr hk1 hk2 hn1 hn2 hin

theorem chainFollows_walk (a0 : Int) (w0 : (Lit.int .i64 a0).wf = true) (a1 : Int) (w1 : (Lit.int .i64 a1).wf = true) (a2 : Int) (w2 : (Lit.int .i64 a2).wf = true) (w : World) :
    Calls Try.prog 7 #[.int .i64 a0, .int .i64 a1, .int .i64 a2] w fun e w' => e = .returned (.bool true) ∧ Below w.heap.size w w' := by
  have hb0 := bounds_i64 w0
  have hb1 := bounds_i64 w1
  have hb2 := bounds_i64 w2
  have p1 := pk_nonneg a0 12 (by omega)
  have p2 := pk_lt a0 12 (by omega)
  have q1 := pk_nonneg a1 8 (by omega)
  have q2 := pk_lt a1 8 (by omega)
  have r1 := pk_nonneg a2 20 (by omega)
  have r2 := pk_lt a2 20 (by omega)
  obtain ⟨k, hk⟩ : ∃ k : Nat, 1 + pk a0 12 = (k : Int) := ⟨(1 + pk a0 12).toNat, by omega⟩
  obtain ⟨n, hn⟩ : ∃ n : Nat, 1 + pk a1 8 = (n : Int) := ⟨(1 + pk a1 8).toNat, by omega⟩
  obtain ⟨p, hp⟩ : ∃ p : Nat, pk a2 20 = (p : Int) := ⟨(pk a2 20).toNat, by omega⟩
  have k1 : 1 ≤ k := by omega
  have k2 : k ≤ 12 := by omega
  have n1 : 1 ≤ n := by omega
  have n2 : n ≤ 8 := by omega
  have pp : p ≤ 19 := by omega
  have hkn : k * n ≤ 12 * 8 := Nat.mul_le_mul k2 n2
  have HP := Hid.mk hp
  have HK := Hid.mk hk
  have HNN := Hid.mk hn
  clear hk hn hp
  have hf1 : follow (chainTo (List.replicate 128 0) p k n n) p n = some (objs p k n) := by
    rw [follow_chain _ p k n n k1 n1 (by rw [List.length_replicate]; omega) (by omega), if_pos (Int.le_refl _)]
  have hf2 : follow (chainTo (List.replicate 128 0) p k n n) p (n - 1) = none := by
    rw [follow_chain _ p k n (n - 1) k1 n1 (by rw [List.length_replicate]; omega) (by omega), if_neg (by omega)]
  have hl : (chainTo (List.replicate 128 0) p k n n).length = 128 := by rw [chainTo_length, List.length_replicate]
  have HF1 := Hid.mk hf1
  have HF2 := Hid.mk hf2
  have HL := Hid.mk hl
  clear hf1 hf2 hl
  go_enter Try.func7, Try.ntmps7
  go_wp2_with fail
  refine (ramNew_n _ 128 _ (by omega) (by omega) (by omega)).mono ?_; rintro e wa ⟨a, c, rfl, hown, hba⟩
  have HO := Hid.mk hown; clear hown
  go_wp2_with fail
  refine (picked_any _ _ _ (by omega) (by omega) (by omega) (by omega)).mono ?_; rintro e w' ⟨rfl, rfl⟩
  go_wp2_with fail
  refine (picked_any _ _ _ (by omega) (by omega) (by omega) (by omega)).mono ?_; rintro e w' ⟨rfl, rfl⟩
  go_wp2_with fail
  refine (picked_any _ _ _ (by omega) (by omega) (by omega) (by omega)).mono ?_; rintro e w' ⟨rfl, rfl⟩
  go_wp2_with fail
  rw [HP.out, HK.out, HNN.out]
  refine (chain_n _ 128 _ (List.replicate 128 0) p k n _ (by simp) (by omega) (own_row HO.out) k1 (by omega) n1 (by omega) (by omega)).mono ?_; rintro e wb ⟨a', c', rfl, hownb, hbb⟩
  have HB := Hid.mk hownb; clear hownb
  have hbab : Below w.heap.size w wb := hba.trans (hbb.mono hba.size)
  go_wp2_with fail
  refine (follow_some _ _ _ _ _ _ _ HL.out (by omega) (own_row HB.out) _ HF1.out).mono ?_; rintro e wc ⟨a2, c2, rfl, hownc, hbc⟩
  rw [objs_length] at hownc ⊢
  have HC := Hid.mk hownc; clear hownc
  go_wp2_with fail
  refine (follow_none _ _ _ _ _ _ _ HL.out (by omega) ((own_row HB.out).below hbc) HF2.out).mono ?_; rintro e wd ⟨rfl, hbd⟩
  have hbabd : Below w.heap.size w wd := hbab.trans ((hbc.trans (hbd.mono hbc.size)).mono hbab.size)
  have hrow := (own_row HC.out).below hbd
  go_wp2
  go_loop [18, 19, 57] (fun _ _ s57 => ∃ i : Nat, i ≤ n ∧ s57 = .int .i64 i) (fun _ _ s57 => n - (intOf s57).toNat)
  case atStart => exact ⟨0, Nat.zero_le _, rfl⟩
  case round =>
    obtain ⟨i, hi, rfl⟩ := hrel
    by_cases hlt : i < n
    · obtain ⟨b, off, rfl, hbb, hc⟩ := row_at hrow (k := i) (by rw [objs_length]; exact hlt)
      have hval : (objs p k n)[i]'(by rw [objs_length]; exact hlt) = ((p + i * k : Nat) : Int) := by simp [objs]
      rw [hval] at hc
      have hE : ((((p + i * k : Nat)) : Int) != (p : Int) + (i : Int) * (k : Int)) = false := by simp
      have hik0 : 0 ≤ (i : Int) * (k : Int) := Int.mul_nonneg (by omega) (by omega)
      have hik : (i : Int) * (k : Int) ≤ 96 := by
        have h : i * k ≤ 8 * 12 := Nat.mul_le_mul (by omega) k2
        have h2 : ((i * k : Nat) : Int) = (i : Int) * (k : Int) := by simp
        omega
      go_wp2
      go_round
      case rel => exact ⟨i + 1, by omega, by go_num⟩
      case measure => simp [intOf]; omega
    · obtain rfl : i = n := by omega
      go_wp2
      all_goals go_ret
      all_goals exact ⟨rfl, hbabd⟩
end Go.Proofs.Ytcomljehcmnlmaa
