/- Plain facts on chains: what Chain has written, Follow follows. -/
import Derived.Test.YtcomljehcmnlmaaRam3
namespace Go.Proofs.Ytcomljehcmnlmaa

/-- the first i objects' addresses -/
def objs (p k i : Nat) : List Int := (List.range i).map fun j => ((p + j * k : Nat) : Int)

theorem objs_length (p k i : Nat) : (objs p k i).length = i := by simp [objs]
theorem objs_succ (p k i : Nat) : objs p k (i + 1) = objs p k i ++ [((p + i * k : Nat) : Int)] := by simp [objs, List.range_succ]

theorem chainTo_get (xs : List Int) (p k n : Nat) (hk : 1 ≤ k) (hin : p + k * n ≤ xs.length) : ∀ j, j ≤ n → ∀ i, i < j → (chainTo xs p k n j)[p + i * k]? = some (if i + 1 < n then ((p + (i + 1) * k : Nat) : Int) else -1)
  | 0, _, i, hi => by omega
  | j + 1, hj, i, hi => by
    have hlt : ∀ i, i < n → p + i * k < xs.length := fun i hi => by
      have : i * k + k ≤ k * n := by rw [← Nat.succ_mul, Nat.mul_comm]; exact Nat.mul_le_mul_left _ hi
      omega
    unfold chainTo
    by_cases e : i = j
    · subst e
      rw [List.getElem?_set_self (by rw [chainTo_length]; exact hlt i (by omega))]
    · have hne : p + j * k ≠ p + i * k := by
        intro h
        have h1 : j * k = i * k := by omega
        exact e (Nat.eq_of_mul_eq_mul_right (by omega) h1).symm
      rw [List.getElem?_set_ne hne]
      exact chainTo_get xs p k n hk hin j (by omega) i (by omega)

theorem follow_chain_aux (xs : List Int) (p k n : Nat) (most : Int) (hk : 1 ≤ k) (hn : 1 ≤ n) (hin : p + k * n ≤ xs.length) :
    ∀ d i f, i + d = n → 1 ≤ d → d + 1 ≤ f → (i : Int) ≤ most → followF (chainTo xs p k n n) most f ((p + i * k : Nat) : Int) (objs p k i) = if (n : Int) ≤ most then some (objs p k n) else none := by
  intro d
  induction d with
  | zero => intro i f _ h; omega
  | succ d ih =>
    intro i f hid _ hf hmost
    obtain ⟨f, rfl⟩ : ∃ f', f = f' + 1 := ⟨f - 1, by omega⟩
    have hpos : ((p + i * k : Nat) : Int) ≠ -1 := by omega
    have hlt : p + i * k < xs.length := by
      have : i * k + k ≤ k * n := by rw [← Nat.succ_mul, Nat.mul_comm]; exact Nat.mul_le_mul_left _ (by omega)
      omega
    unfold followF
    rw [if_neg hpos, objs_length]
    by_cases hm : (i : Int) = most
    · rw [if_pos (Or.inl (by omega)), if_neg (by omega)]
    · have h2 : inB (chainTo xs p k n n).length ((p + i * k : Nat) : Int) 1 = true := by
        unfold inB; rw [chainTo_length]; exact decide_eq_true (by omega)
      have h3 : hasI (objs p k i) ((p + i * k : Nat) : Int) = false := by
        unfold hasI
        rw [List.contains_eq_any_beq, List.any_eq_false]
        intro x hx
        simp only [objs, List.mem_map, List.mem_range] at hx
        obtain ⟨j, hj, rfl⟩ := hx
        simp only [beq_iff_eq]
        intro h
        have h1 : i * k = j * k := by omega
        have := Nat.eq_of_mul_eq_mul_right (by omega) h1
        omega
      rw [if_neg (by rw [h2, h3]; simp; omega), Int.toNat_natCast, List.getD_eq_getElem?_getD, chainTo_get xs p k n hk hin n (Nat.le_refl _) i (by omega), Option.getD_some, ← objs_succ]
      by_cases hl : i + 1 < n
      · rw [if_pos hl]
        exact ih (i + 1) f (by omega) (by omega) (by omega) (by omega)
      · rw [if_neg hl]
        obtain rfl : n = i + 1 := by omega
        obtain ⟨f, rfl⟩ : ∃ f', f = f' + 1 := ⟨f - 1, by omega⟩
        unfold followF
        rw [if_pos rfl, if_pos (by omega)]

theorem follow_chain (xs : List Int) (p k n : Nat) (most : Int) (hk : 1 ≤ k) (hn : 1 ≤ n) (hin : p + k * n ≤ xs.length) (h0 : 0 ≤ most) :
    follow (chainTo xs p k n n) p most = if (n : Int) ≤ most then some (objs p k n) else none := by
  have hkn : n ≤ k * n := Nat.le_mul_of_pos_left _ (by omega)
  have h := follow_chain_aux xs p k n most hk hn hin n 0 ((chainTo xs p k n n).length + 2) (by omega) hn (by rw [chainTo_length]; omega) (by omega)
  simpa [follow, objs] using h
end Go.Proofs.Ytcomljehcmnlmaa
