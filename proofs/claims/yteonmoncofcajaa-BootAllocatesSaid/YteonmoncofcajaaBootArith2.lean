/- Plain facts on what Alloc gives, and what Free takes back. -/
import Derived.Test.YteonmoncofcajaaBootArith
namespace Go.Proofs.Yteonmoncofcajaa
set_option linter.unusedVariables false

theorem free_inside {b : Bt} {p n' : Nat} (h : ∃ r ∈ freeOf b, r.f ≤ (p : Int) ∧ (p : Int) + n' ≤ r.f + r.s) (q : Nat) (h1 : p ≤ q) (h2 : q < p + n') (h3 : q < 256) : freeF b q = true := by
  obtain ⟨r, hr, g1, g2⟩ := h
  rw [← regionsOf_mem (freeF b) q h3]
  exact (inRg_iff _ _).2 ⟨r, hr, by omega, by omega⟩

theorem freeF_of (f g : Nat → Bool) (q : Nat) (h : q < 256) : freeF (btOf f g) q = (f q && !g q) := by
  unfold freeF btOf
  rw [regionsOf_mem f q h, regionsOf_mem g q h]

theorem back_same {f g : Nat → Bool} {p n' : Nat} (hpn : p + n' ≤ 256) (h : ∃ r ∈ freeOf (btOf f g), r.f ≤ (p : Int) ∧ (p : Int) + n' ≤ r.f + r.s) : freeOf (btOf f (upd (upd g p (p + n') true) p (p + n') false)) = freeOf (btOf f g) := by
  unfold freeOf
  refine regionsOf_congr fun q hq => ?_
  rw [freeF_of _ _ q hq]
  by_cases hin : p ≤ q ∧ q < p + n'
  · have h1 := free_inside h q hin.1 hin.2 hq
    rw [freeF_of _ _ q hq] at h1
    rw [freeF_of _ _ q hq, h1]
    unfold upd
    rw [if_pos hin]
    simp only [Bool.and_eq_true] at h1
    rw [h1.1]; rfl
  · rw [freeF_of _ _ q hq]
    unfold upd
    rw [if_neg hin, if_neg hin]

theorem was_inside {b : Bt} {p n' : Nat} (h : ∃ r ∈ freeOf b, r.f ≤ (p : Int) ∧ (p : Int) + n' ≤ r.f + r.s) : ((freeOf b).any fun r => decide (r.f ≤ (p : Int) ∧ (p : Int) + (n' : Int) ≤ r.f + r.s)) = true := by
  obtain ⟨r, hr, g1, g2⟩ := h
  rw [List.any_eq_true]
  exact ⟨r, hr, decide_eq_true ⟨g1, g2⟩⟩

theorem not_still {f g : Nat → Bool} {p n' : Nat} (hpn : p + n' ≤ 256) (hn : 1 ≤ n') : ((freeOf (btOf f (upd g p (p + n') true))).any fun r => decide (r.f < (p : Int) + (n' : Int) ∧ (p : Int) < r.f + r.s)) = false := by
  rw [List.any_eq_false]
  intro r hr hd
  have hd := of_decide_eq_true hd
  have hck := ck_parts (regionsOf_ck _ r hr)
  obtain ⟨a, ha⟩ := Int.eq_ofNat_of_zero_le hck.1
  have hq : ∃ q : Nat, p ≤ q ∧ q < p + n' ∧ r.f ≤ (q : Int) ∧ (q : Int) < r.f + r.s := ⟨if p ≤ a then a else p, by split <;> omega, by split <;> omega, by split <;> omega, by split <;> omega⟩
  obtain ⟨q, h1, h2, h3, h4⟩ := hq
  have hm : inRg (freeOf (btOf f (upd g p (p + n') true))) q = true := (inRg_iff _ _).2 ⟨r, hr, h3, h4⟩
  unfold freeOf at hm
  rw [regionsOf_mem _ q (by omega), freeF_of _ _ q (by omega)] at hm
  unfold upd at hm
  rw [if_pos ⟨h1, h2⟩] at hm
  simp at hm

theorem room_none {b : Bt} {n' : Nat} {k : Int} (h : ∀ r ∈ freeOf b, fitR 0 256 n' k r = false) : ((freeOf b).any fun r => decide ((r.f + k - 1) / k * k + (n' : Int) ≤ r.f + r.s)) = false := by
  rw [List.any_eq_false]
  intro r hr hd
  have hd := of_decide_eq_true hd
  have hck := ck_parts (regionsOf_ck _ r hr)
  have := of_decide_eq_false (h r hr)
  unfold firstR at this
  rw [if_neg (show ¬ r.f < 0 by omega), if_neg (show ¬ 256 < r.f + r.s by omega)] at this
  exact this hd
end Go.Proofs.Yteonmoncofcajaa
