/- Zones of pages in plain words: the same free pages are the same blocks. No program in sight. -/
import Derived.Test.YtbkajbjhffdlfaaDoorZn3
namespace Go.Proofs.YtbkajbjhffdlfaaDoor
set_option linter.unusedVariables false

/-- a block that is free page by page lies in one free block -/
theorem in_one {f e : Nat} {m : List Bk} (hf : f % 16 = 0) (he : e % 16 = 0) (hm : OkL f e m) : ∀ (o a : Nat), fitsB f e a o → (∀ p, inB a o p → covL m p) → ∃ c ∈ m, c.a ≤ a ∧ a + 2 ^ o ≤ c.fin
  | 0, a, hb, hc => by
    obtain ⟨c, hcm, hp⟩ := hc a ⟨Nat.le_refl _, by simp⟩
    unfold inB at hp
    exact ⟨c, hcm, hp.1, by unfold Bk.fin; simp only [Nat.pow_zero]; omega⟩
  | o + 1, a, hb, hc => by
    obtain ⟨h1, h2, h3⟩ := fits_half he hb
    have hps : 2 ^ (o + 1) = 2 ^ o + 2 ^ o := by rw [Nat.pow_succ]; omega
    obtain ⟨c, hcm, c1, c2⟩ := in_one hf he hm o a h1 (fun p hp => hc p (by unfold inB at *; omega))
    obtain ⟨d, hdm, d1, d2⟩ := in_one hf he hm o (a + 2 ^ o) h2 (fun p hp => hc p (by unfold inB at *; omega))
    have hcf := hm.fit c hcm
    have hdf := hm.fit d hdm
    have ho4 : o + 1 ≤ 4 := hb.1
    have hfit : a % 2 ^ (o + 1) = 0 := hb.2.2.2
    by_cases hco : o + 1 ≤ c.o
    · refine ⟨c, hcm, c1, ?_⟩
      have h4 := hcf.1.2.2.2
      have h5 := hcf.1.1
      unfold Bk.fin at *
      have hdiv : 2 ^ (o + 1) ∣ c.a := Nat.dvd_trans (Nat.pow_dvd_pow 2 hco) (Nat.dvd_of_mod_eq_zero h4)
      have hdiv2 : 2 ^ (o + 1) ∣ 2 ^ c.o := Nat.pow_dvd_pow 2 hco
      obtain ⟨x, hx⟩ := hdiv
      obtain ⟨y, hy⟩ := hdiv2
      obtain ⟨z, hz⟩ := Nat.dvd_of_mod_eq_zero hfit
      rw [hx, hy, ← Nat.mul_add] at c2 ⊢
      rw [hz] at c1 c2 ⊢
      have hpos := pow_pos' o
      have : z < x + y := by
        rcases Nat.lt_or_ge z (x + y) with h | h
        · exact h
        · have := Nat.mul_le_mul_left (2 ^ (o + 1)) h; omega
      have := Nat.mul_le_mul_left (2 ^ (o + 1)) (Nat.succ_le_of_lt this)
      rw [Nat.mul_succ] at this
      exact this
    · exfalso
      have hcoe : c.o = o := by
        have h5 : 2 ^ o ≤ 2 ^ c.o := by unfold Bk.fin at c2; omega
        have := (Nat.pow_le_pow_iff_right (show 1 < 2 by omega)).1 h5
        omega
      have hca : c.a = a := by unfold Bk.fin at c2; rw [hcoe] at c2; omega
      have hne : ¬ (d.a ≤ a) := by
        intro hle
        obtain ⟨i, hi, rfl⟩ := List.getElem_of_mem hcm
        obtain ⟨j, hj, rfl⟩ := List.getElem_of_mem hdm
        have hpos := pow_pos' o
        by_cases hij : i = j
        · subst hij; unfold Bk.fin at *; rw [hcoe, hca] at *; omega
        · have := sep_two hm.sep hi hj hij
          unfold Bk.fin at *; rw [hcoe, hca] at *; omega
      have hda : d.a = a + 2 ^ o ∧ d.o = o := by
        have hdo : d.o ≤ o ∨ o < d.o := by omega
        have h5 : 2 ^ o ≤ 2 ^ d.o := by unfold Bk.fin at d2; omega
        have h6 := (Nat.pow_le_pow_iff_right (show 1 < 2 by omega)).1 h5
        have h7 : d.o = o := by
          rcases hdo with h | h
          · omega
          · exfalso
            have h8 := hdf.1.2.2.2
            obtain ⟨x, hx⟩ := Nat.dvd_trans (Nat.pow_dvd_pow 2 (show o + 1 ≤ d.o by omega)) (Nat.dvd_of_mod_eq_zero h8)
            obtain ⟨z, hz⟩ := Nat.dvd_of_mod_eq_zero hfit
            have hpos := pow_pos' o
            have h9 : z < x := by
              rcases Nat.lt_or_ge z x with h | h
              · exact h
              · have := Nat.mul_le_mul_left (2 ^ (o + 1)) h
                rw [← hx, ← hz] at this
                omega
            have h10 := Nat.mul_le_mul_left (2 ^ (o + 1)) (Nat.succ_le_of_lt h9)
            rw [Nat.mul_succ, ← hx, ← hz] at h10
            omega
        refine ⟨?_, h7⟩
        unfold Bk.fin at d2
        rw [h7] at d2
        omega
      exact hm.nob d hdm c hcm (by omega) (by omega) (by rw [hda.1, hda.2, h3, hca])

def keyB (b : Bk) : Nat × Nat := (b.a, b.o)
theorem same_mem {f e : Nat} {l m : List Bk} (hf : f % 16 = 0) (he : e % 16 = 0) (hl : OkL f e l) (hm : OkL f e m) (hc : ∀ p, covL l p ↔ covL m p) : ∀ b ∈ l, ∃ c ∈ m, keyB c = keyB b := by
  intro b hb
  have hbf := (hl.fit b hb).1
  obtain ⟨c, hcm, c1, c2⟩ := in_one hf he hm b.o b.a hbf (fun p hp => (hc p).1 ⟨b, hb, hp⟩)
  have hcf := (hm.fit c hcm).1
  obtain ⟨d, hd, d1, d2⟩ := in_one hf he hl c.o c.a hcf (fun p hp => (hc p).2 ⟨c, hcm, hp⟩)
  have hpb := pow_pos' b.o
  have hpd := pow_pos' d.o
  refine ⟨c, hcm, ?_⟩
  obtain ⟨i, hi, rfl⟩ := List.getElem_of_mem hb
  obtain ⟨j, hj, rfl⟩ := List.getElem_of_mem hd
  have hij : i = j := by
    by_cases hij : i = j
    · exact hij
    · exfalso
      have := sep_two hl.sep hi hj hij
      unfold Bk.fin at *
      omega
  subst hij
  have ha : c.a = l[i].a := by omega
  unfold Bk.fin at *
  have hpow : 2 ^ c.o = 2 ^ l[i].o := by omega
  have ho : c.o = l[i].o := by
    have h1 := (Nat.pow_le_pow_iff_right (show 1 < 2 by omega)).1 (Nat.le_of_eq hpow)
    have h2 := (Nat.pow_le_pow_iff_right (show 1 < 2 by omega)).1 (Nat.le_of_eq hpow.symm)
    omega
  unfold keyB
  rw [ha, ho]

theorem same_sorted : ∀ (l m : List Bk), Rise l → Rise m → (∀ b ∈ l, ∃ c ∈ m, keyB c = keyB b) → (∀ b ∈ m, ∃ c ∈ l, keyB c = keyB b) → l.map keyB = m.map keyB
  | [], [], _, _, _, _ => rfl
  | [], y :: m, _, _, _, h => by obtain ⟨c, hc, _⟩ := h y (by simp); simp at hc
  | x :: l, [], _, _, h, _ => by obtain ⟨c, hc, _⟩ := h x (by simp); simp at hc
  | x :: l, y :: m, hl, hm, h1, h2 => by
    have hlp := List.pairwise_cons.1 hl
    have hmp := List.pairwise_cons.1 hm
    have hxy : keyB x = keyB y := by
      obtain ⟨c, hc, hcx⟩ := h1 x (by simp)
      obtain ⟨d, hd, hdy⟩ := h2 y (by simp)
      rw [List.mem_cons] at hc hd
      rcases hc with rfl | hc
      · exact hcx.symm
      · rcases hd with rfl | hd
        · exact hdy
        · have g1 := hmp.1 c hc
          have g2 := hlp.1 d hd
          unfold keyB at hcx hdy
          simp only [Prod.mk.injEq] at hcx hdy
          omega
    have hxa : x.a = y.a := by unfold keyB at hxy; simp only [Prod.mk.injEq] at hxy; exact hxy.1
    rw [List.map_cons, List.map_cons, hxy, same_sorted l m hlp.2 hmp.2 (fun b hb => ?_) (fun b hb => ?_)]
    · obtain ⟨c, hc, hcb⟩ := h1 b (by simp [hb])
      rw [List.mem_cons] at hc
      rcases hc with rfl | hc
      · exfalso
        have := hlp.1 b hb
        unfold keyB at hcb
        simp only [Prod.mk.injEq] at hcb
        omega
      · exact ⟨c, hc, hcb⟩
    · obtain ⟨c, hc, hcb⟩ := h2 b (by simp [hb])
      rw [List.mem_cons] at hc
      rcases hc with rfl | hc
      · exfalso
        have := hmp.1 b hb
        unfold keyB at hcb
        simp only [Prod.mk.injEq] at hcb
        omega
      · exact ⟨c, hc, hcb⟩

/-- the same free pages are the same blocks, but for types -/
theorem same_blocks {f e : Nat} {l m : List Bk} (hf : f % 16 = 0) (he : e % 16 = 0) (hl : OkL f e l) (hm : OkL f e m) (hc : ∀ p, covL l p ↔ covL m p) : l.map keyB = m.map keyB :=
  same_sorted l m hl.rise hm.rise (same_mem hf he hl hm hc) (same_mem hf he hm hl (fun p => (hc p).symm))
end Go.Proofs.YtbkajbjhffdlfaaDoor
