/- Plain facts on Alloc's places, for the laws. -/
import Derived.Test.YteonmoncofcajaaBoot13
namespace Go.Proofs.Yteonmoncofcajaa

theorem up_some {lo hi n k : Int} : ∀ {l : List Rg}, (∃ r ∈ l, fitR lo hi n k r = true) → ∃ j, ∃ hj : j < l.length, fitR lo hi n k l[j] = true ∧ (∀ x ∈ l.take j, fitR lo hi n k x = false) ∧ upAt lo hi n k l = firstR lo k l[j]
  | [], h => by obtain ⟨r, hr, _⟩ := h; simp at hr
  | r :: l, h => by
    cases hf : fitR lo hi n k r with
    | true => exact ⟨0, by simp, hf, by simp, by unfold upAt; rw [if_pos hf]; rfl⟩
    | false =>
      obtain ⟨x, hx, hfx⟩ := h
      rcases List.mem_cons.1 hx with rfl | hx
      · rw [hf] at hfx; cases hfx
      · obtain ⟨j, hj, h1, h2, h3⟩ := up_some ⟨x, hx, hfx⟩
        refine ⟨j + 1, by simpa using hj, h1, fun y hy => ?_, by unfold upAt; rw [hf, if_neg (by simp), h3]; rfl⟩
        rw [List.take_succ_cons] at hy
        rcases List.mem_cons.1 hy with rfl | hy
        · exact hf
        · exact h2 y hy

theorem down_at {lo hi n k : Int} : ∀ (l : List Rg) (b : Int), (∃ r ∈ l, fitR lo hi n k r = true) → ∃ j, ∃ hj : j < l.length, fitR lo hi n k l[j] = true ∧ l.foldl (fun b r => if fitR lo hi n k r then lastR hi n k r else b) b = lastR hi n k l[j]
  | [], _, h => by obtain ⟨r, hr, _⟩ := h; simp at hr
  | r :: l, b, h => by
    rw [List.foldl_cons]
    by_cases hl : ∃ r ∈ l, fitR lo hi n k r = true
    · obtain ⟨j, hj, h1, h2⟩ := down_at l (if fitR lo hi n k r then lastR hi n k r else b) hl
      exact ⟨j + 1, by simpa using hj, h1, h2⟩
    · obtain ⟨x, hx, hfx⟩ := h
      rcases List.mem_cons.1 hx with rfl | hx
      · refine ⟨0, by simp, hfx, ?_⟩
        have hno : ∀ y ∈ l, fitR lo hi n k y = false := fun y hy => by
          cases hy2 : fitR lo hi n k y with
          | false => rfl
          | true => exact absurd ⟨y, hy, hy2⟩ hl
        rw [hfx, if_pos rfl]
        have : ∀ (l : List Rg) (b : Int), (∀ y ∈ l, fitR lo hi n k y = false) → l.foldl (fun b r => if fitR lo hi n k r then lastR hi n k r else b) b = b := by
          intro l
          induction l with
          | nil => intro b _; rfl
          | cons y l ih => intro b h; rw [List.foldl_cons, h y (by simp), if_neg (by simp)]; exact ih b fun z hz => h z (by simp [hz])
        exact this l _ hno
      · exact absurd ⟨x, hx, hfx⟩ hl
theorem down_some {lo hi n k : Int} {l : List Rg} (h : ∃ r ∈ l, fitR lo hi n k r = true) : ∃ j, ∃ hj : j < l.length, fitR lo hi n k l[j] = true ∧ downAt lo hi n k l = lastR hi n k l[j] := down_at l (-1) h

/-- regions rise -/
theorem rise {f : Nat → Bool} : ∀ (d i : Nat) (h : i + d < (regionsOf f).length), ((regionsOf f)[i]'(by omega)).f ≤ (regionsOf f)[i + d].f
  | 0, i, h => Int.le_refl _
  | d + 1, i, h => by
    have h1 := rise (f := f) d i (by omega)
    have h2 := (regTo_inv f 256).chain (i + d) (by show _ < (regionsOf f).length; omega)
    have h3 := (regTo_inv f 256).low _ (List.getElem_mem (show i + d < (regTo f 256).length by show _ < (regionsOf f).length; omega))
    have e : (regionsOf f)[i + (d + 1)] = (regTo f 256)[i + d + 1]'(by show _ < (regionsOf f).length; omega) := rfl
    have e2 : (regionsOf f)[i + d]'(by omega) = (regTo f 256)[i + d]'(by show _ < (regionsOf f).length; omega) := rfl
    rw [e]; rw [e2] at h1
    omega

/-- where a place is found: the pages behind it are free -/
theorem place {b : Bt} {n' : Nat} {k : Int} {down : Bool} (hn : 1 ≤ n') (hn2 : n' ≤ 256) (hk : 1 ≤ k) (hk2 : k ≤ 256) (h : ∃ r ∈ freeOf b, fitR 0 256 n' k r = true) :
    ∃ p : Nat, (if down then downAt 0 256 n' k (freeOf b) else upAt 0 256 n' k (freeOf b)) = p ∧ p + n' ≤ 256 ∧ (p : Int) % k = 0 ∧ ∃ r ∈ freeOf b, r.f ≤ p ∧ (p : Int) + n' ≤ r.f + r.s := by
  have hck := regionsOf_ck (freeF b)
  have hdm : ∀ x : Int, (x / k * k) % k = 0 := fun x => Int.mul_emod_left _ _
  cases down with
  | true =>
    obtain ⟨j, hj, h1, h2⟩ := down_some h
    have hm : (freeOf b)[j] ∈ freeOf b := List.getElem_mem hj
    have hb := fit_bounds (hck _ hm) (by omega) (by omega) (by omega) (by omega) (by omega) hk hk2 h1
    obtain ⟨p, hp⟩ := Int.eq_ofNat_of_zero_le (show 0 ≤ lastR 256 n' k (freeOf b)[j] by omega)
    refine ⟨p, by rw [if_pos rfl, h2, hp], by omega, ?_, _, hm, by omega, by omega⟩
    have := hdm ((if 256 < (freeOf b)[j].f + (freeOf b)[j].s then 256 else (freeOf b)[j].f + (freeOf b)[j].s) - n')
    have e : lastR 256 n' k (freeOf b)[j] = ((if 256 < (freeOf b)[j].f + (freeOf b)[j].s then 256 else (freeOf b)[j].f + (freeOf b)[j].s) - n') / k * k := rfl
    rw [← e, hp] at this
    exact this
  | false =>
    obtain ⟨j, hj, h1, _, h2⟩ := up_some h
    have hm : (freeOf b)[j] ∈ freeOf b := List.getElem_mem hj
    have hb := fit_bounds (hck _ hm) (by omega) (by omega) (by omega) (by omega) (by omega) hk hk2 h1
    obtain ⟨p, hp⟩ := Int.eq_ofNat_of_zero_le (show 0 ≤ firstR 0 k (freeOf b)[j] by omega)
    refine ⟨p, by rw [if_neg (by simp), h2, hp], by omega, ?_, _, hm, by omega, by omega⟩
    have := hdm ((if (freeOf b)[j].f < 0 then 0 else (freeOf b)[j].f) + k - 1)
    have e : firstR 0 k (freeOf b)[j] = ((if (freeOf b)[j].f < 0 then 0 else (freeOf b)[j].f) + k - 1) / k * k := rfl
    rw [← e, hp] at this
    exact this

/-- the lowest place is not above the highest one -/
theorem ends_le {b : Bt} {n' : Nat} (hn : 1 ≤ n') (hn2 : n' ≤ 256) (h : ∃ r ∈ freeOf b, fitR 0 256 n' 1 r = true) : upAt 0 256 n' 1 (freeOf b) ≤ downAt 0 256 n' 1 (freeOf b) := by
  have hck := regionsOf_ck (freeF b)
  obtain ⟨i, hi, h1, hno, h2⟩ := up_some h
  obtain ⟨j, hj, h3, h4⟩ := down_some h
  have hij : i ≤ j := by
    rcases Nat.lt_or_ge j i with hlt | hge
    · have := hno _ (List.mem_take_iff_getElem.2 ⟨j, by omega, rfl⟩)
      rw [h3] at this; cases this
    · exact hge
  have hr : (freeOf b)[i].f ≤ (freeOf b)[j].f := by
    obtain ⟨d, rfl⟩ : ∃ d, j = i + d := ⟨j - i, by omega⟩
    exact rise d i hj
  have b1 := ck_parts (hck _ (List.getElem_mem hi))
  have b2 := fit_bounds (hck _ (List.getElem_mem hj)) (lo := 0) (hi := 256) (by omega) (by omega) (by omega) (by omega) (by omega) (by omega) (by omega) h3
  rw [h2, h4]
  have e : firstR 0 1 (freeOf b)[i] = (freeOf b)[i].f := by
    unfold firstR
    rw [if_neg (show ¬ (freeOf b)[i].f < 0 from by have : 0 ≤ (freeOf b)[i].f := b1.1; omega)]
    omega
  omega

theorem none_fits {n' : Nat} {l : List Rg} (hck : ∀ r ∈ l, ckRg r = true) : ∀ r ∈ l, fitR 0 ((n' : Int) - 1) n' 1 r = false := fun r hr => by
  have b1 := ck_parts (hck r hr)
  refine decide_eq_false fun h => ?_
  unfold firstR at h
  rw [if_neg (by omega)] at h
  split at h <;> omega

theorem change_len {f g : Nat → Bool} {p n' : Nat} {v : Bool} {m : Nat} (hn : 1 ≤ n') (hf : (regionsOf f).length ≤ m) (hg : (regionsOf g).length ≤ m) : ((btOf f g).change p n' true v).m.length ≤ m + 1 ∧ ((btOf f g).change p n' true v).r.length ≤ m + 1 := by
  rw [btOf_change]
  have := regionsOf_upd_len g p (p + n') v (by omega)
  simp only [btOf, if_true]
  omega
theorem no_fit {l : List Rg} {lo hi n k : Int} (h : ¬ ∃ r ∈ l, fitR lo hi n k r = true) : ∀ r ∈ l, fitR lo hi n k r = false := fun r hr => by
  cases hf : fitR lo hi n k r with
  | false => rfl
  | true => exact absurd ⟨r, hr, hf⟩ h
end Go.Proofs.Yteonmoncofcajaa
