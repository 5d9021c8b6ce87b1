/- Zones of pages in plain words: taking blocks. No program in sight. -/
import Derived.Test.YtbkajbjhffdlfaaDoorZn
namespace Go.Proofs.YtbkajbjhffdlfaaDoor
set_option linter.unusedVariables false

def lowI (l : List Bk) (o t : Nat) : Option Nat := l.findIdx? fun b => decide (b.o = o ∧ b.t = t)
/-- the least order from o on that has a block of type t -/
def findUp (l : List Bk) (t : Nat) : Nat → Nat → Option Nat
  | 0, _ => none
  | n + 1, o => match lowI l o t with
    | some i => some i
    | none => findUp l t n (o + 1)
/-- the types that are asked when there is none of a type -/
def oth1 (t : Nat) : Nat := if t = 2 then 0 else 2
def oth2 (t : Nat) : Nat := if t = 1 then 0 else 1
/-- the greatest order below n, not below 'order', that has a block of another type -/
def findDown (l : List Bk) (t order : Nat) : Nat → Option Nat
  | 0 => none
  | n + 1 => if n < order then none else match lowI l n (oth1 t) with
    | some i => some i
    | none => match lowI l n (oth2 t) with
      | some i => some i
      | none => findDown l t order n
def setT (y : List Nat) (f a t : Nat) : Nat → List Nat
  | 0 => y
  | n + 1 => (setT y f a t n).set ((a + n - f) / 8) t
def markB (fr to t : Nat) (x : Bk) : Bk := if fr ≤ x.a ∧ x.fin ≤ to then { x with t := t } else x
def Zn.steal (z : Zn) (b : Bk) (t : Nat) : Zn :=
  if b.o < 2 then z else { z with l := z.l.map (markB (b.a / 8 * 8) (max b.fin (b.a / 8 * 8 + 8)) t), y := setT z.y z.f b.a t (2 ^ b.o) }
/-- halves are put back down to an order -/
def splitDown (l : List Bk) (a t order : Nat) : Nat → List Bk
  | 0 => l
  | o + 1 => if order ≤ o then splitDown (putIn l ⟨a + 2 ^ o, o, t⟩) a t order o else l
def Zn.cut (z : Zn) (i order : Nat) : Option (Zn × Nat) := match z.l[i]? with
  | some b => some ({ z with l := splitDown (z.l.eraseIdx i) b.a b.t order b.o }, b.a)
  | none => none
def Zn.take (z : Zn) (order t : Nat) : Option (Zn × Nat) := match findUp z.l t (5 - order) order with
  | some i => z.cut i order
  | none => match findDown z.l t order 5 with
    | some i => match z.l[i]? with
      | some b => (z.steal b t).cut i order
      | none => none
    | none => none

theorem lowI_some {l : List Bk} {o t i : Nat} (h : lowI l o t = some i) : ∃ b, l[i]? = some b ∧ b.o = o ∧ b.t = t := by
  unfold lowI at h
  rw [List.findIdx?_eq_some_iff_getElem] at h
  obtain ⟨hi, hp, _⟩ := h
  have hp' := of_decide_eq_true hp
  exact ⟨l[i], List.getElem?_eq_getElem hi, hp'.1, hp'.2⟩
theorem lowI_none {l : List Bk} {o t : Nat} (h : lowI l o t = none) : ∀ b ∈ l, ¬ (b.o = o ∧ b.t = t) := by
  unfold lowI at h
  rw [List.findIdx?_eq_none_iff] at h
  intro b hb
  exact of_decide_eq_false (h b hb)
theorem findUp_some {l : List Bk} {t : Nat} : ∀ {n o i : Nat}, findUp l t n o = some i → ∃ b, l[i]? = some b ∧ o ≤ b.o ∧ b.t = t
  | 0, _, _, h => by cases h
  | n + 1, o, i, h => by
    unfold findUp at h
    cases hl : lowI l o t with
    | some j =>
      rw [hl] at h
      obtain rfl : j = i := by simpa using h
      obtain ⟨b, h1, h2, h3⟩ := lowI_some hl
      exact ⟨b, h1, by omega, h3⟩
    | none =>
      rw [hl] at h
      obtain ⟨b, h1, h2, h3⟩ := findUp_some (n := n) (o := o + 1) (i := i) h
      exact ⟨b, h1, by omega, h3⟩
theorem findUp_none {l : List Bk} {t : Nat} : ∀ {n o : Nat}, findUp l t n o = none → ∀ b ∈ l, ¬ (o ≤ b.o ∧ b.o < o + n ∧ b.t = t)
  | 0, o, _, b, _, hc => by omega
  | n + 1, o, h, b, hb, hc => by
    unfold findUp at h
    cases hl : lowI l o t with
    | some j => rw [hl] at h; cases h
    | none =>
      rw [hl] at h
      have h1 := lowI_none hl b hb
      have h2 := findUp_none (n := n) (o := o + 1) h b hb
      by_cases he : b.o = o
      · exact h1 ⟨he, hc.2.2⟩
      · exact h2 ⟨by omega, by omega, hc.2.2⟩
theorem findDown_some {l : List Bk} {t order : Nat} : ∀ {n i : Nat}, findDown l t order n = some i → ∃ b, l[i]? = some b ∧ order ≤ b.o
  | 0, _, h => by cases h
  | n + 1, i, h => by
    unfold findDown at h
    by_cases hc : n < order
    · rw [if_pos hc] at h; cases h
    · rw [if_neg hc] at h
      cases h1 : lowI l n (oth1 t) with
      | some j =>
        rw [h1] at h
        obtain rfl : j = i := by simpa using h
        obtain ⟨b, g1, g2, _⟩ := lowI_some h1
        exact ⟨b, g1, by omega⟩
      | none =>
        rw [h1] at h
        cases h2 : lowI l n (oth2 t) with
        | some j =>
          rw [h2] at h
          obtain rfl : j = i := by simpa using h
          obtain ⟨b, g1, g2, _⟩ := lowI_some h2
          exact ⟨b, g1, by omega⟩
        | none =>
          rw [h2] at h
          exact findDown_some (n := n) h
theorem findDown_none {l : List Bk} {t order : Nat} : ∀ {n : Nat}, findDown l t order n = none → ∀ b ∈ l, ¬ (order ≤ b.o ∧ b.o < n ∧ (b.t = oth1 t ∨ b.t = oth2 t))
  | 0, _, b, _, hc => by omega
  | n + 1, h, b, hb, hc => by
    unfold findDown at h
    by_cases hn : n < order
    · omega
    · rw [if_neg hn] at h
      cases h1 : lowI l n (oth1 t) with
      | some j => rw [h1] at h; cases h
      | none =>
        rw [h1] at h
        cases h2 : lowI l n (oth2 t) with
        | some j => rw [h2] at h; cases h
        | none =>
          rw [h2] at h
          have g1 := lowI_none h1 b hb
          have g2 := lowI_none h2 b hb
          have g3 := findDown_none (n := n) h b hb
          by_cases he : b.o = n
          · rcases hc.2.2 with h | h
            · exact g1 ⟨he, h⟩
            · exact g2 ⟨he, h⟩
          · exact g3 ⟨hc.1, by omega, hc.2.2⟩

theorem setT_length (y : List Nat) (f a t : Nat) : ∀ n, (setT y f a t n).length = y.length
  | 0 => rfl
  | n + 1 => by simp [setT, setT_length y f a t n]
theorem setT_all {y : List Nat} {f a t : Nat} (ht : t < 3) (h : ∀ u ∈ y, u < 3) : ∀ n, ∀ u ∈ setT y f a t n, u < 3
  | 0 => h
  | n + 1 => fun u hu => by
    unfold setT at hu
    rcases List.mem_or_eq_of_mem_set hu with hu | rfl
    · exact setT_all ht h n u hu
    · exact ht

theorem OkL.map {f e : Nat} {l : List Bk} (h : OkL f e l) {g : Bk → Bk} (ha : ∀ x, (g x).a = x.a) (ho : ∀ x, (g x).o = x.o) (ht : ∀ x, x.t < 3 → (g x).t < 3) : OkL f e (l.map g) := by
  refine ⟨fun b hb => ?_, ?_, fun x hx y hy he ho4 => ?_⟩
  · obtain ⟨x, hx, rfl⟩ := List.mem_map.1 hb
    obtain ⟨h1, h2⟩ := h.fit x hx
    rw [ha, ho]
    exact ⟨h1, ht x h2⟩
  · rw [List.pairwise_map]
    refine h.sep.imp fun {x y} h1 => ?_
    unfold Bk.fin at *
    rw [ha, ha, ho]; exact h1
  · obtain ⟨x', hx', rfl⟩ := List.mem_map.1 hx
    obtain ⟨y', hy', rfl⟩ := List.mem_map.1 hy
    rw [ho, ho] at he
    rw [ho] at ho4
    rw [ha, ha, ho]
    exact h.nob x' hx' y' hy' he ho4
theorem covL_map {l : List Bk} {g : Bk → Bk} (ha : ∀ x, (g x).a = x.a) (ho : ∀ x, (g x).o = x.o) (p : Nat) : covL (l.map g) p ↔ covL l p := by
  unfold covL
  constructor
  · rintro ⟨b, hb, hp⟩
    obtain ⟨x, hx, rfl⟩ := List.mem_map.1 hb
    rw [ha, ho] at hp
    exact ⟨x, hx, hp⟩
  · rintro ⟨x, hx, hp⟩
    exact ⟨g x, List.mem_map_of_mem hx, by rw [ha, ho]; exact hp⟩
theorem markB_a (fr to t : Nat) (x : Bk) : (markB fr to t x).a = x.a := by unfold markB; split <;> rfl
theorem markB_o (fr to t : Nat) (x : Bk) : (markB fr to t x).o = x.o := by unfold markB; split <;> rfl
theorem markB_t {fr to t : Nat} (ht : t < 3) (x : Bk) (h : x.t < 3) : (markB fr to t x).t < 3 := by unfold markB; split <;> simp [ht, h]

theorem Zn.steal_ok {z : Zn} (h : z.ok) {b : Bk} {t : Nat} (ht : t < 3) : (z.steal b t).ok ∧ (∀ p, covL (z.steal b t).l p ↔ covL z.l p) ∧ (z.steal b t).f = z.f ∧ (z.steal b t).e = z.e ∧ ∀ (i : Nat) (x : Bk), z.l[i]? = some x → ∃ y : Bk, (z.steal b t).l[i]? = some y ∧ y.a = x.a ∧ y.o = x.o := by
  unfold Zn.steal
  split
  · exact ⟨h, fun _ => Iff.rfl, rfl, rfl, fun i x hx => ⟨x, hx, rfl, rfl⟩⟩
  · refine ⟨⟨⟨h.1.fe, h.1.e2, h.1.f16, h.1.e16, by simp only [setT_length]; exact h.1.len, setT_all ht h.1.typ _⟩, h.2.map (markB_a _ _ _) (markB_o _ _ _) (markB_t ht)⟩, fun p => covL_map (markB_a _ _ _) (markB_o _ _ _) p, rfl, rfl, fun i x hx => ⟨markB (b.a / 8 * 8) (max b.fin (b.a / 8 * 8 + 8)) t x, by simp only [List.getElem?_map, hx, Option.map_some], markB_a _ _ _ _, markB_o _ _ _ _⟩⟩

theorem split_ok {f e a t order : Nat} (he : e % 16 = 0) (ht : t < 3) : ∀ (o : Nat) (l : List Bk), order ≤ o → OkL f e l → fitsB f e a o → (∀ x ∈ l, apartB a o x) →
    OkL f e (splitDown l a t order o) ∧ fitsB f e a order ∧ (∀ x ∈ splitDown l a t order o, apartB a order x) ∧ ∀ p, (covL (splitDown l a t order o) p ∨ inB a order p) ↔ (covL l p ∨ inB a o p)
  | 0, l, ho, hl, hb, hd => by
    obtain rfl : order = 0 := by omega
    exact ⟨hl, hb, hd, fun p => Iff.rfl⟩
  | o + 1, l, ho, hl, hb, hd => by
    unfold splitDown
    by_cases hc : order ≤ o
    · rw [if_pos hc]
      obtain ⟨h1, h2, h3⟩ := fits_half he hb
      have hp := pow_pos' o
      have hps : 2 ^ (o + 1) = 2 ^ o + 2 ^ o := by rw [Nat.pow_succ]; omega
      have hl' : OkL f e (putIn l ⟨a + 2 ^ o, o, t⟩) := hl.put h2 ht (fun x hx => by
          have := hd x hx
          unfold apartB Bk.fin at *
          rw [hps] at this
          simp only
          omega) (fun _ x hx hxo => by
          simp only at hxo ⊢
          rw [h3]
          have := hd x hx
          have hpx := pow_pos' x.o
          unfold apartB Bk.fin at this
          omega)
      have hd' : ∀ x ∈ putIn l ⟨a + 2 ^ o, o, t⟩, apartB a o x := fun x hx => by
        unfold putIn at hx
        rw [List.mem_append, List.mem_cons] at hx
        rcases hx with hx | rfl | hx
        · have := hd x (List.mem_of_mem_take hx)
          unfold apartB at *
          omega
        · unfold apartB; simp only; omega
        · have := hd x (List.mem_of_mem_drop hx)
          unfold apartB at *
          omega
      obtain ⟨g1, g2, g3, g4⟩ := split_ok he ht o _ hc hl' h1 hd'
      refine ⟨g1, g2, g3, fun p => (g4 p).trans ?_⟩
      rw [covL_put]
      simp only
      unfold inB
      rw [hps]
      constructor
      · rintro ((h | h) | h)
        · exact .inl h
        · exact .inr (by omega)
        · exact .inr (by omega)
      · rintro (h | h)
        · exact .inl (.inl h)
        · by_cases hpa : p < a + 2 ^ o
          · exact .inr (by omega)
          · exact .inl (.inr (by omega))
    · rw [if_neg hc]
      obtain rfl : order = o + 1 := by omega
      exact ⟨hl, hb, hd, fun p => Iff.rfl⟩

/-- what Take gives -/
structure Taken (z : Zn) (order : Nat) (z' : Zn) (at_ : Nat) : Prop where
  ok : z'.ok
  f : z'.f = z.f
  e : z'.e = z.e
  fit : fitsB z.f z.e at_ order
  apart : ∀ x ∈ z'.l, apartB at_ order x
  cov : ∀ p, (covL z'.l p ∨ inB at_ order p) ↔ covL z.l p
  inside : ∃ b ∈ z.l, b.a = at_ ∧ order ≤ b.o

theorem Zn.cut_ok {z : Zn} (h : z.ok) {i order : Nat} {b : Bk} (hb : z.l[i]? = some b) (ho : order ≤ b.o) : ∃ z' at_, z.cut i order = some (z', at_) ∧ Taken z order z' at_ := by
  obtain ⟨hi, hbi⟩ := List.getElem?_eq_some_iff.1 hb
  have hbm : b ∈ z.l := by rw [← hbi]; exact List.getElem_mem hi
  have hfit := h.2.fit b hbm
  have hmem : ∀ y, y ∈ z.l.eraseIdx i → y ∈ z.l ∧ (y.fin ≤ b.a ∨ b.fin ≤ y.a) := fun y hy => by
    obtain ⟨j, hj, hne, rfl⟩ := List.mem_eraseIdx_iff_getElem.1 hy
    refine ⟨List.getElem_mem hj, ?_⟩
    rw [← hbi]
    exact sep_two h.2.sep hj hi hne
  obtain ⟨g1, g2, g3, g4⟩ := split_ok (t := b.t) h.1.e16 hfit.2 b.o (z.l.eraseIdx i) ho (h.2.sublist (List.eraseIdx_sublist _ _)) hfit.1 (fun y hy => (hmem y hy).2)
  refine ⟨{ z with l := splitDown (z.l.eraseIdx i) b.a b.t order b.o }, b.a, by unfold Zn.cut; rw [hb], ⟨h.1, g1⟩, rfl, rfl, g2, g3, fun p => (g4 p).trans ?_, b, hbm, rfl, ho⟩
  constructor
  · rintro (⟨y, hy, hp⟩ | hp)
    · exact ⟨y, (hmem y hy).1, hp⟩
    · exact ⟨b, hbm, hp⟩
  · rintro ⟨y, hy, hp⟩
    obtain ⟨j, hj, rfl⟩ := List.getElem_of_mem hy
    by_cases hje : j = i
    · subst hje
      rw [hbi] at hp
      exact .inr hp
    · exact .inl ⟨_, List.mem_eraseIdx_iff_getElem.2 ⟨j, hj, hje, rfl⟩, hp⟩

theorem Zn.take_some {z : Zn} (h : z.ok) {order t : Nat} (ho : order ≤ 4) (ht : t < 3) (hb : ∃ b ∈ z.l, order ≤ b.o) : ∃ z' at_, z.take order t = some (z', at_) ∧ Taken z order z' at_ := by
  unfold Zn.take
  cases hu : findUp z.l t (5 - order) order with
  | some i =>
    obtain ⟨b, h1, h2, _⟩ := findUp_some hu
    exact z.cut_ok h h1 h2
  | none =>
    simp only
    cases hd : findDown z.l t order 5 with
    | some i =>
      obtain ⟨b, h1, h2⟩ := findDown_some hd
      simp only [h1]
      obtain ⟨s1, s2, s3, s4, s5⟩ := Zn.steal_ok h (b := b) ht
      obtain ⟨y, hy, hya, hyo⟩ := s5 i b h1
      obtain ⟨z', at_, g1, g2⟩ := Zn.cut_ok s1 hy (order := order) (by omega)
      refine ⟨z', at_, g1, g2.ok, g2.f.trans s3, g2.e.trans s4, by have := g2.fit; rwa [s3, s4] at this, g2.apart, fun p => (g2.cov p).trans (s2 p), ?_⟩
      obtain ⟨c, hc1, hc2, hc3⟩ := g2.inside
      have hcut : at_ = y.a := by
        unfold Zn.cut at g1
        rw [hy] at g1
        simp only [Option.some.injEq, Prod.mk.injEq] at g1
        exact g1.2.symm
      obtain ⟨hi, hbi⟩ := List.getElem?_eq_some_iff.1 h1
      exact ⟨b, by rw [← hbi]; exact List.getElem_mem hi, by rw [hcut, hya], h2⟩
    | none =>
      exfalso
      obtain ⟨b, hb, hbo⟩ := hb
      have h1 := findUp_none hu b hb
      have h2 := findDown_none hd b hb
      have h3 := h.2.fit b hb
      have h4 := h3.1.1
      by_cases he : b.t = t
      · exact h1 ⟨hbo, by omega, he⟩
      · refine h2 ⟨hbo, by omega, ?_⟩
        unfold oth1 oth2
        have h5 := h3.2
        obtain rfl | rfl | rfl : t = 0 ∨ t = 1 ∨ t = 2 := by omega
        all_goals simp only [Nat.reduceEqDiff, if_true, if_false]
        all_goals omega
theorem Zn.take_none {z : Zn} {order t : Nat} (h : ¬ ∃ b ∈ z.l, order ≤ b.o) : z.take order t = none := by
  unfold Zn.take
  cases hu : findUp z.l t (5 - order) order with
  | some i =>
    obtain ⟨b, h1, h2, _⟩ := findUp_some hu
    obtain ⟨hi, hbi⟩ := List.getElem?_eq_some_iff.1 h1
    exact absurd ⟨b, by rw [← hbi]; exact List.getElem_mem hi, h2⟩ h
  | none =>
    simp only
    cases hd : findDown z.l t order 5 with
    | some i =>
      obtain ⟨b, h1, h2⟩ := findDown_some hd
      obtain ⟨hi, hbi⟩ := List.getElem?_eq_some_iff.1 h1
      exact absurd ⟨b, by rw [← hbi]; exact List.getElem_mem hi, h2⟩ h
    | none => rfl
end Go.Proofs.YtbkajbjhffdlfaaDoor
