/- Zn, Zn2, Zn3: texts of this claim, joined. -/
import Derived.Test.YtkcaheebaicinaaGreatDoorSN1
/- Zones of pages in plain words: blocks that are free, taking and giving back; what is kept. No program in sight. -/
namespace Go.Proofs.YtkcaheebaicinaaGreatDoor
set_option linter.unusedVariables false

structure Bk where
  a : Nat
  o : Nat
  t : Nat
deriving DecidableEq
def Bk.fin (b : Bk) : Nat := b.a + 2 ^ b.o
/-- the place of the block beside -/
def bud (a o : Nat) : Nat := if a / 2 ^ o % 2 = 0 then a + 2 ^ o else a - 2 ^ o
structure Zn where
  f : Nat
  e : Nat
  l : List Bk
  y : List Nat
deriving DecidableEq
def fitsB (f e a o : Nat) : Prop := o ≤ 4 ∧ f ≤ a ∧ a < e ∧ a % 2 ^ o = 0
instance (f e a o : Nat) : Decidable (fitsB f e a o) := by unfold fitsB; infer_instance
/-- blocks that may be, in their order -/
structure OkL (f e : Nat) (l : List Bk) : Prop where
  fit : ∀ b ∈ l, fitsB f e b.a b.o ∧ b.t < 3
  sep : l.Pairwise fun x y => x.fin ≤ y.a
  nob : ∀ x ∈ l, ∀ y ∈ l, x.o = y.o → x.o < 4 → y.a ≠ bud x.a x.o
/-- a zone's bounds and types -/
structure OkZ (f e : Nat) (y : List Nat) : Prop where
  fe : f ≤ e
  e2 : e ≤ 256
  f16 : f % 16 = 0
  e16 : e % 16 = 0
  len : y.length = (e - f) / 8
  typ : ∀ t ∈ y, t < 3
def Zn.ok (z : Zn) : Prop := OkZ z.f z.e z.y ∧ OkL z.f z.e z.l
theorem okL_iff (f e : Nat) (l : List Bk) : OkL f e l ↔ (∀ b ∈ l, fitsB f e b.a b.o ∧ b.t < 3) ∧ (l.Pairwise fun x y => x.fin ≤ y.a) ∧ ∀ x ∈ l, ∀ y ∈ l, x.o = y.o → x.o < 4 → y.a ≠ bud x.a x.o :=
  ⟨fun h => ⟨h.fit, h.sep, h.nob⟩, fun h => ⟨h.1, h.2.1, h.2.2⟩⟩
theorem okZ_iff (f e : Nat) (y : List Nat) : OkZ f e y ↔ (f ≤ e ∧ e ≤ 256 ∧ f % 16 = 0 ∧ e % 16 = 0 ∧ y.length = (e - f) / 8 ∧ ∀ t ∈ y, t < 3) :=
  ⟨fun h => ⟨h.fe, h.e2, h.f16, h.e16, h.len, h.typ⟩, fun h => ⟨h.1, h.2.1, h.2.2.1, h.2.2.2.1, h.2.2.2.2.1, h.2.2.2.2.2⟩⟩
instance (f e : Nat) (l : List Bk) : Decidable (OkL f e l) := decidable_of_iff _ (okL_iff f e l).symm
instance (f e : Nat) (y : List Nat) : Decidable (OkZ f e y) := decidable_of_iff _ (okZ_iff f e y).symm
instance (z : Zn) : Decidable z.ok := by unfold Zn.ok; infer_instance

/-- no page in common -/
def apartB (a o : Nat) (x : Bk) : Prop := x.fin ≤ a ∨ a + 2 ^ o ≤ x.a
instance (a o : Nat) (x : Bk) : Decidable (apartB a o x) := by unfold apartB; infer_instance

/-- where a block stands, or would stand -/
def lb (l : List Bk) (a : Nat) : Nat := (l.takeWhile fun b => decide (b.a < a)).length

/-- a block grows by the ones beside it -/
def joinUp (l : List Bk) (a : Nat) : Nat → Nat → List Bk × Nat × Nat
  | 0, o => (l, a, o)
  | n + 1, o => match l[lb l (bud a o)]? with
    | some x => if x.a = bud a o ∧ x.o = o then joinUp (l.eraseIdx (lb l (bud a o))) (min a x.a) n (o + 1) else (l, a, o)
    | none => (l, a, o)
def putIn (l : List Bk) (b : Bk) : List Bk := l.take (lb l b.a) ++ b :: l.drop (lb l b.a)
def Zn.back (z : Zn) (a o : Nat) : Zn :=
  let r := joinUp z.l a (4 - o) o
  { z with l := putIn r.1 ⟨r.2.1, r.2.2, z.y.getD ((r.2.1 - z.f) / 8) 0⟩ }

/-! ## Powers of two up to 16 -/
theorem pow_le4 {o : Nat} (h : o ≤ 4) : 2 ^ o = 1 ∨ 2 ^ o = 2 ∨ 2 ^ o = 4 ∨ 2 ^ o = 8 ∨ 2 ^ o = 16 := by
  obtain rfl | rfl | rfl | rfl | rfl : o = 0 ∨ o = 1 ∨ o = 2 ∨ o = 3 ∨ o = 4 := by omega
  all_goals simp
theorem pow_pos' (o : Nat) : 0 < 2 ^ o := Nat.two_pow_pos o
theorem bud_cases {a o : Nat} (ho : o ≤ 4) (h : a % 2 ^ o = 0) : (bud a o = a + 2 ^ o ∧ a % 2 ^ (o + 1) = 0) ∨ (bud a o + 2 ^ o = a ∧ bud a o % 2 ^ (o + 1) = 0) := by
  unfold bud
  obtain rfl | rfl | rfl | rfl | rfl : o = 0 ∨ o = 1 ∨ o = 2 ∨ o = 3 ∨ o = 4 := by omega
  all_goals simp only [Nat.reducePow, Nat.reduceAdd] at *
  all_goals split <;> omega
theorem bud_bud {a o : Nat} (ho : o ≤ 4) (h : a % 2 ^ o = 0) : bud (bud a o) o = a := by
  unfold bud
  obtain rfl | rfl | rfl | rfl | rfl : o = 0 ∨ o = 1 ∨ o = 2 ∨ o = 3 ∨ o = 4 := by omega
  all_goals simp only [Nat.reducePow] at *
  all_goals (split <;> split <;> omega)
theorem fits_up {f e a o : Nat} (hf : f % 16 = 0) (he : e % 16 = 0) (ho : o < 4) (h : fitsB f e a o) : fitsB f e (min a (bud a o)) (o + 1) := by
  obtain ⟨h1, h2, h3, h4⟩ := h
  unfold fitsB bud
  obtain rfl | rfl | rfl | rfl : o = 0 ∨ o = 1 ∨ o = 2 ∨ o = 3 := by omega
  all_goals simp only [Nat.reducePow, Nat.reduceAdd] at *
  all_goals (split <;> omega)
theorem fits_end {f e a o : Nat} (he : e % 16 = 0) (h : fitsB f e a o) : a + 2 ^ o ≤ e := by
  obtain ⟨h1, h2, h3, h4⟩ := h
  obtain rfl | rfl | rfl | rfl | rfl : o = 0 ∨ o = 1 ∨ o = 2 ∨ o = 3 ∨ o = 4 := by omega
  all_goals simp only [Nat.reducePow] at *
  all_goals omega
theorem fits_half {f e a o : Nat} (he : e % 16 = 0) (h : fitsB f e a (o + 1)) : fitsB f e a o ∧ fitsB f e (a + 2 ^ o) o ∧ bud (a + 2 ^ o) o = a := by
  have h5 := fits_end he h
  obtain ⟨h1, h2, h3, h4⟩ := h
  unfold fitsB bud
  obtain rfl | rfl | rfl | rfl : o = 0 ∨ o = 1 ∨ o = 2 ∨ o = 3 := by omega
  all_goals simp only [Nat.reducePow, Nat.reduceAdd] at *
  all_goals (refine ⟨⟨by omega, by omega, by omega, by omega⟩, ⟨by omega, by omega, by omega, by omega⟩, ?_⟩; split <;> omega)

/-! ## Where a block stands -/
theorem take_tw {α : Type} (p : α → Bool) : ∀ l : List α, l.take (l.takeWhile p).length = l.takeWhile p
  | [] => rfl
  | x :: l => by
    rw [List.takeWhile_cons]
    split
    · rw [List.length_cons, List.take_succ_cons, take_tw p l]
    · rfl
theorem drop_tw {α : Type} (p : α → Bool) : ∀ l : List α, l.drop (l.takeWhile p).length = l.dropWhile p
  | [] => rfl
  | x :: l => by
    rw [List.takeWhile_cons, List.dropWhile_cons]
    split
    · rw [List.length_cons, List.drop_succ_cons, drop_tw p l]
    · rfl
theorem lb_le (l : List Bk) (a : Nat) : lb l a ≤ l.length := by
  have := congrArg List.length (take_tw (fun b : Bk => decide (b.a < a)) l)
  rw [List.length_take] at this
  unfold lb; omega
/-- blocks in rising order -/
def Rise (l : List Bk) : Prop := l.Pairwise fun x y => x.a < y.a
theorem OkL.rise {f e : Nat} {l : List Bk} (h : OkL f e l) : Rise l := h.sep.imp fun {x y} h1 => by
  have := pow_pos' x.o
  unfold Bk.fin at h1
  omega
theorem tw_mem {α : Type} {p : α → Bool} : ∀ {l : List α} {x : α}, x ∈ l.takeWhile p → p x = true
  | [], x, h => by simp at h
  | y :: l, x, h => by
    rw [List.takeWhile_cons] at h
    split at h
    · rcases List.mem_cons.1 h with rfl | h
      · assumption
      · exact tw_mem h
    · simp at h
theorem lb_below {l : List Bk} {a : Nat} : ∀ x ∈ l.take (lb l a), x.a < a := by
  intro x hx
  unfold lb at hx
  rw [take_tw] at hx
  have := tw_mem hx
  simpa using this
theorem lb_above {l : List Bk} (h : Rise l) {a : Nat} : ∀ x ∈ l.drop (lb l a), a ≤ x.a := by
  unfold lb
  rw [drop_tw]
  induction l with
  | nil => intro x hx; simp at hx
  | cons y l ih =>
    intro x hx
    rw [List.dropWhile_cons] at hx
    have hp := List.pairwise_cons.1 h
    split at hx
    · exact ih hp.2 x hx
    · rename_i hc
      have hy : a ≤ y.a := by simpa using hc
      rcases List.mem_cons.1 hx with rfl | hx
      · exact hy
      · have := hp.1 x hx; omega
theorem lb_hit {l : List Bk} (h : Rise l) {x : Bk} (hx : x ∈ l) : l[lb l x.a]? = some x := by
  have hd : x ∈ l.drop (lb l x.a) := by
    rw [← List.take_append_drop (lb l x.a) l, List.mem_append] at hx
    rcases hx with hx | hx
    · have := lb_below x hx; omega
    · exact hx
  rw [← List.head?_drop]
  have hr : Rise (l.drop (lb l x.a)) := h.sublist (List.drop_sublist _ _)
  have ha := lb_above h (a := x.a)
  cases hl : l.drop (lb l x.a) with
  | nil => rw [hl] at hd; simp at hd
  | cons y m =>
    rw [hl] at hd hr ha
    rcases List.mem_cons.1 hd with rfl | hd
    · rfl
    · have h1 := (List.pairwise_cons.1 hr).1 x hd
      have h2 := ha y (by simp)
      omega

/-! ## Pages -/
def inB (a o p : Nat) : Prop := a ≤ p ∧ p < a + 2 ^ o
def covL (l : List Bk) (p : Nat) : Prop := ∃ b ∈ l, inB b.a b.o p

/-! ## What is kept -/
theorem OkL.sublist {f e : Nat} {l m : List Bk} (h : OkL f e l) (hs : m.Sublist l) : OkL f e m :=
  ⟨fun b hb => h.fit b (hs.subset hb), h.sep.sublist hs, fun x hx y hy => h.nob x (hs.subset hx) y (hs.subset hy)⟩

theorem sep_two {l : List Bk} (h : l.Pairwise fun x y => x.fin ≤ y.a) {i j : Nat} (hi : i < l.length) (hj : j < l.length) (hne : i ≠ j) : l[i].fin ≤ l[j].a ∨ l[j].fin ≤ l[i].a := by
  rcases Nat.lt_or_ge i j with hlt | hge
  · exact .inl (List.pairwise_iff_getElem.1 h i j hi hj hlt)
  · exact .inr (List.pairwise_iff_getElem.1 h j i hj hi (by omega))

/-- a new block put in -/
theorem OkL.put {f e : Nat} {l : List Bk} (h : OkL f e l) {b : Bk} (hb : fitsB f e b.a b.o) (ht : b.t < 3) (hd : ∀ x ∈ l, apartB b.a b.o x) (hn : b.o < 4 → ∀ x ∈ l, x.o = b.o → x.a ≠ bud b.a b.o) : OkL f e (putIn l b) := by
  have hmem : ∀ x, x ∈ putIn l b ↔ x = b ∨ x ∈ l := fun x => by
    unfold putIn
    rw [List.mem_append, List.mem_cons]
    conv => rhs; rw [← List.take_append_drop (lb l b.a) l, List.mem_append]
    constructor
    · rintro (h | h | h)
      · exact .inr (.inl h)
      · exact .inl h
      · exact .inr (.inr h)
    · rintro (h | h | h)
      · exact .inr (.inl h)
      · exact .inl h
      · exact .inr (.inr h)
  refine ⟨fun x hx => ?_, ?_, fun x hx y hy he ho => ?_⟩
  · rcases (hmem x).1 hx with rfl | hx
    · exact ⟨hb, ht⟩
    · exact h.fit x hx
  · unfold putIn
    rw [List.pairwise_append]
    refine ⟨h.sep.sublist (List.take_sublist _ _), ?_, fun x hx y hy => ?_⟩
    · rw [List.pairwise_cons]
      refine ⟨fun y hy => ?_, h.sep.sublist (List.drop_sublist _ _)⟩
      have h1 := lb_above h.rise y hy
      have h2 := hd y (List.mem_of_mem_drop hy)
      have h3 := pow_pos' y.o
      unfold apartB Bk.fin at h2
      unfold Bk.fin
      omega
    · have h1 := lb_below x hx
      have h2 := hd x (List.mem_of_mem_take hx)
      have h3 := pow_pos' b.o
      rcases List.mem_cons.1 hy with rfl | hy
      · unfold apartB Bk.fin at h2
        unfold Bk.fin
        omega
      · have hs := h.sep
        rw [← List.take_append_drop (lb l b.a) l, List.pairwise_append] at hs
        exact hs.2.2 x hx y hy
  · have hself : b.o < 4 → b.a ≠ bud b.a b.o := fun _ e => by
      have hp := pow_pos' b.o
      rcases bud_cases hb.1 hb.2.2.2 with ⟨h1, _⟩ | ⟨h1, _⟩ <;> omega
    rcases (hmem x).1 hx with hxe | hxl
    · subst hxe
      rcases (hmem y).1 hy with hye | hyl
      · subst hye; exact hself ho
      · exact hn ho y hyl he.symm
    · rcases (hmem y).1 hy with hye | hyl
      · subst hye
        intro e2
        have hxf := (h.fit x hxl).1
        have := hn (by omega) x hxl he
        rw [e2, ← he, bud_bud hxf.1 hxf.2.2.2] at this
        exact this rfl
      · exact h.nob x hxl y hyl he ho

theorem covL_put {l : List Bk} {b : Bk} (p : Nat) : covL (putIn l b) p ↔ covL l p ∨ inB b.a b.o p := by
  unfold covL putIn
  constructor
  · rintro ⟨x, hx, hp⟩
    rw [List.mem_append, List.mem_cons] at hx
    rcases hx with hx | rfl | hx
    · exact .inl ⟨x, List.mem_of_mem_take hx, hp⟩
    · exact .inr hp
    · exact .inl ⟨x, List.mem_of_mem_drop hx, hp⟩
  · rintro (⟨x, hx, hp⟩ | hp)
    · rw [← List.take_append_drop (lb l b.a) l, List.mem_append] at hx
      refine ⟨x, ?_, hp⟩
      rw [List.mem_append, List.mem_cons]
      rcases hx with hx | hx
      · exact .inl hx
      · exact .inr (.inr hx)
    · exact ⟨b, by simp, hp⟩

/-- what a growing block comes to -/
structure Joined (f e : Nat) (l : List Bk) (a o : Nat) (l' : List Bk) (a' o' : Nat) : Prop where
  ok : OkL f e l'
  fit : fitsB f e a' o'
  apart : ∀ x ∈ l', apartB a' o' x
  last : o' < 4 → ∀ x ∈ l', x.o = o' → x.a ≠ bud a' o'
  cov : ∀ p, (covL l' p ∨ inB a' o' p) ↔ (covL l p ∨ inB a o p)

theorem joinUp_ok {f e : Nat} (hf : f % 16 = 0) (he : e % 16 = 0) : ∀ (n o : Nat) (l : List Bk) (a : Nat), n + o = 4 → OkL f e l → fitsB f e a o → (∀ x ∈ l, apartB a o x) → Joined f e l a o (joinUp l a n o).1 (joinUp l a n o).2.1 (joinUp l a n o).2.2
  | 0, o, l, a, hn, hl, hb, hd => ⟨hl, hb, hd, fun h => by simp only [joinUp] at h; omega, fun p => Iff.rfl⟩
  | n + 1, o, l, a, hn, hl, hb, hd => by
    have hstop : (∀ x ∈ l, x.o = o → x.a ≠ bud a o) → Joined f e l a o l a o := fun h => ⟨hl, hb, hd, fun _ => h, fun p => Iff.rfl⟩
    unfold joinUp
    cases hx : l[lb l (bud a o)]? with
    | none =>
      simp only
      refine hstop fun x hxl ho e2 => ?_
      have := lb_hit hl.rise hxl
      rw [e2, hx] at this
      cases this
    | some x =>
      simp only
      by_cases hc : x.a = bud a o ∧ x.o = o
      · rw [if_pos hc]
        obtain ⟨hi, hxi⟩ := List.getElem?_eq_some_iff.1 hx
        have hxm : x ∈ l := by rw [← hxi]; exact List.getElem_mem hi
        have hmem : ∀ y, y ∈ l.eraseIdx (lb l (bud a o)) → y ∈ l ∧ (y.fin ≤ x.a ∨ x.fin ≤ y.a) := fun y hy => by
          obtain ⟨j, hj, hne, rfl⟩ := List.mem_eraseIdx_iff_getElem.1 hy
          refine ⟨List.getElem_mem hj, ?_⟩
          rw [← hxi]
          exact sep_two hl.sep hj hi hne
        have ho4 : o < 4 := by omega
        have hp := pow_pos' o
        have hps : 2 ^ (o + 1) = 2 ^ o + 2 ^ o := by rw [Nat.pow_succ]; omega
        have hbc := bud_cases hb.1 hb.2.2.2
        have hmin : min a x.a = min a (bud a o) := by rw [hc.1]
        have hapart : ∀ y ∈ l.eraseIdx (lb l (bud a o)), apartB (min a x.a) (o + 1) y := fun y hy => by
          obtain ⟨hyl, hy2⟩ := hmem y hy
          have hy1 := hd y hyl
          have hpy := pow_pos' y.o
          unfold apartB Bk.fin at *
          rw [hc.2, hc.1] at hy2
          rw [hmin, hps]
          rcases hbc with ⟨h1, _⟩ | ⟨h1, _⟩ <;> omega
        have ih := joinUp_ok hf he n (o + 1) (l.eraseIdx (lb l (bud a o))) (min a x.a) (by omega) (hl.sublist (List.eraseIdx_sublist _ _)) (by rw [hmin]; exact fits_up hf he ho4 hb) hapart
        refine ⟨ih.ok, ih.fit, ih.apart, ih.last, fun p => (ih.cov p).trans ?_⟩
        have hcovx : inB (min a x.a) (o + 1) p ↔ (inB a o p ∨ inB x.a x.o p) := by
          unfold inB
          rw [hc.2, hc.1, hps]
          rcases hbc with ⟨h1, _⟩ | ⟨h1, _⟩ <;> omega
        rw [hcovx]
        constructor
        · rintro (⟨y, hy, h⟩ | h | h)
          · exact .inl ⟨y, (hmem y hy).1, h⟩
          · exact .inr h
          · exact .inl ⟨x, hxm, h⟩
        · rintro (⟨y, hy, h⟩ | h)
          · obtain ⟨j, hj, rfl⟩ := List.getElem_of_mem hy
            by_cases hje : j = lb l (bud a o)
            · subst hje
              rw [hxi] at h
              exact .inr (.inr h)
            · exact .inl ⟨_, List.mem_eraseIdx_iff_getElem.2 ⟨j, hj, hje, rfl⟩, h⟩
          · exact .inr (.inl h)
      · rw [if_neg hc]
        refine hstop fun y hyl ho e2 => ?_
        have := lb_hit hl.rise hyl
        rw [e2, hx] at this
        obtain rfl : x = y := by simpa using this
        exact hc ⟨e2, ho⟩

theorem Zn.back_ok {z : Zn} (h : z.ok) {a o : Nat} (hb : fitsB z.f z.e a o) (hd : ∀ x ∈ z.l, apartB a o x) : (z.back a o).ok ∧ ∀ p, covL (z.back a o).l p ↔ (covL z.l p ∨ inB a o p) := by
  obtain ⟨hz, hl⟩ := h
  have hj := joinUp_ok hz.f16 hz.e16 (4 - o) o z.l a (by have := hb.1; omega) hl hb hd
  unfold Zn.back Zn.ok
  simp only
  generalize (joinUp z.l a (4 - o) o).1 = l' at *
  generalize (joinUp z.l a (4 - o) o).2.1 = a' at *
  generalize (joinUp z.l a (4 - o) o).2.2 = o' at *
  refine ⟨⟨hz, hj.ok.put hj.fit ?_ hj.apart hj.last⟩, fun p => (covL_put p).trans (hj.cov p)⟩
  have h1 := hj.fit.2.1
  have h2 := hj.fit.2.2.1
  have hlt : (a' - z.f) / 8 < z.y.length := by rw [hz.len]; have := hz.f16; have := hz.e16; omega
  rw [List.getD_eq_getElem?_getD, List.getElem?_eq_getElem hlt]
  exact hz.typ _ (List.getElem_mem hlt)
end Go.Proofs.YtkcaheebaicinaaGreatDoor
/- Zones of pages in plain words: taking blocks. No program in sight. -/
namespace Go.Proofs.YtkcaheebaicinaaGreatDoor
set_option linter.unusedVariables false

def lowI (l : List Bk) (o t : Nat) : Option Nat := l.findIdx? fun b => decide (b.o = o ∧ b.t = t)
/-- the least order from o on that has a block of type t -/
def findUp (l : List Bk) (t : Nat) : Nat → Nat → Option Nat
  | 0, _ => none
  | n + 1, o => match lowI l o t with
    | some i => some i
    | none => findUp l t n (o + 1)
/-- the types that are asked when there is none of a type -/
def oth1 (t : Nat) : Nat := if t = 2 then 0 else 2
def oth2 (t : Nat) : Nat := if t = 1 then 0 else 1
/-- the greatest order below n, not below 'order', that has a block of another type -/
def findDown (l : List Bk) (t order : Nat) : Nat → Option Nat
  | 0 => none
  | n + 1 => if n < order then none else match lowI l n (oth1 t) with
    | some i => some i
    | none => match lowI l n (oth2 t) with
      | some i => some i
      | none => findDown l t order n
def setT (y : List Nat) (f a t : Nat) : Nat → List Nat
  | 0 => y
  | n + 1 => (setT y f a t n).set ((a + n - f) / 8) t
def markB (fr up t : Nat) (x : Bk) : Bk := if fr ≤ x.a ∧ x.fin ≤ up then { x with t := t } else x
def Zn.steal (z : Zn) (b : Bk) (t : Nat) : Zn :=
  if b.o < 2 then z else { z with l := z.l.map (markB (b.a / 8 * 8) (max b.fin (b.a / 8 * 8 + 8)) t), y := setT z.y z.f b.a t (2 ^ b.o) }
/-- halves are put back down to an order -/
def splitDown (l : List Bk) (a t order : Nat) : Nat → List Bk
  | 0 => l
  | o + 1 => if order ≤ o then splitDown (putIn l ⟨a + 2 ^ o, o, t⟩) a t order o else l
def Zn.cut (z : Zn) (i order : Nat) : Option (Zn × Nat) := match z.l[i]? with
  | some b => some ({ z with l := splitDown (z.l.eraseIdx i) b.a b.t order b.o }, b.a)
  | none => none
def Zn.take (z : Zn) (order t : Nat) : Option (Zn × Nat) := match findUp z.l t (5 - order) order with
  | some i => z.cut i order
  | none => match findDown z.l t order 5 with
    | some i => match z.l[i]? with
      | some b => (z.steal b t).cut i order
      | none => none
    | none => none

theorem lowI_some {l : List Bk} {o t i : Nat} (h : lowI l o t = some i) : ∃ b, l[i]? = some b ∧ b.o = o ∧ b.t = t := by
  unfold lowI at h
  rw [List.findIdx?_eq_some_iff_getElem] at h
  obtain ⟨hi, hp, _⟩ := h
  have hp' := of_decide_eq_true hp
  exact ⟨l[i], List.getElem?_eq_getElem hi, hp'.1, hp'.2⟩
theorem lowI_none {l : List Bk} {o t : Nat} (h : lowI l o t = none) : ∀ b ∈ l, ¬ (b.o = o ∧ b.t = t) := by
  unfold lowI at h
  rw [List.findIdx?_eq_none_iff] at h
  intro b hb
  exact of_decide_eq_false (h b hb)
theorem findUp_some {l : List Bk} {t : Nat} : ∀ {n o i : Nat}, findUp l t n o = some i → ∃ b, l[i]? = some b ∧ o ≤ b.o ∧ b.t = t
  | 0, _, _, h => by cases h
  | n + 1, o, i, h => by
    unfold findUp at h
    cases hl : lowI l o t with
    | some j =>
      rw [hl] at h
      obtain rfl : j = i := by simpa using h
      obtain ⟨b, h1, h2, h3⟩ := lowI_some hl
      exact ⟨b, h1, by omega, h3⟩
    | none =>
      rw [hl] at h
      obtain ⟨b, h1, h2, h3⟩ := findUp_some (n := n) (o := o + 1) (i := i) h
      exact ⟨b, h1, by omega, h3⟩
theorem findUp_none {l : List Bk} {t : Nat} : ∀ {n o : Nat}, findUp l t n o = none → ∀ b ∈ l, ¬ (o ≤ b.o ∧ b.o < o + n ∧ b.t = t)
  | 0, o, _, b, _, hc => by omega
  | n + 1, o, h, b, hb, hc => by
    unfold findUp at h
    cases hl : lowI l o t with
    | some j => rw [hl] at h; cases h
    | none =>
      rw [hl] at h
      have h1 := lowI_none hl b hb
      have h2 := findUp_none (n := n) (o := o + 1) h b hb
      by_cases he : b.o = o
      · exact h1 ⟨he, hc.2.2⟩
      · exact h2 ⟨by omega, by omega, hc.2.2⟩
theorem findDown_some {l : List Bk} {t order : Nat} : ∀ {n i : Nat}, findDown l t order n = some i → ∃ b, l[i]? = some b ∧ order ≤ b.o
  | 0, _, h => by cases h
  | n + 1, i, h => by
    unfold findDown at h
    by_cases hc : n < order
    · rw [if_pos hc] at h; cases h
    · rw [if_neg hc] at h
      cases h1 : lowI l n (oth1 t) with
      | some j =>
        rw [h1] at h
        obtain rfl : j = i := by simpa using h
        obtain ⟨b, g1, g2, _⟩ := lowI_some h1
        exact ⟨b, g1, by omega⟩
      | none =>
        rw [h1] at h
        cases h2 : lowI l n (oth2 t) with
        | some j =>
          rw [h2] at h
          obtain rfl : j = i := by simpa using h
          obtain ⟨b, g1, g2, _⟩ := lowI_some h2
          exact ⟨b, g1, by omega⟩
        | none =>
          rw [h2] at h
          exact findDown_some (n := n) h
theorem findDown_none {l : List Bk} {t order : Nat} : ∀ {n : Nat}, findDown l t order n = none → ∀ b ∈ l, ¬ (order ≤ b.o ∧ b.o < n ∧ (b.t = oth1 t ∨ b.t = oth2 t))
  | 0, _, b, _, hc => by omega
  | n + 1, h, b, hb, hc => by
    unfold findDown at h
    by_cases hn : n < order
    · omega
    · rw [if_neg hn] at h
      cases h1 : lowI l n (oth1 t) with
      | some j => rw [h1] at h; cases h
      | none =>
        rw [h1] at h
        cases h2 : lowI l n (oth2 t) with
        | some j => rw [h2] at h; cases h
        | none =>
          rw [h2] at h
          have g1 := lowI_none h1 b hb
          have g2 := lowI_none h2 b hb
          have g3 := findDown_none (n := n) h b hb
          by_cases he : b.o = n
          · rcases hc.2.2 with h | h
            · exact g1 ⟨he, h⟩
            · exact g2 ⟨he, h⟩
          · exact g3 ⟨hc.1, by omega, hc.2.2⟩

theorem setT_length (y : List Nat) (f a t : Nat) : ∀ n, (setT y f a t n).length = y.length
  | 0 => rfl
  | n + 1 => by simp [setT, setT_length y f a t n]
theorem setT_all {y : List Nat} {f a t : Nat} (ht : t < 3) (h : ∀ u ∈ y, u < 3) : ∀ n, ∀ u ∈ setT y f a t n, u < 3
  | 0 => h
  | n + 1 => fun u hu => by
    unfold setT at hu
    rcases List.mem_or_eq_of_mem_set hu with hu | rfl
    · exact setT_all ht h n u hu
    · exact ht

theorem OkL.map {f e : Nat} {l : List Bk} (h : OkL f e l) {g : Bk → Bk} (ha : ∀ x, (g x).a = x.a) (ho : ∀ x, (g x).o = x.o) (ht : ∀ x, x.t < 3 → (g x).t < 3) : OkL f e (l.map g) := by
  refine ⟨fun b hb => ?_, ?_, fun x hx y hy he ho4 => ?_⟩
  · obtain ⟨x, hx, rfl⟩ := List.mem_map.1 hb
    obtain ⟨h1, h2⟩ := h.fit x hx
    rw [ha, ho]
    exact ⟨h1, ht x h2⟩
  · rw [List.pairwise_map]
    refine h.sep.imp fun {x y} h1 => ?_
    unfold Bk.fin at *
    rw [ha, ha, ho]; exact h1
  · obtain ⟨x', hx', rfl⟩ := List.mem_map.1 hx
    obtain ⟨y', hy', rfl⟩ := List.mem_map.1 hy
    rw [ho, ho] at he
    rw [ho] at ho4
    rw [ha, ha, ho]
    exact h.nob x' hx' y' hy' he ho4
theorem covL_map {l : List Bk} {g : Bk → Bk} (ha : ∀ x, (g x).a = x.a) (ho : ∀ x, (g x).o = x.o) (p : Nat) : covL (l.map g) p ↔ covL l p := by
  unfold covL
  constructor
  · rintro ⟨b, hb, hp⟩
    obtain ⟨x, hx, rfl⟩ := List.mem_map.1 hb
    rw [ha, ho] at hp
    exact ⟨x, hx, hp⟩
  · rintro ⟨x, hx, hp⟩
    exact ⟨g x, List.mem_map_of_mem hx, by rw [ha, ho]; exact hp⟩
theorem markB_a (fr up t : Nat) (x : Bk) : (markB fr up t x).a = x.a := by unfold markB; split <;> rfl
theorem markB_o (fr up t : Nat) (x : Bk) : (markB fr up t x).o = x.o := by unfold markB; split <;> rfl
theorem markB_t {fr up t : Nat} (ht : t < 3) (x : Bk) (h : x.t < 3) : (markB fr up t x).t < 3 := by unfold markB; split <;> simp [ht, h]

theorem Zn.steal_ok {z : Zn} (h : z.ok) {b : Bk} {t : Nat} (ht : t < 3) : (z.steal b t).ok ∧ (∀ p, covL (z.steal b t).l p ↔ covL z.l p) ∧ (z.steal b t).f = z.f ∧ (z.steal b t).e = z.e ∧ ∀ (i : Nat) (x : Bk), z.l[i]? = some x → ∃ y : Bk, (z.steal b t).l[i]? = some y ∧ y.a = x.a ∧ y.o = x.o := by
  unfold Zn.steal
  split
  · exact ⟨h, fun _ => Iff.rfl, rfl, rfl, fun i x hx => ⟨x, hx, rfl, rfl⟩⟩
  · refine ⟨⟨⟨h.1.fe, h.1.e2, h.1.f16, h.1.e16, by simp only [setT_length]; exact h.1.len, setT_all ht h.1.typ _⟩, h.2.map (markB_a _ _ _) (markB_o _ _ _) (markB_t ht)⟩, fun p => covL_map (markB_a _ _ _) (markB_o _ _ _) p, rfl, rfl, fun i x hx => ⟨markB (b.a / 8 * 8) (max b.fin (b.a / 8 * 8 + 8)) t x, by simp only [List.getElem?_map, hx, Option.map_some], markB_a _ _ _ _, markB_o _ _ _ _⟩⟩

theorem split_ok {f e a t order : Nat} (he : e % 16 = 0) (ht : t < 3) : ∀ (o : Nat) (l : List Bk), order ≤ o → OkL f e l → fitsB f e a o → (∀ x ∈ l, apartB a o x) →
    OkL f e (splitDown l a t order o) ∧ fitsB f e a order ∧ (∀ x ∈ splitDown l a t order o, apartB a order x) ∧ ∀ p, (covL (splitDown l a t order o) p ∨ inB a order p) ↔ (covL l p ∨ inB a o p)
  | 0, l, ho, hl, hb, hd => by
    obtain rfl : order = 0 := by omega
    exact ⟨hl, hb, hd, fun p => Iff.rfl⟩
  | o + 1, l, ho, hl, hb, hd => by
    unfold splitDown
    by_cases hc : order ≤ o
    · rw [if_pos hc]
      obtain ⟨h1, h2, h3⟩ := fits_half he hb
      have hp := pow_pos' o
      have hps : 2 ^ (o + 1) = 2 ^ o + 2 ^ o := by rw [Nat.pow_succ]; omega
      have hl' : OkL f e (putIn l ⟨a + 2 ^ o, o, t⟩) := hl.put h2 ht (fun x hx => by
          have := hd x hx
          unfold apartB Bk.fin at *
          rw [hps] at this
          simp only
          omega) (fun _ x hx hxo => by
          simp only at hxo ⊢
          rw [h3]
          have := hd x hx
          have hpx := pow_pos' x.o
          unfold apartB Bk.fin at this
          omega)
      have hd' : ∀ x ∈ putIn l ⟨a + 2 ^ o, o, t⟩, apartB a o x := fun x hx => by
        unfold putIn at hx
        rw [List.mem_append, List.mem_cons] at hx
        rcases hx with hx | rfl | hx
        · have := hd x (List.mem_of_mem_take hx)
          unfold apartB at *
          omega
        · unfold apartB; simp only; omega
        · have := hd x (List.mem_of_mem_drop hx)
          unfold apartB at *
          omega
      obtain ⟨g1, g2, g3, g4⟩ := split_ok he ht o _ hc hl' h1 hd'
      refine ⟨g1, g2, g3, fun p => (g4 p).trans ?_⟩
      rw [covL_put]
      simp only
      unfold inB
      rw [hps]
      constructor
      · rintro ((h | h) | h)
        · exact .inl h
        · exact .inr (by omega)
        · exact .inr (by omega)
      · rintro (h | h)
        · exact .inl (.inl h)
        · by_cases hpa : p < a + 2 ^ o
          · exact .inr (by omega)
          · exact .inl (.inr (by omega))
    · rw [if_neg hc]
      obtain rfl : order = o + 1 := by omega
      exact ⟨hl, hb, hd, fun p => Iff.rfl⟩

/-- what Take gives -/
structure Taken (z : Zn) (order : Nat) (z' : Zn) (at_ : Nat) : Prop where
  ok : z'.ok
  f : z'.f = z.f
  e : z'.e = z.e
  fit : fitsB z.f z.e at_ order
  apart : ∀ x ∈ z'.l, apartB at_ order x
  cov : ∀ p, (covL z'.l p ∨ inB at_ order p) ↔ covL z.l p
  inside : ∃ b ∈ z.l, b.a = at_ ∧ order ≤ b.o

theorem Zn.cut_ok {z : Zn} (h : z.ok) {i order : Nat} {b : Bk} (hb : z.l[i]? = some b) (ho : order ≤ b.o) : ∃ z' at_, z.cut i order = some (z', at_) ∧ Taken z order z' at_ := by
  obtain ⟨hi, hbi⟩ := List.getElem?_eq_some_iff.1 hb
  have hbm : b ∈ z.l := by rw [← hbi]; exact List.getElem_mem hi
  have hfit := h.2.fit b hbm
  have hmem : ∀ y, y ∈ z.l.eraseIdx i → y ∈ z.l ∧ (y.fin ≤ b.a ∨ b.fin ≤ y.a) := fun y hy => by
    obtain ⟨j, hj, hne, rfl⟩ := List.mem_eraseIdx_iff_getElem.1 hy
    refine ⟨List.getElem_mem hj, ?_⟩
    rw [← hbi]
    exact sep_two h.2.sep hj hi hne
  obtain ⟨g1, g2, g3, g4⟩ := split_ok (t := b.t) h.1.e16 hfit.2 b.o (z.l.eraseIdx i) ho (h.2.sublist (List.eraseIdx_sublist _ _)) hfit.1 (fun y hy => (hmem y hy).2)
  refine ⟨{ z with l := splitDown (z.l.eraseIdx i) b.a b.t order b.o }, b.a, by unfold Zn.cut; rw [hb], ⟨h.1, g1⟩, rfl, rfl, g2, g3, fun p => (g4 p).trans ?_, b, hbm, rfl, ho⟩
  constructor
  · rintro (⟨y, hy, hp⟩ | hp)
    · exact ⟨y, (hmem y hy).1, hp⟩
    · exact ⟨b, hbm, hp⟩
  · rintro ⟨y, hy, hp⟩
    obtain ⟨j, hj, rfl⟩ := List.getElem_of_mem hy
    by_cases hje : j = i
    · subst hje
      rw [hbi] at hp
      exact .inr hp
    · exact .inl ⟨_, List.mem_eraseIdx_iff_getElem.2 ⟨j, hj, hje, rfl⟩, hp⟩

theorem Zn.take_some {z : Zn} (h : z.ok) {order t : Nat} (ho : order ≤ 4) (ht : t < 3) (hb : ∃ b ∈ z.l, order ≤ b.o) : ∃ z' at_, z.take order t = some (z', at_) ∧ Taken z order z' at_ := by
  unfold Zn.take
  cases hu : findUp z.l t (5 - order) order with
  | some i =>
    obtain ⟨b, h1, h2, _⟩ := findUp_some hu
    exact z.cut_ok h h1 h2
  | none =>
    simp only
    cases hd : findDown z.l t order 5 with
    | some i =>
      obtain ⟨b, h1, h2⟩ := findDown_some hd
      simp only [h1]
      obtain ⟨s1, s2, s3, s4, s5⟩ := Zn.steal_ok h (b := b) ht
      obtain ⟨y, hy, hya, hyo⟩ := s5 i b h1
      obtain ⟨z', at_, g1, g2⟩ := Zn.cut_ok s1 hy (order := order) (by omega)
      refine ⟨z', at_, g1, g2.ok, g2.f.trans s3, g2.e.trans s4, by have := g2.fit; rwa [s3, s4] at this, g2.apart, fun p => (g2.cov p).trans (s2 p), ?_⟩
      obtain ⟨c, hc1, hc2, hc3⟩ := g2.inside
      have hcut : at_ = y.a := by
        unfold Zn.cut at g1
        rw [hy] at g1
        simp only [Option.some.injEq, Prod.mk.injEq] at g1
        exact g1.2.symm
      obtain ⟨hi, hbi⟩ := List.getElem?_eq_some_iff.1 h1
      exact ⟨b, by rw [← hbi]; exact List.getElem_mem hi, by rw [hcut, hya], h2⟩
    | none =>
      exfalso
      obtain ⟨b, hb, hbo⟩ := hb
      have h1 := findUp_none hu b hb
      have h2 := findDown_none hd b hb
      have h3 := h.2.fit b hb
      have h4 := h3.1.1
      by_cases he : b.t = t
      · exact h1 ⟨hbo, by omega, he⟩
      · refine h2 ⟨hbo, by omega, ?_⟩
        unfold oth1 oth2
        have h5 := h3.2
        obtain rfl | rfl | rfl : t = 0 ∨ t = 1 ∨ t = 2 := by omega
        all_goals simp only [Nat.reduceEqDiff, if_true, if_false]
        all_goals omega
theorem Zn.take_none {z : Zn} {order t : Nat} (h : ¬ ∃ b ∈ z.l, order ≤ b.o) : z.take order t = none := by
  unfold Zn.take
  cases hu : findUp z.l t (5 - order) order with
  | some i =>
    obtain ⟨b, h1, h2, _⟩ := findUp_some hu
    obtain ⟨hi, hbi⟩ := List.getElem?_eq_some_iff.1 h1
    exact absurd ⟨b, by rw [← hbi]; exact List.getElem_mem hi, h2⟩ h
  | none =>
    simp only
    cases hd : findDown z.l t order 5 with
    | some i =>
      obtain ⟨b, h1, h2⟩ := findDown_some hd
      obtain ⟨hi, hbi⟩ := List.getElem?_eq_some_iff.1 h1
      exact absurd ⟨b, by rw [← hbi]; exact List.getElem_mem hi, h2⟩ h
    | none => rfl
end Go.Proofs.YtkcaheebaicinaaGreatDoor
/- Zones of pages in plain words: what holds while blocks are taken and come back. No program in sight. -/
namespace Go.Proofs.YtkcaheebaicinaaGreatDoor
set_option linter.unusedVariables false

theorem apart_of_disj {a o : Nat} {x : Bk} (h : ∀ p, inB a o p → ¬ inB x.a x.o p) : apartB a o x := by
  have h1 := pow_pos' o
  have h2 := pow_pos' x.o
  unfold apartB Bk.fin
  have h3 := h (max a x.a)
  unfold inB at h3
  omega
theorem disj_of_apart {a o : Nat} {x : Bk} (h : apartB a o x) (p : Nat) (hp : inB a o p) : ¬ inB x.a x.o p := by
  unfold apartB Bk.fin at h
  unfold inB at *
  omega

/-- what holds of a zone and of the blocks that are away -/
structure ZInv (lo hi : Nat) (z : Zn) (away : List Bk) : Prop where
  ok : z.ok
  fits : ∀ b ∈ away, fitsB z.f z.e b.a b.o
  apart : ∀ b ∈ away, ∀ x ∈ z.l, apartB b.a b.o x
  each : away.Pairwise fun b c => apartB b.a b.o c
  cov : ∀ p, (covL z.l p ∨ covL away p) ↔ (lo ≤ p ∧ p < hi)

theorem apart_symm {b c : Bk} (h : apartB b.a b.o c) : apartB c.a c.o b := by
  unfold apartB Bk.fin at *
  omega

theorem ZInv.take {lo hi : Nat} {z : Zn} {away : List Bk} (h : ZInv lo hi z away) {order at_ : Nat} {z' : Zn} (ht : Taken z order z' at_) (t : Nat) : ZInv lo hi z' (away ++ [⟨at_, order, t⟩]) := by
  obtain ⟨c, hc, hca, hco⟩ := ht.inside
  have hcov : ∀ p, inB at_ order p → covL z.l p := fun p hp => (ht.cov p).1 (.inr hp)
  have hcov2 : ∀ p, covL z'.l p → covL z.l p := fun p hp => (ht.cov p).1 (.inl hp)
  have hd : ∀ b ∈ away, ∀ p, inB b.a b.o p → ¬ covL z.l p := fun b hb p hp ⟨x, hx, hxp⟩ => disj_of_apart (h.apart b hb x hx) p hp hxp
  have hff : z'.f = z.f := ht.f
  have hee : z'.e = z.e := ht.e
  refine ⟨ht.ok, fun b hb => ?_, fun b hb x hx => ?_, ?_, fun p => ?_⟩
  · rw [hff, hee]
    rw [List.mem_append, List.mem_singleton] at hb
    rcases hb with hb | rfl
    · exact h.fits b hb
    · exact ht.fit
  · rw [List.mem_append, List.mem_singleton] at hb
    rcases hb with hb | rfl
    · exact apart_of_disj fun p hp hxp => hd b hb p hp (hcov2 p ⟨x, hx, hxp⟩)
    · exact ht.apart x hx
  · rw [List.pairwise_append]
    refine ⟨h.each, by simp, fun b hb c hc => ?_⟩
    rw [List.mem_singleton] at hc
    subst hc
    exact apart_of_disj fun p hp hcp => hd b hb p hp (hcov p hcp)
  · have h1 := h.cov p
    have h2 := ht.cov p
    have h3 : covL (away ++ [⟨at_, order, t⟩]) p ↔ (covL away p ∨ inB at_ order p) := by
      unfold covL
      constructor
      · rintro ⟨b, hb, hp⟩
        rw [List.mem_append, List.mem_singleton] at hb
        rcases hb with hb | rfl
        · exact .inl ⟨b, hb, hp⟩
        · exact .inr hp
      · rintro (⟨b, hb, hp⟩ | hp)
        · exact ⟨b, by simp [hb], hp⟩
        · exact ⟨⟨at_, order, t⟩, by simp, hp⟩
    rw [h3]
    constructor
    · rintro (h | h | h)
      · exact h1.1 (.inl (h2.1 (.inl h)))
      · exact h1.1 (.inr h)
      · exact h1.1 (.inl (h2.1 (.inr h)))
    · intro h
      rcases h1.2 h with h | h
      · rcases h2.2 h with h | h
        · exact .inl h
        · exact .inr (.inr h)
      · exact .inr (.inl h)

theorem ZInv.back {lo hi : Nat} {z : Zn} {away : List Bk} (h : ZInv lo hi z away) {k : Nat} (hk : k < away.length) : ZInv lo hi (z.back away[k].a away[k].o) (away.eraseIdx k) := by
  have hm : away[k] ∈ away := List.getElem_mem hk
  obtain ⟨g1, g2⟩ := z.back_ok h.ok (h.fits _ hm) (h.apart _ hm)
  have hmem : ∀ y, y ∈ away.eraseIdx k → y ∈ away ∧ apartB y.a y.o away[k] := fun y hy => by
    obtain ⟨j, hj, hne, rfl⟩ := List.mem_eraseIdx_iff_getElem.1 hy
    refine ⟨List.getElem_mem hj, ?_⟩
    rcases Nat.lt_or_ge j k with hlt | hge
    · exact List.pairwise_iff_getElem.1 h.each j k hj hk hlt
    · exact apart_symm (List.pairwise_iff_getElem.1 h.each k j hk hj (by omega))
  refine ⟨g1, fun b hb => h.fits b (hmem b hb).1, fun b hb x hx => ?_, h.each.sublist (List.eraseIdx_sublist _ _), fun p => ?_⟩
  · refine apart_of_disj fun p hp hxp => ?_
    rcases (g2 p).1 ⟨x, hx, hxp⟩ with ⟨y, hy, hyp⟩ | hyp
    · exact disj_of_apart (h.apart b (hmem b hb).1 y hy) p hp hyp
    · exact disj_of_apart (hmem b hb).2 p hp hyp
  · rw [g2 p, ← h.cov p]
    constructor
    · rintro ((h | h) | ⟨b, hb, hp⟩)
      · exact .inl h
      · exact .inr ⟨_, hm, h⟩
      · exact .inr ⟨b, (hmem b hb).1, hp⟩
    · rintro (h | ⟨b, hb, hp⟩)
      · exact .inl (.inl h)
      · obtain ⟨j, hj, rfl⟩ := List.getElem_of_mem hb
        by_cases hje : j = k
        · subst hje; exact .inl (.inr hp)
        · exact .inr ⟨_, List.mem_eraseIdx_iff_getElem.2 ⟨j, hj, hje, rfl⟩, hp⟩

/-! ## The zone that the laws begin with -/
def giveTo (z : Zn) (p : Nat) : Nat → Zn
  | 0 => z
  | n + 1 => (giveTo z p n).back (p + n) 0
def zone0 : Zn := ⟨16, 112, [], List.replicate 12 1⟩
def zone1 : Zn := giveTo zone0 18 90

theorem giveTo_ok {z : Zn} {p : Nat} (h : z.ok) (hl : z.l = []) (hp : z.f ≤ p) : ∀ n, p + n ≤ z.e → (giveTo z p n).ok ∧ (giveTo z p n).f = z.f ∧ (giveTo z p n).e = z.e ∧ ∀ q, covL (giveTo z p n).l q ↔ (p ≤ q ∧ q < p + n)
  | 0, _ => ⟨h, rfl, rfl, fun q => by
      show covL z.l q ↔ _
      rw [hl]
      constructor
      · rintro ⟨b, hb, _⟩; simp at hb
      · intro h; omega⟩
  | n + 1, hn => by
    obtain ⟨g1, g2, g3, g4⟩ := giveTo_ok h hl hp n (by omega)
    have hfit : fitsB (giveTo z p n).f (giveTo z p n).e (p + n) 0 := by rw [g2, g3]; exact ⟨by omega, by omega, by omega, by simp [Nat.mod_one]⟩
    have hap : ∀ x ∈ (giveTo z p n).l, apartB (p + n) 0 x := fun x hx => apart_of_disj fun q hq hxq => by
      have := (g4 q).1 ⟨x, hx, hxq⟩
      unfold inB at hq
      simp only [Nat.pow_zero] at hq
      omega
    obtain ⟨k1, k2⟩ := Zn.back_ok g1 hfit hap
    refine ⟨k1, g2, g3, fun q => ?_⟩
    show covL ((giveTo z p n).back (p + n) 0).l q ↔ _
    rw [k2, g4]
    unfold inB
    simp only [Nat.pow_zero]
    omega
theorem giveTo_step {z : Zn} {p : Nat} (h : z.ok) (hl : z.l = []) (hp : z.f ≤ p) {n : Nat} (hn : p + (n + 1) ≤ z.e) : fitsB (giveTo z p n).f (giveTo z p n).e (p + n) 0 ∧ ∀ x ∈ (giveTo z p n).l, apartB (p + n) 0 x := by
  obtain ⟨g1, g2, g3, g4⟩ := giveTo_ok h hl hp n (by omega)
  refine ⟨by rw [g2, g3]; exact ⟨by omega, by omega, by omega, by simp [Nat.mod_one]⟩, fun x hx => apart_of_disj fun q hq hxq => ?_⟩
  have := (g4 q).1 ⟨x, hx, hxq⟩
  unfold inB at hq
  simp only [Nat.pow_zero] at hq
  omega
theorem zone0_ok : zone0.ok := by decide +kernel
theorem zinv1 : ZInv 18 108 zone1 [] := by
  obtain ⟨g1, g2, g3, g4⟩ := giveTo_ok (p := 18) zone0_ok rfl (by decide) 90 (by decide)
  refine ⟨g1, by simp, by simp, by simp, fun p => ?_⟩
  have := g4 p
  constructor
  · rintro (h | ⟨b, hb, _⟩)
    · have := this.1 h; omega
    · simp at hb
  · intro h
    exact .inl (this.2 (by omega))
theorem zone1_is : zone1 = ⟨16, 112, [⟨18, 1, 1⟩, ⟨20, 2, 1⟩, ⟨24, 3, 1⟩, ⟨32, 4, 1⟩, ⟨48, 4, 1⟩, ⟨64, 4, 1⟩, ⟨80, 4, 1⟩, ⟨96, 3, 1⟩, ⟨104, 2, 1⟩], List.replicate 12 1⟩ := by decide +kernel

/-- one free block for each free page and order: the list has no more than 96 blocks -/
theorem OkL.length_le {f e : Nat} : ∀ {l : List Bk}, OkL f e l → (∀ b ∈ l, b.a < e) → l.length ≤ e
  | l, h, hb => by
    have hr := h.rise
    have : ∀ (l : List Bk) (n : Nat), Rise l → (∀ b ∈ l, n ≤ b.a ∧ b.a < e) → n ≤ e → l.length + n ≤ e := by
      intro l
      induction l with
      | nil => intro n _ _ hn; simp; exact hn
      | cons x l ih =>
        intro n hr hb hn
        have h1 := hb x (by simp)
        have hp := List.pairwise_cons.1 hr
        have := ih (x.a + 1) hp.2 (fun y hy => ⟨hp.1 y hy, (hb y (by simp [hy])).2⟩) (by omega)
        simp only [List.length_cons]
        omega
    have := this l 0 hr (fun b h => ⟨by omega, hb b h⟩) (by omega)
    omega
end Go.Proofs.YtkcaheebaicinaaGreatDoor
