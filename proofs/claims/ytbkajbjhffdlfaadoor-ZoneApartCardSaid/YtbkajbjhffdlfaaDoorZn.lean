/- Zones of pages in plain words: blocks that are free, taking and giving back; what is kept. No program in sight. -/
import Derived.Test.YtbkajbjhffdlfaaDoorBase
namespace Go.Proofs.YtbkajbjhffdlfaaDoor
set_option linter.unusedVariables false

structure Bk where
  a : Nat
  o : Nat
  t : Nat
deriving DecidableEq
def Bk.fin (b : Bk) : Nat := b.a + 2 ^ b.o
/-- the place of the block beside -/
def bud (a o : Nat) : Nat := if a / 2 ^ o % 2 = 0 then a + 2 ^ o else a - 2 ^ o
structure Zn where
  f : Nat
  e : Nat
  l : List Bk
  y : List Nat
deriving DecidableEq
def fitsB (f e a o : Nat) : Prop := o ≤ 4 ∧ f ≤ a ∧ a < e ∧ a % 2 ^ o = 0
instance (f e a o : Nat) : Decidable (fitsB f e a o) := by unfold fitsB; infer_instance
/-- blocks that may be, in their order -/
structure OkL (f e : Nat) (l : List Bk) : Prop where
  fit : ∀ b ∈ l, fitsB f e b.a b.o ∧ b.t < 3
  sep : l.Pairwise fun x y => x.fin ≤ y.a
  nob : ∀ x ∈ l, ∀ y ∈ l, x.o = y.o → x.o < 4 → y.a ≠ bud x.a x.o
/-- a zone's bounds and types -/
structure OkZ (f e : Nat) (y : List Nat) : Prop where
  fe : f ≤ e
  e2 : e ≤ 256
  f16 : f % 16 = 0
  e16 : e % 16 = 0
  len : y.length = (e - f) / 8
  typ : ∀ t ∈ y, t < 3
def Zn.ok (z : Zn) : Prop := OkZ z.f z.e z.y ∧ OkL z.f z.e z.l
theorem okL_iff (f e : Nat) (l : List Bk) : OkL f e l ↔ (∀ b ∈ l, fitsB f e b.a b.o ∧ b.t < 3) ∧ (l.Pairwise fun x y => x.fin ≤ y.a) ∧ ∀ x ∈ l, ∀ y ∈ l, x.o = y.o → x.o < 4 → y.a ≠ bud x.a x.o :=
  ⟨fun h => ⟨h.fit, h.sep, h.nob⟩, fun h => ⟨h.1, h.2.1, h.2.2⟩⟩
theorem okZ_iff (f e : Nat) (y : List Nat) : OkZ f e y ↔ (f ≤ e ∧ e ≤ 256 ∧ f % 16 = 0 ∧ e % 16 = 0 ∧ y.length = (e - f) / 8 ∧ ∀ t ∈ y, t < 3) :=
  ⟨fun h => ⟨h.fe, h.e2, h.f16, h.e16, h.len, h.typ⟩, fun h => ⟨h.1, h.2.1, h.2.2.1, h.2.2.2.1, h.2.2.2.2.1, h.2.2.2.2.2⟩⟩
instance (f e : Nat) (l : List Bk) : Decidable (OkL f e l) := decidable_of_iff _ (okL_iff f e l).symm
instance (f e : Nat) (y : List Nat) : Decidable (OkZ f e y) := decidable_of_iff _ (okZ_iff f e y).symm
instance (z : Zn) : Decidable z.ok := by unfold Zn.ok; infer_instance

/-- no page in common -/
def apartB (a o : Nat) (x : Bk) : Prop := x.fin ≤ a ∨ a + 2 ^ o ≤ x.a
instance (a o : Nat) (x : Bk) : Decidable (apartB a o x) := by unfold apartB; infer_instance

/-- where a block stands, or would stand -/
def lb (l : List Bk) (a : Nat) : Nat := (l.takeWhile fun b => decide (b.a < a)).length

/-- a block grows by the ones beside it -/
def joinUp (l : List Bk) (a : Nat) : Nat → Nat → List Bk × Nat × Nat
  | 0, o => (l, a, o)
  | n + 1, o => match l[lb l (bud a o)]? with
    | some x => if x.a = bud a o ∧ x.o = o then joinUp (l.eraseIdx (lb l (bud a o))) (min a x.a) n (o + 1) else (l, a, o)
    | none => (l, a, o)
def putIn (l : List Bk) (b : Bk) : List Bk := l.take (lb l b.a) ++ b :: l.drop (lb l b.a)
def Zn.back (z : Zn) (a o : Nat) : Zn :=
  let r := joinUp z.l a (4 - o) o
  { z with l := putIn r.1 ⟨r.2.1, r.2.2, z.y.getD ((r.2.1 - z.f) / 8) 0⟩ }

/-! ## Powers of two up to 16 -/
theorem pow_le4 {o : Nat} (h : o ≤ 4) : 2 ^ o = 1 ∨ 2 ^ o = 2 ∨ 2 ^ o = 4 ∨ 2 ^ o = 8 ∨ 2 ^ o = 16 := by
  obtain rfl | rfl | rfl | rfl | rfl : o = 0 ∨ o = 1 ∨ o = 2 ∨ o = 3 ∨ o = 4 := by omega
  all_goals simp
theorem pow_pos' (o : Nat) : 0 < 2 ^ o := Nat.two_pow_pos o
theorem bud_cases {a o : Nat} (ho : o ≤ 4) (h : a % 2 ^ o = 0) : (bud a o = a + 2 ^ o ∧ a % 2 ^ (o + 1) = 0) ∨ (bud a o + 2 ^ o = a ∧ bud a o % 2 ^ (o + 1) = 0) := by
  unfold bud
  obtain rfl | rfl | rfl | rfl | rfl : o = 0 ∨ o = 1 ∨ o = 2 ∨ o = 3 ∨ o = 4 := by omega
  all_goals simp only [Nat.reducePow, Nat.reduceAdd] at *
  all_goals split <;> omega
theorem bud_bud {a o : Nat} (ho : o ≤ 4) (h : a % 2 ^ o = 0) : bud (bud a o) o = a := by
  unfold bud
  obtain rfl | rfl | rfl | rfl | rfl : o = 0 ∨ o = 1 ∨ o = 2 ∨ o = 3 ∨ o = 4 := by omega
  all_goals simp only [Nat.reducePow] at *
  all_goals (split <;> split <;> omega)
theorem fits_up {f e a o : Nat} (hf : f % 16 = 0) (he : e % 16 = 0) (ho : o < 4) (h : fitsB f e a o) : fitsB f e (min a (bud a o)) (o + 1) := by
  obtain ⟨h1, h2, h3, h4⟩ := h
  unfold fitsB bud
  obtain rfl | rfl | rfl | rfl : o = 0 ∨ o = 1 ∨ o = 2 ∨ o = 3 := by omega
  all_goals simp only [Nat.reducePow, Nat.reduceAdd] at *
  all_goals (split <;> omega)
theorem fits_end {f e a o : Nat} (he : e % 16 = 0) (h : fitsB f e a o) : a + 2 ^ o ≤ e := by
  obtain ⟨h1, h2, h3, h4⟩ := h
  obtain rfl | rfl | rfl | rfl | rfl : o = 0 ∨ o = 1 ∨ o = 2 ∨ o = 3 ∨ o = 4 := by omega
  all_goals simp only [Nat.reducePow] at *
  all_goals omega
theorem fits_half {f e a o : Nat} (he : e % 16 = 0) (h : fitsB f e a (o + 1)) : fitsB f e a o ∧ fitsB f e (a + 2 ^ o) o ∧ bud (a + 2 ^ o) o = a := by
  have h5 := fits_end he h
  obtain ⟨h1, h2, h3, h4⟩ := h
  unfold fitsB bud
  obtain rfl | rfl | rfl | rfl : o = 0 ∨ o = 1 ∨ o = 2 ∨ o = 3 := by omega
  all_goals simp only [Nat.reducePow, Nat.reduceAdd] at *
  all_goals (refine ⟨⟨by omega, by omega, by omega, by omega⟩, ⟨by omega, by omega, by omega, by omega⟩, ?_⟩; split <;> omega)

/-! ## Where a block stands -/
theorem take_tw {α : Type} (p : α → Bool) : ∀ l : List α, l.take (l.takeWhile p).length = l.takeWhile p
  | [] => rfl
  | x :: l => by
    rw [List.takeWhile_cons]
    split
    · rw [List.length_cons, List.take_succ_cons, take_tw p l]
    · rfl
theorem drop_tw {α : Type} (p : α → Bool) : ∀ l : List α, l.drop (l.takeWhile p).length = l.dropWhile p
  | [] => rfl
  | x :: l => by
    rw [List.takeWhile_cons, List.dropWhile_cons]
    split
    · rw [List.length_cons, List.drop_succ_cons, drop_tw p l]
    · rfl
theorem lb_le (l : List Bk) (a : Nat) : lb l a ≤ l.length := by
  have := congrArg List.length (take_tw (fun b : Bk => decide (b.a < a)) l)
  rw [List.length_take] at this
  unfold lb; omega
/-- blocks in rising order -/
def Rise (l : List Bk) : Prop := l.Pairwise fun x y => x.a < y.a
theorem OkL.rise {f e : Nat} {l : List Bk} (h : OkL f e l) : Rise l := h.sep.imp fun {x y} h1 => by
  have := pow_pos' x.o
  unfold Bk.fin at h1
  omega
theorem tw_mem {α : Type} {p : α → Bool} : ∀ {l : List α} {x : α}, x ∈ l.takeWhile p → p x = true
  | [], x, h => by simp at h
  | y :: l, x, h => by
    rw [List.takeWhile_cons] at h
    split at h
    · rcases List.mem_cons.1 h with rfl | h
      · assumption
      · exact tw_mem h
    · simp at h
theorem lb_below {l : List Bk} {a : Nat} : ∀ x ∈ l.take (lb l a), x.a < a := by
  intro x hx
  unfold lb at hx
  rw [take_tw] at hx
  have := tw_mem hx
  simpa using this
theorem lb_above {l : List Bk} (h : Rise l) {a : Nat} : ∀ x ∈ l.drop (lb l a), a ≤ x.a := by
  unfold lb
  rw [drop_tw]
  induction l with
  | nil => intro x hx; simp at hx
  | cons y l ih =>
    intro x hx
    rw [List.dropWhile_cons] at hx
    have hp := List.pairwise_cons.1 h
    split at hx
    · exact ih hp.2 x hx
    · rename_i hc
      have hy : a ≤ y.a := by simpa using hc
      rcases List.mem_cons.1 hx with rfl | hx
      · exact hy
      · have := hp.1 x hx; omega
theorem lb_hit {l : List Bk} (h : Rise l) {x : Bk} (hx : x ∈ l) : l[lb l x.a]? = some x := by
  have hd : x ∈ l.drop (lb l x.a) := by
    rw [← List.take_append_drop (lb l x.a) l, List.mem_append] at hx
    rcases hx with hx | hx
    · have := lb_below x hx; omega
    · exact hx
  rw [← List.head?_drop]
  have hr : Rise (l.drop (lb l x.a)) := h.sublist (List.drop_sublist _ _)
  have ha := lb_above h (a := x.a)
  cases hl : l.drop (lb l x.a) with
  | nil => rw [hl] at hd; simp at hd
  | cons y m =>
    rw [hl] at hd hr ha
    rcases List.mem_cons.1 hd with rfl | hd
    · rfl
    · have h1 := (List.pairwise_cons.1 hr).1 x hd
      have h2 := ha y (by simp)
      omega

/-! ## Pages -/
def inB (a o p : Nat) : Prop := a ≤ p ∧ p < a + 2 ^ o
def covL (l : List Bk) (p : Nat) : Prop := ∃ b ∈ l, inB b.a b.o p

/-! ## What is kept -/
theorem OkL.sublist {f e : Nat} {l m : List Bk} (h : OkL f e l) (hs : m.Sublist l) : OkL f e m :=
  ⟨fun b hb => h.fit b (hs.subset hb), h.sep.sublist hs, fun x hx y hy => h.nob x (hs.subset hx) y (hs.subset hy)⟩

theorem sep_two {l : List Bk} (h : l.Pairwise fun x y => x.fin ≤ y.a) {i j : Nat} (hi : i < l.length) (hj : j < l.length) (hne : i ≠ j) : l[i].fin ≤ l[j].a ∨ l[j].fin ≤ l[i].a := by
  rcases Nat.lt_or_ge i j with hlt | hge
  · exact .inl (List.pairwise_iff_getElem.1 h i j hi hj hlt)
  · exact .inr (List.pairwise_iff_getElem.1 h j i hj hi (by omega))

/-- a new block put in -/
theorem OkL.put {f e : Nat} {l : List Bk} (h : OkL f e l) {b : Bk} (hb : fitsB f e b.a b.o) (ht : b.t < 3) (hd : ∀ x ∈ l, apartB b.a b.o x) (hn : b.o < 4 → ∀ x ∈ l, x.o = b.o → x.a ≠ bud b.a b.o) : OkL f e (putIn l b) := by
  have hmem : ∀ x, x ∈ putIn l b ↔ x = b ∨ x ∈ l := fun x => by
    unfold putIn
    rw [List.mem_append, List.mem_cons]
    conv => rhs; rw [← List.take_append_drop (lb l b.a) l, List.mem_append]
    constructor
    · rintro (h | h | h)
      · exact .inr (.inl h)
      · exact .inl h
      · exact .inr (.inr h)
    · rintro (h | h | h)
      · exact .inr (.inl h)
      · exact .inl h
      · exact .inr (.inr h)
  refine ⟨fun x hx => ?_, ?_, fun x hx y hy he ho => ?_⟩
  · rcases (hmem x).1 hx with rfl | hx
    · exact ⟨hb, ht⟩
    · exact h.fit x hx
  · unfold putIn
    rw [List.pairwise_append]
    refine ⟨h.sep.sublist (List.take_sublist _ _), ?_, fun x hx y hy => ?_⟩
    · rw [List.pairwise_cons]
      refine ⟨fun y hy => ?_, h.sep.sublist (List.drop_sublist _ _)⟩
      have h1 := lb_above h.rise y hy
      have h2 := hd y (List.mem_of_mem_drop hy)
      have h3 := pow_pos' y.o
      unfold apartB Bk.fin at h2
      unfold Bk.fin
      omega
    · have h1 := lb_below x hx
      have h2 := hd x (List.mem_of_mem_take hx)
      have h3 := pow_pos' b.o
      rcases List.mem_cons.1 hy with rfl | hy
      · unfold apartB Bk.fin at h2
        unfold Bk.fin
        omega
      · have hs := h.sep
        rw [← List.take_append_drop (lb l b.a) l, List.pairwise_append] at hs
        exact hs.2.2 x hx y hy
  · have hself : b.o < 4 → b.a ≠ bud b.a b.o := fun _ e => by
      have hp := pow_pos' b.o
      rcases bud_cases hb.1 hb.2.2.2 with ⟨h1, _⟩ | ⟨h1, _⟩ <;> omega
    rcases (hmem x).1 hx with hxe | hxl
    · subst hxe
      rcases (hmem y).1 hy with hye | hyl
      · subst hye; exact hself ho
      · exact hn ho y hyl he.symm
    · rcases (hmem y).1 hy with hye | hyl
      · subst hye
        intro e2
        have hxf := (h.fit x hxl).1
        have := hn (by omega) x hxl he
        rw [e2, ← he, bud_bud hxf.1 hxf.2.2.2] at this
        exact this rfl
      · exact h.nob x hxl y hyl he ho

theorem covL_put {l : List Bk} {b : Bk} (p : Nat) : covL (putIn l b) p ↔ covL l p ∨ inB b.a b.o p := by
  unfold covL putIn
  constructor
  · rintro ⟨x, hx, hp⟩
    rw [List.mem_append, List.mem_cons] at hx
    rcases hx with hx | rfl | hx
    · exact .inl ⟨x, List.mem_of_mem_take hx, hp⟩
    · exact .inr hp
    · exact .inl ⟨x, List.mem_of_mem_drop hx, hp⟩
  · rintro (⟨x, hx, hp⟩ | hp)
    · rw [← List.take_append_drop (lb l b.a) l, List.mem_append] at hx
      refine ⟨x, ?_, hp⟩
      rw [List.mem_append, List.mem_cons]
      rcases hx with hx | hx
      · exact .inl hx
      · exact .inr (.inr hx)
    · exact ⟨b, by simp, hp⟩

/-- what a growing block comes to -/
structure Joined (f e : Nat) (l : List Bk) (a o : Nat) (l' : List Bk) (a' o' : Nat) : Prop where
  ok : OkL f e l'
  fit : fitsB f e a' o'
  apart : ∀ x ∈ l', apartB a' o' x
  last : o' < 4 → ∀ x ∈ l', x.o = o' → x.a ≠ bud a' o'
  cov : ∀ p, (covL l' p ∨ inB a' o' p) ↔ (covL l p ∨ inB a o p)

theorem joinUp_ok {f e : Nat} (hf : f % 16 = 0) (he : e % 16 = 0) : ∀ (n o : Nat) (l : List Bk) (a : Nat), n + o = 4 → OkL f e l → fitsB f e a o → (∀ x ∈ l, apartB a o x) → Joined f e l a o (joinUp l a n o).1 (joinUp l a n o).2.1 (joinUp l a n o).2.2
  | 0, o, l, a, hn, hl, hb, hd => ⟨hl, hb, hd, fun h => by simp only [joinUp] at h; omega, fun p => Iff.rfl⟩
  | n + 1, o, l, a, hn, hl, hb, hd => by
    have hstop : (∀ x ∈ l, x.o = o → x.a ≠ bud a o) → Joined f e l a o l a o := fun h => ⟨hl, hb, hd, fun _ => h, fun p => Iff.rfl⟩
    unfold joinUp
    cases hx : l[lb l (bud a o)]? with
    | none =>
      simp only
      refine hstop fun x hxl ho e2 => ?_
      have := lb_hit hl.rise hxl
      rw [e2, hx] at this
      cases this
    | some x =>
      simp only
      by_cases hc : x.a = bud a o ∧ x.o = o
      · rw [if_pos hc]
        obtain ⟨hi, hxi⟩ := List.getElem?_eq_some_iff.1 hx
        have hxm : x ∈ l := by rw [← hxi]; exact List.getElem_mem hi
        have hmem : ∀ y, y ∈ l.eraseIdx (lb l (bud a o)) → y ∈ l ∧ (y.fin ≤ x.a ∨ x.fin ≤ y.a) := fun y hy => by
          obtain ⟨j, hj, hne, rfl⟩ := List.mem_eraseIdx_iff_getElem.1 hy
          refine ⟨List.getElem_mem hj, ?_⟩
          rw [← hxi]
          exact sep_two hl.sep hj hi hne
        have ho4 : o < 4 := by omega
        have hp := pow_pos' o
        have hps : 2 ^ (o + 1) = 2 ^ o + 2 ^ o := by rw [Nat.pow_succ]; omega
        have hbc := bud_cases hb.1 hb.2.2.2
        have hmin : min a x.a = min a (bud a o) := by rw [hc.1]
        have hapart : ∀ y ∈ l.eraseIdx (lb l (bud a o)), apartB (min a x.a) (o + 1) y := fun y hy => by
          obtain ⟨hyl, hy2⟩ := hmem y hy
          have hy1 := hd y hyl
          have hpy := pow_pos' y.o
          unfold apartB Bk.fin at *
          rw [hc.2, hc.1] at hy2
          rw [hmin, hps]
          rcases hbc with ⟨h1, _⟩ | ⟨h1, _⟩ <;> omega
        have ih := joinUp_ok hf he n (o + 1) (l.eraseIdx (lb l (bud a o))) (min a x.a) (by omega) (hl.sublist (List.eraseIdx_sublist _ _)) (by rw [hmin]; exact fits_up hf he ho4 hb) hapart
        refine ⟨ih.ok, ih.fit, ih.apart, ih.last, fun p => (ih.cov p).trans ?_⟩
        have hcovx : inB (min a x.a) (o + 1) p ↔ (inB a o p ∨ inB x.a x.o p) := by
          unfold inB
          rw [hc.2, hc.1, hps]
          rcases hbc with ⟨h1, _⟩ | ⟨h1, _⟩ <;> omega
        rw [hcovx]
        constructor
        · rintro (⟨y, hy, h⟩ | h | h)
          · exact .inl ⟨y, (hmem y hy).1, h⟩
          · exact .inr h
          · exact .inl ⟨x, hxm, h⟩
        · rintro (⟨y, hy, h⟩ | h)
          · obtain ⟨j, hj, rfl⟩ := List.getElem_of_mem hy
            by_cases hje : j = lb l (bud a o)
            · subst hje
              rw [hxi] at h
              exact .inr (.inr h)
            · exact .inl ⟨_, List.mem_eraseIdx_iff_getElem.2 ⟨j, hj, hje, rfl⟩, h⟩
          · exact .inr (.inl h)
      · rw [if_neg hc]
        refine hstop fun y hyl ho e2 => ?_
        have := lb_hit hl.rise hyl
        rw [e2, hx] at this
        obtain rfl : x = y := by simpa using this
        exact hc ⟨e2, ho⟩

theorem Zn.back_ok {z : Zn} (h : z.ok) {a o : Nat} (hb : fitsB z.f z.e a o) (hd : ∀ x ∈ z.l, apartB a o x) : (z.back a o).ok ∧ ∀ p, covL (z.back a o).l p ↔ (covL z.l p ∨ inB a o p) := by
  obtain ⟨hz, hl⟩ := h
  have hj := joinUp_ok hz.f16 hz.e16 (4 - o) o z.l a (by have := hb.1; omega) hl hb hd
  unfold Zn.back Zn.ok
  simp only
  generalize (joinUp z.l a (4 - o) o).1 = l' at *
  generalize (joinUp z.l a (4 - o) o).2.1 = a' at *
  generalize (joinUp z.l a (4 - o) o).2.2 = o' at *
  refine ⟨⟨hz, hj.ok.put hj.fit ?_ hj.apart hj.last⟩, fun p => (covL_put p).trans (hj.cov p)⟩
  have h1 := hj.fit.2.1
  have h2 := hj.fit.2.2.1
  have hlt : (a' - z.f) / 8 < z.y.length := by rw [hz.len]; have := hz.f16; have := hz.e16; omega
  rw [List.getD_eq_getElem?_getD, List.getElem?_eq_getElem hlt]
  exact hz.typ _ (List.getElem_mem hlt)
end Go.Proofs.YtbkajbjhffdlfaaDoor
