/- texts of this claim, joined. -/
import Derived.Test.YtcmpmobhongkiaaGreatDoorSE0
import Derived.Test.YtcmpmobhongkiaaGreatDoorSE1
set_option linter.unusedVariables false
set_option linter.unusedSimpArgs false
namespace Go.Proofs.YtcmpmobhongkiaaGreatDoor
section
structure Bk where
 a : Nat
 o : Nat
 t : Nat
deriving DecidableEq
def Bk.fin (b : Bk) : Nat := b.a + 2 ^ b.o
def jE (a o : Nat) : Nat := if a / 2 ^ o % 2 = 0 then a + 2 ^ o else a - 2 ^ o
structure Zn where
 f : Nat
 e : Nat
 l : List Bk
 y : List Nat
deriving DecidableEq
def bY (f e a o : Nat) : Prop := o ≤ 4 ∧ f ≤ a ∧ a < e ∧ a % 2 ^ o = 0
structure nM (f e : Nat) (l : List Bk) : Prop where
 fit : ∀ b ∈ l, bY f e b.a b.o ∧ b.t < 3
 sep : l.Pairwise fun x y => x.fin ≤ y.a
 Xc : ∀ x ∈ l, ∀ y ∈ l, x.o = y.o → x.o < 4 → y.a ≠ jE x.a x.o
structure OkZ (f e : Nat) (y : List Nat) : Prop where
 fe : f ≤ e
 e2 : e ≤ 256
 f16 : f % 16 = 0
 e16 : e % 16 = 0
 len : y.length = (e - f) / 8
 typ : ∀ t ∈ y, t < 3
def Zn.ok (z : Zn) : Prop := OkZ z.f z.e z.y ∧ nM z.f z.e z.l
theorem QI (f e : Nat) (l : List Bk) : nM f e l ↔ (∀ b ∈ l, bY f e b.a b.o ∧ b.t < 3) ∧ (l.Pairwise fun x y => x.fin ≤ y.a) ∧ ∀ x ∈ l, ∀ y ∈ l, x.o = y.o → x.o < 4 → y.a ≠ jE x.a x.o :=
 ⟨fun h => ⟨h.fit, h.sep, h.Xc⟩, fun h => ⟨h.1, h.2.1, h.2.2⟩⟩
theorem QJ (f e : Nat) (y : List Nat) : OkZ f e y ↔ (f ≤ e ∧ e ≤ 256 ∧ f % 16 = 0 ∧ e % 16 = 0 ∧ y.length = (e - f) / 8 ∧ ∀ t ∈ y, t < 3) :=
 ⟨fun h => ⟨h.fe, h.e2, h.f16, h.e16, h.len, h.typ⟩, fun h => ⟨h.1, h.2.1, h.2.2.1, h.2.2.2.1, h.2.2.2.2.1, h.2.2.2.2.2⟩⟩
def apartB (a o : Nat) (x : Bk) : Prop := x.fin ≤ a ∨ a + 2 ^ o ≤ x.a
def lb (l : List Bk) (a : Nat) : Nat := (l.takeWhile fun b => decide (b.a < a)).length

def fP (l : List Bk) (a : Nat) : Nat → Nat → List Bk × Nat × Nat
 | 0, o => (l, a, o)
 | n + 1, o => match l[lb l (jE a o)]? with
  | some x => if x.a = jE a o ∧ x.o = o then fP (l.eraseIdx (lb l (jE a o))) (min a x.a) n (o + 1) else (l, a, o)
  | none => (l, a, o)
def bC (l : List Bk) (b : Bk) : List Bk := l.take (lb l b.a) ++ b :: l.drop (lb l b.a)
def Zn.back (z : Zn) (a o : Nat) : Zn :=
 let r := fP z.l a (4 - o) o
 { z with l := bC r.1 ⟨r.2.1, r.2.2, z.y.getD ((r.2.1 - z.f) / 8) 0⟩ }

theorem IU {o : Nat} (h : o ≤ 4) : 2 ^ o = 1 ∨ 2 ^ o = 2 ∨ 2 ^ o = 4 ∨ 2 ^ o = 8 ∨ 2 ^ o = 16 := by
 obtain rfl | rfl | rfl | rfl | rfl : o = 0 ∨ o = 1 ∨ o = 2 ∨ o = 3 ∨ o = 4 := by omega
 all_goals simp
theorem dH (o : Nat) : 0 < 2 ^ o := Nat.two_pow_pos o
theorem uP {a o : Nat} (ho : o ≤ 4) (h : a % 2 ^ o = 0) : (jE a o = a + 2 ^ o ∧ a % 2 ^ (o + 1) = 0) ∨ (jE a o + 2 ^ o = a ∧ jE a o % 2 ^ (o + 1) = 0) := by
 unfold jE
 obtain rfl | rfl | rfl | rfl | rfl : o = 0 ∨ o = 1 ∨ o = 2 ∨ o = 3 ∨ o = 4 := by omega
 all_goals simp only [Nat.reducePow, Nat.reduceAdd] at *
 all_goals split <;> omega
theorem QK {a o : Nat} (ho : o ≤ 4) (h : a % 2 ^ o = 0) : jE (jE a o) o = a := by
 unfold jE
 obtain rfl | rfl | rfl | rfl | rfl : o = 0 ∨ o = 1 ∨ o = 2 ∨ o = 3 ∨ o = 4 := by omega
 all_goals simp only [Nat.reducePow] at *
 all_goals (split <;> split <;> omega)
theorem IV {f e a o : Nat} (hf : f % 16 = 0) (he : e % 16 = 0) (ho : o < 4) (h : bY f e a o) : bY f e (min a (jE a o)) (o + 1) := by
 obtain ⟨h1, h2, h3, h4⟩ := h
 unfold bY jE
 obtain rfl | rfl | rfl | rfl : o = 0 ∨ o = 1 ∨ o = 2 ∨ o = 3 := by omega
 all_goals simp only [Nat.reducePow, Nat.reduceAdd] at *
 all_goals (split <;> omega)
theorem o8 {f e a o : Nat} (he : e % 16 = 0) (h : bY f e a o) : a + 2 ^ o ≤ e := by
 obtain ⟨h1, h2, h3, h4⟩ := h
 obtain rfl | rfl | rfl | rfl | rfl : o = 0 ∨ o = 1 ∨ o = 2 ∨ o = 3 ∨ o = 4 := by omega
 all_goals simp only [Nat.reducePow] at *
 all_goals omega
theorem Az {f e a o : Nat} (he : e % 16 = 0) (h : bY f e a (o + 1)) : bY f e a o ∧ bY f e (a + 2 ^ o) o ∧ jE (a + 2 ^ o) o = a := by
 have h5 := o8 he h
 obtain ⟨h1, h2, h3, h4⟩ := h
 unfold bY jE
 obtain rfl | rfl | rfl | rfl : o = 0 ∨ o = 1 ∨ o = 2 ∨ o = 3 := by omega
 all_goals simp only [Nat.reducePow, Nat.reduceAdd] at *
 all_goals (refine ⟨⟨by omega, by omega, by omega, by omega⟩, ⟨by omega, by omega, by omega, by omega⟩, ?_⟩; split <;> omega)

theorem xI {α : Type} (p : α → Bool) : ∀ l : List α, l.take (l.takeWhile p).length = l.takeWhile p
 | [] => rfl
 | x :: l => by
  rw [List.takeWhile_cons]
  split
  ·rw [List.length_cons, List.take_succ_cons, xI p l]
  ·rfl
theorem drop_tw {α : Type} (p : α → Bool) : ∀ l : List α, l.drop (l.takeWhile p).length = l.dropWhile p
 | [] => rfl
 | x :: l => by
  rw [List.takeWhile_cons, List.dropWhile_cons]
  split
  ·rw [List.length_cons, List.drop_succ_cons, drop_tw p l]
  ·rfl
theorem jF (l : List Bk) (a : Nat) : lb l a ≤ l.length := by
 have := congrArg List.length (xI (fun b : Bk => decide (b.a < a)) l)
 rw [List.length_take] at this
 unfold lb; omega
def nN (l : List Bk) : Prop := l.Pairwise fun x y => x.a < y.a
theorem nM.rise {f e : Nat} {l : List Bk} (h : nM f e l) : nN l := h.sep.imp fun {x y} h1 => by
 have := dH x.o
 unfold Bk.fin at h1
 omega
theorem Gn {α : Type} {p : α → Bool} : ∀ {l : List α} {x : α}, x ∈ l.takeWhile p → p x = true
 | [], x, h => by simp at h
 | y :: l, x, h => by
  rw [List.takeWhile_cons] at h
  split at h
  ·rcases List.mem_cons.1 h with rfl | h
   ·assumption
   ·exact Gn h
  ·simp at h
theorem sJ {l : List Bk} {a : Nat} : ∀ x ∈ l.take (lb l a), x.a < a := by
 intro x hx
 unfold lb at hx
 rw [xI] at hx
 have := Gn hx
 simpa using this
theorem o9 {l : List Bk} (h : nN l) {a : Nat} : ∀ x ∈ l.drop (lb l a), a ≤ x.a := by
 unfold lb
 rw [drop_tw]
 induction l with
 | nil => intro x hx; simp at hx
 | cons y l ih =>
  intro x hx
  rw [List.dropWhile_cons] at hx
  have hp := List.pairwise_cons.1 h
  split at hx
  ·exact ih hp.2 x hx
  ·rename_i hc
   have hy : a ≤ y.a := by simpa using hc
   rcases List.mem_cons.1 hx with rfl | hx
   ·exact hy
   ·have := hp.1 x hx; omega
theorem mJ {l : List Bk} (h : nN l) {x : Bk} (hx : x ∈ l) : l[lb l x.a]? = some x := by
 have hd : x ∈ l.drop (lb l x.a) := by
  rw [← List.take_append_drop (lb l x.a) l, List.mem_append] at hx
  rcases hx with hx | hx
  ·have := sJ x hx; omega
  ·exact hx
 rw [← List.head?_drop]
 have hr : nN (l.drop (lb l x.a)) := h.sublist (List.drop_sublist _ _)
 have ha := o9 h (a := x.a)
 cases hl : l.drop (lb l x.a) with
 | nil => rw [hl] at hd; simp at hd
 | cons y m =>
  rw [hl] at hd hr ha
  rcases List.mem_cons.1 hd with rfl | hd
  ·rfl
  ·have h1 := (List.pairwise_cons.1 hr).1 x hd
   have h2 := ha y (by simp)
   omega

def inB (a o p : Nat) : Prop := a ≤ p ∧ p < a + 2 ^ o
def dX (l : List Bk) (p : Nat) : Prop := ∃ b ∈ l, inB b.a b.o p

theorem nM.sublist {f e : Nat} {l m : List Bk} (h : nM f e l) (hs : m.Sublist l) : nM f e m :=
 ⟨fun b hb => h.fit b (hs.subset hb), h.sep.sublist hs, fun x hx y hy => h.Xc x (hs.subset hx) y (hs.subset hy)⟩

theorem sK {l : List Bk} (h : l.Pairwise fun x y => x.fin ≤ y.a) {i j : Nat} (hi : i < l.length) (hj : j < l.length) (hne : i ≠ j) : l[i].fin ≤ l[j].a ∨ l[j].fin ≤ l[i].a := by
 rcases Nat.lt_or_ge i j with hlt | hge
 ·exact .inl (List.pairwise_iff_getElem.1 h i j hi hj hlt)
 ·exact .inr (List.pairwise_iff_getElem.1 h j i hj hi (by omega))

theorem nM.put {f e : Nat} {l : List Bk} (h : nM f e l) {b : Bk} (hb : bY f e b.a b.o) (ht : b.t < 3) (hd : ∀ x ∈ l, apartB b.a b.o x) (hn : b.o < 4 → ∀ x ∈ l, x.o = b.o → x.a ≠ jE b.a b.o) : nM f e (bC l b) := by
 have hmem : ∀ x, x ∈ bC l b ↔ x = b ∨ x ∈ l := fun x => by
  unfold bC
  rw [List.mem_append, List.mem_cons]
  conv => rhs; rw [← List.take_append_drop (lb l b.a) l, List.mem_append]
  constructor
  ·rintro (h | h | h)
   ·exact .inr (.inl h)
   ·exact .inl h
   ·exact .inr (.inr h)
  ·rintro (h | h | h)
   ·exact .inr (.inl h)
   ·exact .inl h
   ·exact .inr (.inr h)
 refine ⟨fun x hx => ?_, ?_, fun x hx y hy he ho => ?_⟩
 ·rcases (hmem x).1 hx with rfl | hx
  ·exact ⟨hb, ht⟩
  ·exact h.fit x hx
 ·unfold bC
  rw [List.pairwise_append]
  refine ⟨h.sep.sublist (List.take_sublist _ _), ?_, fun x hx y hy => ?_⟩
  ·rw [List.pairwise_cons]
   refine ⟨fun y hy => ?_, h.sep.sublist (List.drop_sublist _ _)⟩
   have h1 := o9 h.rise y hy
   have h2 := hd y (List.mem_of_mem_drop hy)
   have h3 := dH y.o
   unfold apartB Bk.fin at h2
   unfold Bk.fin
   omega
  ·have h1 := sJ x hx
   have h2 := hd x (List.mem_of_mem_take hx)
   have h3 := dH b.o
   rcases List.mem_cons.1 hy with rfl | hy
   ·unfold apartB Bk.fin at h2
    unfold Bk.fin
    omega
   ·have hs := h.sep
    rw [← List.take_append_drop (lb l b.a) l, List.pairwise_append] at hs
    exact hs.2.2 x hx y hy
 ·have hself : b.o < 4 → b.a ≠ jE b.a b.o := fun _ e => by
   have hp := dH b.o
   rcases uP hb.1 hb.2.2.2 with ⟨h1, _⟩ | ⟨h1, _⟩ <;> omega
  rcases (hmem x).1 hx with hxe | hxl
  ·subst hxe
   rcases (hmem y).1 hy with hye | hyl
   ·subst hye; exact hself ho
   ·exact hn ho y hyl he.symm
  ·rcases (hmem y).1 hy with hye | hyl
   ·subst hye
    intro e2
    have Uw := (h.fit x hxl).1
    have := hn (by omega) x hxl he
    rw [e2, ← he, QK Uw.1 Uw.2.2.2] at this
    exact this rfl
   ·exact h.Xc x hxl y hyl he ho

theorem DT {l : List Bk} {b : Bk} (p : Nat) : dX (bC l b) p ↔ dX l p ∨ inB b.a b.o p := by
 unfold dX bC
 constructor
 ·rintro ⟨x, hx, hp⟩
  rw [List.mem_append, List.mem_cons] at hx
  rcases hx with hx | rfl | hx
  ·exact .inl ⟨x, List.mem_of_mem_take hx, hp⟩
  ·exact .inr hp
  ·exact .inl ⟨x, List.mem_of_mem_drop hx, hp⟩
 ·rintro (⟨x, hx, hp⟩ | hp)
  ·rw [← List.take_append_drop (lb l b.a) l, List.mem_append] at hx
   refine ⟨x, ?_, hp⟩
   rw [List.mem_append, List.mem_cons]
   rcases hx with hx | hx
   ·exact .inl hx
   ·exact .inr (.inr hx)
  ·exact ⟨b, by simp, hp⟩

structure Joined (f e : Nat) (l : List Bk) (a o : Nat) (l' : List Bk) (a' o' : Nat) : Prop where
 ok : nM f e l'
 fit : bY f e a' o'
 apart : ∀ x ∈ l', apartB a' o' x
 last : o' < 4 → ∀ x ∈ l', x.o = o' → x.a ≠ jE a' o'
 Ns : ∀ p, (dX l' p ∨ inB a' o' p) ↔ (dX l p ∨ inB a o p)

theorem AA {f e : Nat} (hf : f % 16 = 0) (he : e % 16 = 0) : ∀ (n o : Nat) (l : List Bk) (a : Nat), n + o = 4 → nM f e l → bY f e a o → (∀ x ∈ l, apartB a o x) → Joined f e l a o (fP l a n o).1 (fP l a n o).2.1 (fP l a n o).2.2
 | 0, o, l, a, hn, hl, hb, hd => ⟨hl, hb, hd, fun h => by simp only [fP] at h; omega, fun p => Iff.rfl⟩
 | n + 1, o, l, a, hn, hl, hb, hd => by
  have hstop : (∀ x ∈ l, x.o = o → x.a ≠ jE a o) → Joined f e l a o l a o := fun h => ⟨hl, hb, hd, fun _ => h, fun p => Iff.rfl⟩
  unfold fP
  cases hx : l[lb l (jE a o)]? with
  | none =>
   simp only
   refine hstop fun x hxl ho e2 => ?_
   have := mJ hl.rise hxl
   rw [e2, hx] at this
   cases this
  | some x =>
   simp only
   by_cases hc : x.a = jE a o ∧ x.o = o
   ·rw [if_pos hc]
    obtain ⟨hi, hxi⟩ := List.getElem?_eq_some_iff.1 hx
    have hxm : x ∈ l := by rw [← hxi]; exact gL hi
    have hmem : ∀ y, y ∈ l.eraseIdx (lb l (jE a o)) → y ∈ l ∧ (y.fin ≤ x.a ∨ x.fin ≤ y.a) := fun y hy => by
     obtain ⟨j, hj, hne, rfl⟩ := List.mem_eraseIdx_iff_getElem.1 hy
     refine ⟨gL hj, ?_⟩
     rw [← hxi]
     exact sK hl.sep hj hi hne
    have ho4 : o < 4 := by omega
    have hp := dH o
    have hps : 2 ^ (o + 1) = 2 ^ o + 2 ^ o := by rw [Nat.pow_succ]; omega
    have hbc := uP hb.1 hb.2.2.2
    have hmin : min a x.a = min a (jE a o) := by rw [hc.1]
    have hapart : ∀ y ∈ l.eraseIdx (lb l (jE a o)), apartB (min a x.a) (o + 1) y := fun y hy => by
     obtain ⟨hyl, hy2⟩ := hmem y hy
     have hy1 := hd y hyl
     have hpy := dH y.o
     unfold apartB Bk.fin at *
     rw [hc.2, hc.1] at hy2
     rw [hmin, hps]
     rcases hbc with ⟨h1, _⟩ | ⟨h1, _⟩ <;> omega
    have ih := AA hf he n (o + 1) (l.eraseIdx (lb l (jE a o))) (min a x.a) (by omega) (hl.sublist (List.eraseIdx_sublist _ _)) (by rw [hmin]; exact IV hf he ho4 hb) hapart
    refine ⟨ih.ok, ih.fit, ih.apart, ih.last, fun p => (ih.Ns p).trans ?_⟩
    have Xd : inB (min a x.a) (o + 1) p ↔ (inB a o p ∨ inB x.a x.o p) := by
     unfold inB
     rw [hc.2, hc.1, hps]
     rcases hbc with ⟨h1, _⟩ | ⟨h1, _⟩ <;> omega
    rw [Xd]
    constructor
    ·rintro (⟨y, hy, h⟩ | h | h)
     ·exact .inl ⟨y, (hmem y hy).1, h⟩
     ·exact .inr h
     ·exact .inl ⟨x, hxm, h⟩
    ·rintro (⟨y, hy, h⟩ | h)
     ·obtain ⟨j, hj, rfl⟩ := List.getElem_of_mem hy
      by_cases hje : j = lb l (jE a o)
      ·subst hje
       rw [hxi] at h
       exact .inr (.inr h)
      ·exact .inl ⟨_, List.mem_eraseIdx_iff_getElem.2 ⟨j, hj, hje, rfl⟩, h⟩
     ·exact .inr (.inl h)
   ·rw [if_neg hc]
    refine hstop fun y hyl ho e2 => ?_
    have := mJ hl.rise hyl
    rw [e2, hx] at this
    obtain rfl : x = y := by simpa using this
    exact hc ⟨e2, ho⟩

theorem Zn.nO {z : Zn} (h : z.ok) {a o : Nat} (hb : bY z.f z.e a o) (hd : ∀ x ∈ z.l, apartB a o x) : (z.back a o).ok ∧ ∀ p, dX (z.back a o).l p ↔ (dX z.l p ∨ inB a o p) := by
 obtain ⟨hz, hl⟩ := h
 have hj := AA hz.f16 hz.e16 (4 - o) o z.l a (by have := hb.1; omega) hl hb hd
 unfold Zn.back Zn.ok
 simp only
 generalize (fP z.l a (4 - o) o).1 = l' at *
 generalize (fP z.l a (4 - o) o).2.1 = a' at *
 generalize (fP z.l a (4 - o) o).2.2 = o' at *
 refine ⟨⟨hz, hj.ok.put hj.fit ?_ hj.apart hj.last⟩, fun p => (DT p).trans (hj.Ns p)⟩
 have h1 := hj.fit.2.1
 have h2 := hj.fit.2.2.1
 have hlt : (a' - z.f) / 8 < z.y.length := by rw [hz.len]; have := hz.f16; have := hz.e16; omega
 rw [List.getD_eq_getElem?_getD, gJ hlt]
 exact hz.typ _ (gL hlt)
end
section
def kV (l : List Bk) (o t : Nat) : Option Nat := l.findIdx? fun b => decide (b.o = o ∧ b.t = t)
def iT (l : List Bk) (t : Nat) : Nat → Nat → Option Nat
 | 0, _ => none
 | n + 1, o => match kV l o t with
  | some i => some i
  | none => iT l t n (o + 1)
def oth1 (t : Nat) : Nat := if t = 2 then 0 else 2
def oth2 (t : Nat) : Nat := if t = 1 then 0 else 1
def dD (l : List Bk) (t order : Nat) : Nat → Option Nat
 | 0 => none
 | n + 1 => if n < order then none else match kV l n (oth1 t) with
  | some i => some i
  | none => match kV l n (oth2 t) with
   | some i => some i
   | none => dD l t order n
def mV (y : List Nat) (f a t : Nat) : Nat → List Nat
 | 0 => y
 | n + 1 => (mV y f a t n).set ((a + n - f) / 8) t
def lG (fr up t : Nat) (x : Bk) : Bk := if fr ≤ x.a ∧ x.fin ≤ up then { x with t := t } else x
def Zn.steal (z : Zn) (b : Bk) (t : Nat) : Zn :=
 if b.o < 2 then z else { z with l := z.l.map (lG (b.a / 8 * 8) (max b.fin (b.a / 8 * 8 + 8)) t), y := mV z.y z.f b.a t (2 ^ b.o) }
def bQ (l : List Bk) (a t order : Nat) : Nat → List Bk
 | 0 => l
 | o + 1 => if order ≤ o then bQ (bC l ⟨a + 2 ^ o, o, t⟩) a t order o else l
def Zn.cut (z : Zn) (i order : Nat) : Option (Zn × Nat) := match z.l[i]? with
 | some b => some ({ z with l := bQ (z.l.eraseIdx i) b.a b.t order b.o }, b.a)
 | none => none
def Zn.take (z : Zn) (order t : Nat) : Option (Zn × Nat) := match iT z.l t (5 - order) order with
 | some i => z.cut i order
 | none => match dD z.l t order 5 with
  | some i => match z.l[i]? with
   | some b => (z.steal b t).cut i order
   | none => none
  | none => none

theorem mW {l : List Bk} {o t i : Nat} (h : kV l o t = some i) : ∃ b, l[i]? = some b ∧ b.o = o ∧ b.t = t := by
 unfold kV at h
 rw [List.findIdx?_eq_some_iff_getElem] at h
 obtain ⟨hi, hp, _⟩ := h
 have hp' := of_decide_eq_true hp
 exact ⟨l[i], gJ hi, hp'.1, hp'.2⟩
theorem uQ {l : List Bk} {o t : Nat} (h : kV l o t = none) : ∀ b ∈ l, ¬ (b.o = o ∧ b.t = t) := by
 unfold kV at h
 rw [List.findIdx?_eq_none_iff] at h
 intro b hb
 exact of_decide_eq_false (h b hb)
theorem lW {l : List Bk} {t : Nat} : ∀ {n o i : Nat}, iT l t n o = some i → ∃ b, l[i]? = some b ∧ o ≤ b.o ∧ b.t = t
 | 0, _, _, h => by cases h
 | n + 1, o, i, h => by
  unfold iT at h
  cases hl : kV l o t with
  | some j =>
   rw [hl] at h
   obtain rfl : j = i := by simpa using h
   obtain ⟨b, h1, h2, h3⟩ := mW hl
   exact ⟨b, h1, by omega, h3⟩
  | none =>
   rw [hl] at h
   obtain ⟨b, h1, h2, h3⟩ := lW (n := n) (o := o + 1) (i := i) h
   exact ⟨b, h1, by omega, h3⟩
theorem vZ {l : List Bk} {t : Nat} : ∀ {n o : Nat}, iT l t n o = none → ∀ b ∈ l, ¬ (o ≤ b.o ∧ b.o < o + n ∧ b.t = t)
 | 0, o, _, b, _, hc => by omega
 | n + 1, o, h, b, hb, hc => by
  unfold iT at h
  cases hl : kV l o t with
  | some j => rw [hl] at h; cases h
  | none =>
   rw [hl] at h
   have h1 := uQ hl b hb
   have h2 := vZ (n := n) (o := o + 1) h b hb
   by_cases he : b.o = o
   ·exact h1 ⟨he, hc.2.2⟩
   ·exact h2 ⟨by omega, by omega, hc.2.2⟩
theorem kM {l : List Bk} {t order : Nat} : ∀ {n i : Nat}, dD l t order n = some i → ∃ b, l[i]? = some b ∧ order ≤ b.o
 | 0, _, h => by cases h
 | n + 1, i, h => by
  unfold dD at h
  by_cases hc : n < order
  ·rw [if_pos hc] at h; cases h
  ·rw [if_neg hc] at h
   cases h1 : kV l n (oth1 t) with
   | some j =>
    rw [h1] at h
    obtain rfl : j = i := by simpa using h
    obtain ⟨b, g1, g2, _⟩ := mW h1
    exact ⟨b, g1, by omega⟩
   | none =>
    rw [h1] at h
    cases h2 : kV l n (oth2 t) with
    | some j =>
     rw [h2] at h
     obtain rfl : j = i := by simpa using h
     obtain ⟨b, g1, g2, _⟩ := mW h2
     exact ⟨b, g1, by omega⟩
    | none =>
     rw [h2] at h
     exact kM (n := n) h
theorem qX {l : List Bk} {t order : Nat} : ∀ {n : Nat}, dD l t order n = none → ∀ b ∈ l, ¬ (order ≤ b.o ∧ b.o < n ∧ (b.t = oth1 t ∨ b.t = oth2 t))
 | 0, _, b, _, hc => by omega
 | n + 1, h, b, hb, hc => by
  unfold dD at h
  by_cases hn : n < order
  ·omega
  ·rw [if_neg hn] at h
   cases h1 : kV l n (oth1 t) with
   | some j => rw [h1] at h; cases h
   | none =>
    rw [h1] at h
    cases h2 : kV l n (oth2 t) with
    | some j => rw [h2] at h; cases h
    | none =>
     rw [h2] at h
     have g1 := uQ h1 b hb
     have g2 := uQ h2 b hb
     have g3 := qX (n := n) h b hb
     by_cases he : b.o = n
     ·rcases hc.2.2 with h | h
      ·exact g1 ⟨he, h⟩
      ·exact g2 ⟨he, h⟩
     ·exact g3 ⟨hc.1, by omega, hc.2.2⟩

theorem lX (y : List Nat) (f a t : Nat) : ∀ n, (mV y f a t n).length = y.length
 | 0 => rfl
 | n + 1 => by simp [mV, lX y f a t n]
theorem DU {y : List Nat} {f a t : Nat} (ht : t < 3) (h : ∀ u ∈ y, u < 3) : ∀ n, ∀ u ∈ mV y f a t n, u < 3
 | 0 => h
 | n + 1 => fun u hu => by
  unfold mV at hu
  rcases List.mem_or_eq_of_mem_set hu with hu | rfl
  ·exact DU ht h n u hu
  ·exact ht

theorem nM.map {f e : Nat} {l : List Bk} (h : nM f e l) {g : Bk → Bk} (ha : ∀ x, (g x).a = x.a) (ho : ∀ x, (g x).o = x.o) (ht : ∀ x, x.t < 3 → (g x).t < 3) : nM f e (l.map g) := by
 refine ⟨fun b hb => ?_, ?_, fun x hx y hy he ho4 => ?_⟩
 ·obtain ⟨x, hx, rfl⟩ := List.mem_map.1 hb
  obtain ⟨h1, h2⟩ := h.fit x hx
  rw [ha, ho]
  exact ⟨h1, ht x h2⟩
 ·rw [List.pairwise_map]
  refine h.sep.imp fun {x y} h1 => ?_
  unfold Bk.fin at *
  rw [ha, ha, ho]; exact h1
 ·obtain ⟨x', hx', rfl⟩ := List.mem_map.1 hx
  obtain ⟨y', hy', rfl⟩ := List.mem_map.1 hy
  rw [ho, ho] at he
  rw [ho] at ho4
  rw [ha, ha, ho]
  exact h.Xc x' hx' y' hy' he ho4
theorem Nu {l : List Bk} {g : Bk → Bk} (ha : ∀ x, (g x).a = x.a) (ho : ∀ x, (g x).o = x.o) (p : Nat) : dX (l.map g) p ↔ dX l p := by
 unfold dX
 constructor
 ·rintro ⟨b, hb, hp⟩
  obtain ⟨x, hx, rfl⟩ := List.mem_map.1 hb
  rw [ha, ho] at hp
  exact ⟨x, hx, hp⟩
 ·rintro ⟨x, hx, hp⟩
  exact ⟨g x, List.mem_map_of_mem hx, by rw [ha, ho]; exact hp⟩
theorem BQ (fr up t : Nat) (x : Bk) : (lG fr up t x).a = x.a := by unfold lG; split <;> rfl
theorem BU (fr up t : Nat) (x : Bk) : (lG fr up t x).o = x.o := by unfold lG; split <;> rfl
theorem QL {fr up t : Nat} (ht : t < 3) (x : Bk) (h : x.t < 3) : (lG fr up t x).t < 3 := by unfold lG; split <;> simp [ht, h]

theorem Zn.lH {z : Zn} (h : z.ok) {b : Bk} {t : Nat} (ht : t < 3) : (z.steal b t).ok ∧ (∀ p, dX (z.steal b t).l p ↔ dX z.l p) ∧ (z.steal b t).f = z.f ∧ (z.steal b t).e = z.e ∧ ∀ (i : Nat) (x : Bk), z.l[i]? = some x → ∃ y : Bk, (z.steal b t).l[i]? = some y ∧ y.a = x.a ∧ y.o = x.o := by
 unfold Zn.steal
 split
 ·exact ⟨h, fun _ => Iff.rfl, rfl, rfl, fun i x hx => ⟨x, hx, rfl, rfl⟩⟩
 ·refine ⟨⟨⟨h.1.fe, h.1.e2, h.1.f16, h.1.e16, by simp only [lX]; exact h.1.len, DU ht h.1.typ _⟩, h.2.map (BQ _ _ _) (BU _ _ _) (QL ht)⟩, fun p => Nu (BQ _ _ _) (BU _ _ _) p, rfl, rfl, fun i x hx => ⟨lG (b.a / 8 * 8) (max b.fin (b.a / 8 * 8 + 8)) t x, by simp only [List.getElem?_map, hx, Option.map_some], BQ _ _ _ _, BU _ _ _ _⟩⟩

theorem split_ok {f e a t order : Nat} (he : e % 16 = 0) (ht : t < 3) : ∀ (o : Nat) (l : List Bk), order ≤ o → nM f e l → bY f e a o → (∀ x ∈ l, apartB a o x) →
  nM f e (bQ l a t order o) ∧ bY f e a order ∧ (∀ x ∈ bQ l a t order o, apartB a order x) ∧ ∀ p, (dX (bQ l a t order o) p ∨ inB a order p) ↔ (dX l p ∨ inB a o p)
 | 0, l, ho, hl, hb, hd => by
  obtain rfl : order = 0 := by omega
  exact ⟨hl, hb, hd, fun p => Iff.rfl⟩
 | o + 1, l, ho, hl, hb, hd => by
  unfold bQ
  by_cases hc : order ≤ o
  ·rw [if_pos hc]
   obtain ⟨h1, h2, h3⟩ := Az he hb
   have hp := dH o
   have hps : 2 ^ (o + 1) = 2 ^ o + 2 ^ o := by rw [Nat.pow_succ]; omega
   have hl' : nM f e (bC l ⟨a + 2 ^ o, o, t⟩) := hl.put h2 ht (fun x hx => by
     have := hd x hx
     unfold apartB Bk.fin at *
     rw [hps] at this
     simp only
     omega) (fun _ x hx hxo => by
     simp only at hxo ⊢
     rw [h3]
     have := hd x hx
     have hpx := dH x.o
     unfold apartB Bk.fin at this
     omega)
   have hd' : ∀ x ∈ bC l ⟨a + 2 ^ o, o, t⟩, apartB a o x := fun x hx => by
    unfold bC at hx
    rw [List.mem_append, List.mem_cons] at hx
    rcases hx with hx | rfl | hx
    ·have := hd x (List.mem_of_mem_take hx)
     unfold apartB at *
     omega
    ·unfold apartB; simp only; omega
    ·have := hd x (List.mem_of_mem_drop hx)
     unfold apartB at *
     omega
   obtain ⟨g1, g2, g3, g4⟩ := split_ok he ht o _ hc hl' h1 hd'
   refine ⟨g1, g2, g3, fun p => (g4 p).trans ?_⟩
   rw [DT]
   simp only
   unfold inB
   rw [hps]
   constructor
   ·rintro ((h | h) | h)
    ·exact .inl h
    ·exact .inr (by omega)
    ·exact .inr (by omega)
   ·rintro (h | h)
    ·exact .inl (.inl h)
    ·by_cases hpa : p < a + 2 ^ o
     ·exact .inr (by omega)
     ·exact .inl (.inr (by omega))
  ·rw [if_neg hc]
   obtain rfl : order = o + 1 := by omega
   exact ⟨hl, hb, hd, fun p => Iff.rfl⟩

structure Taken (z : Zn) (order : Nat) (z' : Zn) (at_ : Nat) : Prop where
 ok : z'.ok
 f : z'.f = z.f
 e : z'.e = z.e
 fit : bY z.f z.e at_ order
 apart : ∀ x ∈ z'.l, apartB at_ order x
 Ns : ∀ p, (dX z'.l p ∨ inB at_ order p) ↔ dX z.l p
 inside : ∃ b ∈ z.l, b.a = at_ ∧ order ≤ b.o

theorem Zn.Nv {z : Zn} (h : z.ok) {i order : Nat} {b : Bk} (hb : z.l[i]? = some b) (ho : order ≤ b.o) : ∃ z' at_, z.cut i order = some (z', at_) ∧ Taken z order z' at_ := by
 obtain ⟨hi, hbi⟩ := List.getElem?_eq_some_iff.1 hb
 have hbm : b ∈ z.l := by rw [← hbi]; exact gL hi
 have hfit := h.2.fit b hbm
 have hmem : ∀ y, y ∈ z.l.eraseIdx i → y ∈ z.l ∧ (y.fin ≤ b.a ∨ b.fin ≤ y.a) := fun y hy => by
  obtain ⟨j, hj, hne, rfl⟩ := List.mem_eraseIdx_iff_getElem.1 hy
  refine ⟨gL hj, ?_⟩
  rw [← hbi]
  exact sK h.2.sep hj hi hne
 obtain ⟨g1, g2, g3, g4⟩ := split_ok (t := b.t) h.1.e16 hfit.2 b.o (z.l.eraseIdx i) ho (h.2.sublist (List.eraseIdx_sublist _ _)) hfit.1 (fun y hy => (hmem y hy).2)
 refine ⟨{ z with l := bQ (z.l.eraseIdx i) b.a b.t order b.o }, b.a, by unfold Zn.cut; rw [hb], ⟨h.1, g1⟩, rfl, rfl, g2, g3, fun p => (g4 p).trans ?_, b, hbm, rfl, ho⟩
 constructor
 ·rintro (⟨y, hy, hp⟩ | hp)
  ·exact ⟨y, (hmem y hy).1, hp⟩
  ·exact ⟨b, hbm, hp⟩
 ·rintro ⟨y, hy, hp⟩
  obtain ⟨j, hj, rfl⟩ := List.getElem_of_mem hy
  by_cases hje : j = i
  ·subst hje
   rw [hbi] at hp
   exact .inr hp
  ·exact .inl ⟨_, List.mem_eraseIdx_iff_getElem.2 ⟨j, hj, hje, rfl⟩, hp⟩

theorem Zn.AB {z : Zn} (h : z.ok) {order t : Nat} (ho : order ≤ 4) (ht : t < 3) (hb : ∃ b ∈ z.l, order ≤ b.o) : ∃ z' at_, z.take order t = some (z', at_) ∧ Taken z order z' at_ := by
 unfold Zn.take
 cases hu : iT z.l t (5 - order) order with
 | some i =>
  obtain ⟨b, h1, h2, _⟩ := lW hu
  exact z.Nv h h1 h2
 | none =>
  simp only
  cases hd : dD z.l t order 5 with
  | some i =>
   obtain ⟨b, h1, h2⟩ := kM hd
   simp only [h1]
   obtain ⟨s1, s2, s3, s4, s5⟩ := Zn.lH h (b := b) ht
   obtain ⟨y, hy, hya, hyo⟩ := s5 i b h1
   obtain ⟨z', at_, g1, g2⟩ := Zn.Nv s1 hy (order := order) (by omega)
   refine ⟨z', at_, g1, g2.ok, g2.f.trans s3, g2.e.trans s4, by have := g2.fit; rwa [s3, s4] at this, g2.apart, fun p => (g2.Ns p).trans (s2 p), ?_⟩
   obtain ⟨c, hc1, hc2, hc3⟩ := g2.inside
   have hcut : at_ = y.a := by
    unfold Zn.cut at g1
    rw [hy] at g1
    simp only [Option.some.injEq, Prod.mk.injEq] at g1
    exact g1.2.symm
   obtain ⟨hi, hbi⟩ := List.getElem?_eq_some_iff.1 h1
   exact ⟨b, by rw [← hbi]; exact gL hi, by rw [hcut, hya], h2⟩
  | none =>
   exfalso
   obtain ⟨b, hb, JR⟩ := hb
   have h1 := vZ hu b hb
   have h2 := qX hd b hb
   have h3 := h.2.fit b hb
   have h4 := h3.1.1
   by_cases he : b.t = t
   ·exact h1 ⟨JR, by omega, he⟩
   ·refine h2 ⟨JR, by omega, ?_⟩
    unfold oth1 oth2
    have h5 := h3.2
    obtain rfl | rfl | rfl : t = 0 ∨ t = 1 ∨ t = 2 := by omega
    all_goals simp only [Nat.reduceEqDiff, if_true, if_false]
    all_goals omega
theorem Zn.AL {z : Zn} {order t : Nat} (h : ¬ ∃ b ∈ z.l, order ≤ b.o) : z.take order t = none := by
 unfold Zn.take
 cases hu : iT z.l t (5 - order) order with
 | some i =>
  obtain ⟨b, h1, h2, _⟩ := lW hu
  obtain ⟨hi, hbi⟩ := List.getElem?_eq_some_iff.1 h1
  exact absurd ⟨b, by rw [← hbi]; exact gL hi, h2⟩ h
 | none =>
  simp only
  cases hd : dD z.l t order 5 with
  | some i =>
   obtain ⟨b, h1, h2⟩ := kM hd
   obtain ⟨hi, hbi⟩ := List.getElem?_eq_some_iff.1 h1
   exact absurd ⟨b, by rw [← hbi]; exact gL hi, h2⟩ h
  | none => rfl
end
section
theorem dI {a o : Nat} {x : Bk} (h : ∀ p, inB a o p → ¬ inB x.a x.o p) : apartB a o x := by
 have h1 := dH o
 have h2 := dH x.o
 unfold apartB Bk.fin
 have h3 := h (max a x.a)
 unfold inB at h3
 omega
theorem iC {a o : Nat} {x : Bk} (h : apartB a o x) (p : Nat) (hp : inB a o p) : ¬ inB x.a x.o p := by
 unfold apartB Bk.fin at h
 unfold inB at *
 omega

structure JU (lo hi : Nat) (z : Zn) (away : List Bk) : Prop where
 ok : z.ok
 fits : ∀ b ∈ away, bY z.f z.e b.a b.o
 apart : ∀ b ∈ away, ∀ x ∈ z.l, apartB b.a b.o x
 each : away.Pairwise fun b c => apartB b.a b.o c
 Ns : ∀ p, (dX z.l p ∨ dX away p) ↔ (lo ≤ p ∧ p < hi)

theorem Gp {b c : Bk} (h : apartB b.a b.o c) : apartB c.a c.o b := by
 unfold apartB Bk.fin at *
 omega

theorem JU.take {lo hi : Nat} {z : Zn} {away : List Bk} (h : JU lo hi z away) {order at_ : Nat} {z' : Zn} (ht : Taken z order z' at_) (t : Nat) : JU lo hi z' (away ++ [⟨at_, order, t⟩]) := by
 obtain ⟨c, hc, hca, hco⟩ := ht.inside
 have hcov : ∀ p, inB at_ order p → dX z.l p := fun p hp => (ht.Ns p).1 (.inr hp)
 have Xe : ∀ p, dX z'.l p → dX z.l p := fun p hp => (ht.Ns p).1 (.inl hp)
 have hd : ∀ b ∈ away, ∀ p, inB b.a b.o p → ¬ dX z.l p := fun b hb p hp ⟨x, hx, hxp⟩ => iC (h.apart b hb x hx) p hp hxp
 have hff : z'.f = z.f := ht.f
 have hee : z'.e = z.e := ht.e
 refine ⟨ht.ok, fun b hb => ?_, fun b hb x hx => ?_, ?_, fun p => ?_⟩
 ·rw [hff, hee]
  rw [List.mem_append, List.mem_singleton] at hb
  rcases hb with hb | rfl
  ·exact h.fits b hb
  ·exact ht.fit
 ·rw [List.mem_append, List.mem_singleton] at hb
  rcases hb with hb | rfl
  ·exact dI fun p hp hxp => hd b hb p hp (Xe p ⟨x, hx, hxp⟩)
  ·exact ht.apart x hx
 ·rw [List.pairwise_append]
  refine ⟨h.each, by simp, fun b hb c hc => ?_⟩
  rw [List.mem_singleton] at hc
  subst hc
  exact dI fun p hp hcp => hd b hb p hp (hcov p hcp)
 ·have h1 := h.Ns p
  have h2 := ht.Ns p
  have h3 : dX (away ++ [⟨at_, order, t⟩]) p ↔ (dX away p ∨ inB at_ order p) := by
   unfold dX
   constructor
   ·rintro ⟨b, hb, hp⟩
    rw [List.mem_append, List.mem_singleton] at hb
    rcases hb with hb | rfl
    ·exact .inl ⟨b, hb, hp⟩
    ·exact .inr hp
   ·rintro (⟨b, hb, hp⟩ | hp)
    ·exact ⟨b, by simp [hb], hp⟩
    ·exact ⟨⟨at_, order, t⟩, by simp, hp⟩
  rw [h3]
  constructor
  ·rintro (h | h | h)
   ·exact h1.1 (.inl (h2.1 (.inl h)))
   ·exact h1.1 (.inr h)
   ·exact h1.1 (.inl (h2.1 (.inr h)))
  ·intro h
   rcases h1.2 h with h | h
   ·rcases h2.2 h with h | h
    ·exact .inl h
    ·exact .inr (.inr h)
   ·exact .inr (.inl h)

theorem JU.back {lo hi : Nat} {z : Zn} {away : List Bk} (h : JU lo hi z away) {k : Nat} (hk : k < away.length) : JU lo hi (z.back away[k].a away[k].o) (away.eraseIdx k) := by
 have hm : away[k] ∈ away := gL hk
 obtain ⟨g1, g2⟩ := z.nO h.ok (h.fits _ hm) (h.apart _ hm)
 have hmem : ∀ y, y ∈ away.eraseIdx k → y ∈ away ∧ apartB y.a y.o away[k] := fun y hy => by
  obtain ⟨j, hj, hne, rfl⟩ := List.mem_eraseIdx_iff_getElem.1 hy
  refine ⟨gL hj, ?_⟩
  rcases Nat.lt_or_ge j k with hlt | hge
  ·exact List.pairwise_iff_getElem.1 h.each j k hj hk hlt
  ·exact Gp (List.pairwise_iff_getElem.1 h.each k j hk hj (by omega))
 refine ⟨g1, fun b hb => h.fits b (hmem b hb).1, fun b hb x hx => ?_, h.each.sublist (List.eraseIdx_sublist _ _), fun p => ?_⟩
 ·refine dI fun p hp hxp => ?_
  rcases (g2 p).1 ⟨x, hx, hxp⟩ with ⟨y, hy, hyp⟩ | hyp
  ·exact iC (h.apart b (hmem b hb).1 y hy) p hp hyp
  ·exact iC (hmem b hb).2 p hp hyp
 ·rw [g2 p, ← h.Ns p]
  constructor
  ·rintro ((h | h) | ⟨b, hb, hp⟩)
   ·exact .inl h
   ·exact .inr ⟨_, hm, h⟩
   ·exact .inr ⟨b, (hmem b hb).1, hp⟩
  ·rintro (h | ⟨b, hb, hp⟩)
   ·exact .inl (.inl h)
   ·obtain ⟨j, hj, rfl⟩ := List.getElem_of_mem hb
    by_cases hje : j = k
    ·subst hje; exact .inl (.inr hp)
    ·exact .inr ⟨_, List.mem_eraseIdx_iff_getElem.2 ⟨j, hj, hje, rfl⟩, hp⟩

def dJ (z : Zn) (p : Nat) : Nat → Zn
 | 0 => z
 | n + 1 => (dJ z p n).back (p + n) 0
theorem nM.length_le {f e : Nat} : ∀ {l : List Bk}, nM f e l → (∀ b ∈ l, b.a < e) → l.length ≤ e
 | l, h, hb => by
  have hr := h.rise
  have : ∀ (l : List Bk) (n : Nat), nN l → (∀ b ∈ l, n ≤ b.a ∧ b.a < e) → n ≤ e → l.length + n ≤ e := by
   intro l
   induction l with
   | nil => intro n _ _ hn; simp; exact hn
   | cons x l ih =>
    intro n hr hb hn
    have h1 := hb x (by simp)
    have hp := List.pairwise_cons.1 hr
    have := ih (x.a + 1) hp.2 (fun y hy => ⟨hp.1 y hy, (hb y (by simp [hy])).2⟩) (by omega)
    simp only [List.length_cons]
    omega
  have := this l 0 hr (fun b h => ⟨by omega, hb b h⟩) (by omega)
  omega
end
end Go.Proofs.YtcmpmobhongkiaaGreatDoor
