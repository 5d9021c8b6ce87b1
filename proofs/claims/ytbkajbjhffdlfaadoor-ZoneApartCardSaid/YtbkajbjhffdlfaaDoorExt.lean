/- Regions that draw their order, whose operations only read old memory and whose callees lay new blocks alone: one walk in the order of the text, at the class 'w with new blocks behind it'. No program in sight. -/
import Derived.Test.YtbkajbjhffdlfaaDoorFlat
import Derived.Deep.QuietTactic
import Derived.BigQuiet
import Derived.WalkSmall
namespace Go.Proofs.YtbkajbjhffdlfaaDoor
open Go.RowKit
open Classical in
/-- x, where x is w with new blocks; else w itself. -/
noncomputable def ext (w x : World) : World := if Below w.heap.size w x then x else w

theorem ext_below (w x : World) : Below w.heap.size w (ext w x) := by
  unfold ext
  split
  · assumption
  · exact Below.refl _ _
theorem ext_of {w x : World} (h : Below w.heap.size w x) : ext w x = x := by unfold ext; rw [if_pos h]

@[go_sem] theorem cell_ext {w x : World} {b o : Nat} {s : Option Nat} (h : b < w.heap.size) : (ext w x).cell? ⟨b, o, s⟩ = w.cell? ⟨b, o, s⟩ := (ext_below w x).cell (p := ⟨b, o, s⟩) h
@[go_sem] theorem frozen_ext {w x : World} {b o : Nat} {s : Option Nat} (h : b < w.heap.size) : (ext w x).frozen? ⟨b, o, s⟩ = w.frozen? ⟨b, o, s⟩ := (ext_below w x).frozen (p := ⟨b, o, s⟩) h

theorem wp_region_ext_lit {P : Program} {id : Nat} {Q : Exit → Act → World → Prop} {a : Act} {w : World} {l : List Oper} (hm : P.follows .mixedOrders = true) (hB : Region.lexB .any l.toArray = true)
    (h : wpQuiet P l.toArray (fun w' => ∃ x, w' = ext w x) (fun a' => ∀ w', (∃ x, w' = ext w x) → Q .normal a' w') l a) : (Code.region id l.toArray true).wp P Q a w :=
  wp_region_quiet (C := fun w' => ∃ x, w' = ext w x) hm hB ⟨w.drew, (ext_of (Below.refl _ _).drew).symm⟩ (by simpa using h)

theorem Calls.ext_of {P : Program} {f : FuncId} {args : Array Value} {w x : World} {v : Value}
    (h : Calls P f args (ext w x) fun e w' => e = .returned v ∧ Below (ext w x).heap.size (ext w x) w') : Calls P f args (ext w x) fun e w'' => e = .returned v ∧ ∃ y, w'' = ext w y :=
  h.mono fun _ w' ⟨he, hb⟩ => ⟨he, w', (Go.Proofs.YtbkajbjhffdlfaaDoor.ext_of ((ext_below w x).trans (hb.mono (ext_below w x).size))).symm⟩
theorem Calls.ext_same {P : Program} {f : FuncId} {args : Array Value} {w x : World} {v : Value}
    (h : Calls P f args (ext w x) fun e w' => e = .returned v ∧ ext w x = w') : Calls P f args (ext w x) fun e w'' => e = .returned v ∧ ∃ y, w'' = ext w y :=
  h.mono fun _ _ ⟨he, hb⟩ => ⟨he, x, hb.symm⟩
theorem Calls.ext_drew {P : Program} {f : FuncId} {args : Array Value} {w x : World} {v : Value}
    (h : Calls P f args (ext w x) fun e w' => e = .returned v ∧ ∃ m, w' = (ext w x).drewN m) : Calls P f args (ext w x) fun e w'' => e = .returned v ∧ ∃ y, w'' = ext w y :=
  Calls.ext_of (h.mono fun _ _ ⟨he, m, hb⟩ => ⟨he, by rw [hb]; exact below_drewN (Below.refl _ _) m⟩)

theorem keepB {B : Nat} {a W W' : World} (h2 : Below W.heap.size W W') (h1 : Below B a W) (hB : B ≤ W.heap.size) : Below B a W' := h1.trans (h2.mono hB)
/-- world after world -/
theorem Below.step {w w1 w2 : World} (h1 : Below w.heap.size w w1) (h2 : Below w1.heap.size w1 w2) : Below w.heap.size w w2 := h1.trans (h2.mono h1.size)

/-! ## Boxes: blocks that the call itself has laid, known whole -/
theorem box_new (w : World) (vs : Array Value) (t : TypeId) (o : Nat) : (w.alloc (.cells vs t)).cell? ⟨w.heap.size, o, none⟩ = vs[o]? := cell_of_row _ _ _ _ _ _ (heap_alloc_new w _)
theorem box_frz (w : World) (vs : Array Value) (t : TypeId) (o : Nat) : (w.alloc (.cells vs t)).frozen? ⟨w.heap.size, o, none⟩ = false := by
  unfold World.frozen?
  rw [heap_alloc_new]
  simp
/-- a box that the call has just laid, behind a callee -/
theorem box_call {w w1 : World} {vs : Array Value} {t : TypeId} (h : Below (w.alloc (.cells vs t)).heap.size (w.alloc (.cells vs t)) w1) (o : Nat) : w1.cell? ⟨w.heap.size, o, none⟩ = vs[o]? := by
  rw [h.cell (p := ⟨w.heap.size, o, none⟩) (by simp)]; exact box_new w vs t o
theorem box_size {w w1 : World} {vs : Array Value} {t : TypeId} (h : Below (w.alloc (.cells vs t)).heap.size (w.alloc (.cells vs t)) w1) : w.heap.size < w1.heap.size := by
  have := h.size; simp at this; omega
theorem frz_call {w w1 : World} {vs : Array Value} {t : TypeId} (h : Below (w.alloc (.cells vs t)).heap.size (w.alloc (.cells vs t)) w1) (o : Nat) : w1.frozen? ⟨w.heap.size, o, none⟩ = false := by
  rw [h.frozen (p := ⟨w.heap.size, o, none⟩) (by simp)]; exact box_frz w vs t o
/-- a box behind one callee more -/
theorem box_step {w1 w2 : World} {b : Nat} {vs : Array Value} (h : ∀ o, w1.cell? ⟨b, o, none⟩ = vs[o]?) (hlt : b < w1.heap.size) (hb : Below w1.heap.size w1 w2) (o : Nat) : w2.cell? ⟨b, o, none⟩ = vs[o]? := by
  rw [hb.cell (p := ⟨b, o, none⟩) hlt]; exact h o
theorem frz_step {w1 w2 : World} {b : Nat} (h : ∀ o, w1.frozen? ⟨b, o, none⟩ = false) (hlt : b < w1.heap.size) (hb : Below w1.heap.size w1 w2) (o : Nat) : w2.frozen? ⟨b, o, none⟩ = false := by
  rw [hb.frozen (p := ⟨b, o, none⟩) hlt]; exact h o
theorem below_alloc (w : World) (o : Obj) : Below w.heap.size w (w.alloc o) := (Below.refl _ _).alloc (Nat.le_refl _) _

/-- a cell of a box is written -/
theorem box_set {w : World} {b : Nat} {vs : Array Value} (h : ∀ o, w.cell? ⟨b, o, none⟩ = vs[o]?) (i : Nat) (u : Value) (o : Nat) : (w.setCell ⟨b, i, none⟩ u).cell? ⟨b, o, none⟩ = (vs.setIfInBounds i u)[o]? := by
  have h0 := h o
  unfold World.cell? World.setCell at *
  simp only [Array.getElem?_modify, if_true] at *
  cases hb : w.heap[b]? with
  | none => rw [hb] at h0; simp only [Option.map_none] at *; rw [Array.getElem?_setIfInBounds]; split
            · rename_i e; subst e
              split
              · rename_i hlt; rw [Array.getElem?_eq_getElem hlt] at h0; cases h0
              · rfl
            · exact h0
  | some ob =>
    rw [hb] at h0
    cases ob with
    | cells c t fr =>
      simp only [Option.map_some, Option.isSome_none, Bool.false_eq_true, if_false] at *
      rw [Array.getElem?_setIfInBounds, Array.getElem?_setIfInBounds, h0]
      have hsz : i = o → (i < c.size ↔ i < vs.size) := fun e => by
        subst e
        constructor
        · intro hl; rw [Array.getElem?_eq_getElem hl] at h0
          exact (Array.getElem?_eq_some_iff.1 h0.symm).1
        · intro hl; rw [Array.getElem?_eq_getElem hl] at h0
          exact (Array.getElem?_eq_some_iff.1 h0).1
      by_cases e : i = o
      · rw [if_pos e, if_pos e]
        by_cases hl : i < c.size
        · rw [if_pos hl, if_pos ((hsz e).1 hl)]
        · rw [if_neg hl, if_neg (fun h => hl ((hsz e).2 h))]
      · rw [if_neg e, if_neg e]
    | _ => simp only [Option.map_some] at *; rw [Array.getElem?_setIfInBounds]; split
           · rename_i e; subst e
             split
             · rename_i hlt; rw [Array.getElem?_eq_getElem hlt] at h0; cases h0
             · rfl
           · exact h0
theorem frz_set {w : World} {b : Nat} (h : ∀ o, w.frozen? ⟨b, o, none⟩ = false) (a : Addr) (u : Value) (o : Nat) : (w.setCell a u).frozen? ⟨b, o, none⟩ = false := by
  rw [World.frozen?_setCell]; exact h o
/-- a box beside a written cell -/
theorem box_set_other {W : World} {b c : Nat} {A : Array Value} (h : ∀ o, W.cell? ⟨b, o, none⟩ = A[o]?) (hne : b ≠ c) (i : Nat) (u : Value) (o : Nat) : (W.setCell ⟨c, i, none⟩ u).cell? ⟨b, o, none⟩ = A[o]? := by
  have hx : (⟨c, i, none⟩ : Addr) ≠ ⟨b, o, none⟩ := fun e => hne (by simpa using (congrArg Addr.block e).symm)
  exact (World.cell?_setCell_other _ _ _ _ hx).trans (h o)
theorem own_ne {w : World} {base : Nat} {e : TypeId} {size : Nat} {v : Value} {n : Nat} {xs : List Value} (h : w.ownsRow base e size v n xs) {b : Nat} (hb : b < base ∨ w.heap.size ≤ b) : v.ownBlock ≠ some b := fun e => by
  have := h.lt b e; omega
theorem own_set {w : World} {base : Nat} {e : TypeId} {size : Nat} {v : Value} {n : Nat} {xs : List Value} (h : w.ownsRow base e size v n xs) {b i : Nat} (hb : v.ownBlock ≠ some b) (u : Value) : (w.setCell ⟨b, i, none⟩ u).ownsRow base e size v n xs :=
  ownsRow_setCell_other h hb u

theorem boxes1 (w : World) (A : Array Value) (tA : TypeId) :
    (∀ o, (w.alloc (.cells A tA)).cell? ⟨w.heap.size, o, none⟩ = A[o]?) ∧ (∀ o, (w.alloc (.cells A tA)).frozen? ⟨w.heap.size, o, none⟩ = false) ∧
    w.heap.size < (w.alloc (.cells A tA)).heap.size ∧ Below w.heap.size w (w.alloc (.cells A tA)) :=
  ⟨box_new w A tA, box_frz w A tA, by simp, below_alloc _ _⟩
theorem boxes2 (w : World) (A : Array Value) (tA : TypeId) (B : Array Value) (tB : TypeId) :
    (∀ o, ((w.alloc (.cells A tA)).alloc (.cells B tB)).cell? ⟨w.heap.size, o, none⟩ = A[o]?) ∧ (∀ o, ((w.alloc (.cells A tA)).alloc (.cells B tB)).cell? ⟨w.heap.size + 1, o, none⟩ = B[o]?) ∧
    (∀ o, ((w.alloc (.cells A tA)).alloc (.cells B tB)).frozen? ⟨w.heap.size, o, none⟩ = false) ∧ (∀ o, ((w.alloc (.cells A tA)).alloc (.cells B tB)).frozen? ⟨w.heap.size + 1, o, none⟩ = false) ∧
    w.heap.size + 1 < ((w.alloc (.cells A tA)).alloc (.cells B tB)).heap.size ∧ Below w.heap.size w ((w.alloc (.cells A tA)).alloc (.cells B tB)) := by
  have h := boxes1 (w.alloc (.cells A tA)) B tB
  have hs : (w.alloc (.cells A tA)).heap.size = w.heap.size + 1 := by simp
  rw [hs] at h
  obtain ⟨h1, h2, h3, h4⟩ := h
  rw [← hs] at h4
  exact ⟨box_step (box_new w A tA) (by simp) h4, h1, frz_step (box_frz w A tA) (by simp) h4, h2, h3, Below.step (below_alloc _ _) h4⟩
theorem boxes3 (w : World) (A : Array Value) (tA : TypeId) (B : Array Value) (tB : TypeId) (C : Array Value) (tC : TypeId) :
    (∀ o, (((w.alloc (.cells A tA)).alloc (.cells B tB)).alloc (.cells C tC)).cell? ⟨w.heap.size, o, none⟩ = A[o]?) ∧ (∀ o, (((w.alloc (.cells A tA)).alloc (.cells B tB)).alloc (.cells C tC)).cell? ⟨w.heap.size + 1, o, none⟩ = B[o]?) ∧ (∀ o, (((w.alloc (.cells A tA)).alloc (.cells B tB)).alloc (.cells C tC)).cell? ⟨w.heap.size + 1 + 1, o, none⟩ = C[o]?) ∧
    (∀ o, (((w.alloc (.cells A tA)).alloc (.cells B tB)).alloc (.cells C tC)).frozen? ⟨w.heap.size, o, none⟩ = false) ∧ (∀ o, (((w.alloc (.cells A tA)).alloc (.cells B tB)).alloc (.cells C tC)).frozen? ⟨w.heap.size + 1, o, none⟩ = false) ∧ (∀ o, (((w.alloc (.cells A tA)).alloc (.cells B tB)).alloc (.cells C tC)).frozen? ⟨w.heap.size + 1 + 1, o, none⟩ = false) ∧
    w.heap.size + 2 < (((w.alloc (.cells A tA)).alloc (.cells B tB)).alloc (.cells C tC)).heap.size ∧ Below w.heap.size w (((w.alloc (.cells A tA)).alloc (.cells B tB)).alloc (.cells C tC)) := by
  obtain ⟨h1, h2, h3, h4, h5, h6⟩ := boxes2 w A tA B tB
  have h := boxes1 ((w.alloc (.cells A tA)).alloc (.cells B tB)) C tC
  have hs : ((w.alloc (.cells A tA)).alloc (.cells B tB)).heap.size = w.heap.size + 1 + 1 := by simp
  rw [hs] at h
  obtain ⟨k1, k2, k3, k4⟩ := h
  rw [← hs] at k4
  exact ⟨box_step h1 (by omega) k4, box_step h2 h5 k4, k1, frz_step h3 (by omega) k4, frz_step h4 h5 k4, k2, k3, Below.step h6 k4⟩
end Go.Proofs.YtbkajbjhffdlfaaDoor
