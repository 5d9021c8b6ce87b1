/- texts of this claim, joined. -/
import Derived.Test.YtcmpmobhongkiaaGreatDoorCM0
import Derived.Test.YtcmpmobhongkiaaGreatDoorCM1
import Derived.Laws.CopyRow
import Derived.Lib.AppendZerosOnto
import Derived.Lib.SliceRun
import Derived.Deep.QuietTactic
import Derived.BigQuiet
import Derived.WalkSmall
set_option linter.unusedVariables false
set_option linter.unusedSimpArgs false
namespace Go.Proofs.YtcmpmobhongkiaaGreatDoor
section
open Go.RowKit

def pk (n many : Int) : Int := (if n < 0 then -(n + 1) else n) % many

theorem wC (n many : Int) (h : 1 ≤ many) : 0 ≤ pk n many := Int.emod_nonneg _ (by omega)
theorem UN (n many : Int) (h : 1 ≤ many) : pk n many < many := Int.emod_lt_of_pos _ (by omega)

theorem yP (n many : Int) (w : World) (hn1 : -9223372036854775808 ≤ n) (hn2 : n ≤ 9223372036854775807) (h1 : 1 ≤ many) (h2 : many ≤ 1000000) :
  Calls Tryz.prog 28 #[.int .i64 n, .int .i64 many] w fun e w' => e = .returned (.int .i64 (pk n many)) ∧ w = w' := by
 by_cases hneg : n < 0
 ·go_enter Tryz.func28, Tryz.ntmps28
  go_wp2
  go_ret
  refine ⟨dK ?_, rfl⟩
  show -(n + 1).tmod many = _
  rw [pk, if_pos hneg, ← Int.neg_tmod, Int.tmod_eq_emod_of_nonneg (by omega)]
 ·go_enter Tryz.func28, Tryz.ntmps28
  go_wp2
  go_ret
  refine ⟨dK ?_, rfl⟩
  show n % many = _
  rw [pk, if_neg (by omega)]
end
section
open Go.RowKit

theorem lX {P : Program} {w : World} (size n : Nat) (sp : Option Addr) (len cap : Nat) (cs : List Value) (hl : cs.length = n * size) (hr : Row w sp cs) :
  (Builtin.firstCells size n (.slice sp len cap)).run P w = .ok cs.toArray w := by
 cases sp with
 | some b =>
  refine run_firstCells_some w size n b len cap cs hl fun j v hj => ?_
  obtain ⟨b', off, e, _, h⟩ := hr j v hj
  obtain rfl : b = ⟨b', off, none⟩ := by simpa using e
  rw [Addr.add_lit]; exact h
 | none =>
  have : cs = [] := by
   cases cs with
   | nil => rfl
   | cons u l => obtain ⟨b, off, e1, _⟩ := hr 0 u rfl; cases e1
  subst this
  simp [Builtin.firstCells]

theorem EX (cur xs cs : List Value) (o N : Nat) (h : cur.take N = xs) (hN : N ≤ cur.length) (hf : o + cs.length ≤ N) :
  (cur.take o ++ cs ++ cur.drop (o + cs.length)).take N = xs.take o ++ cs ++ xs.drop (o + cs.length) := by
 subst h
 have hl : (cur.take o ++ cs).length = o + cs.length := by rw [List.length_append, List.length_take]; omega
 rw [List.take_append, List.take_of_length_le (by omega), hl, List.take_take, Nat.min_eq_left (by omega), List.drop_take]
end
section
open Go.RowKit

theorem fE {w : World} {base : Nat} {e : TypeId} {size : Nat} {a : Option Addr} {n c : Nat} {xs : List Value} (h : w.ownsRow base e size (.slice a n c) n xs) {i : Nat} (hi : i ≤ n) : w.ownsRow base e size (.slice a i c) i (xs.take (i * size)) := by
 have hm : i * size ≤ n * size := Nat.mul_le_mul_right _ hi
 refine ⟨by rw [List.length_take, h.1]; omega, ?_⟩
 rcases h.2 with ⟨h', h2⟩ | ⟨g, cap, cur, h', hb, hg, hn, hc, hs, ht⟩
 ·obtain ⟨rfl, rfl⟩ : a = none ∧ c = 0 := by simp at h'; exact ⟨h'.1, h'.2.2⟩
  obtain rfl : i = 0 := by omega
  exact .inl ⟨rfl, rfl⟩
 ·obtain ⟨rfl, rfl⟩ : a = some ⟨g, 0, none⟩ ∧ c = cap := by simpa using h'
  exact .inr ⟨g, c, cur, rfl, hb, hg, by omega, hc, hs, by rw [← ht, List.take_take, Nat.min_eq_left hm]⟩

theorem pW {w : World} {base : Nat} {e : TypeId} {size : Nat} {a : Option Addr} {n c : Nat} {xs : List Value} (h : w.ownsRow base e size (.slice a n c) n xs) {m : Nat} (hm : n ≤ m) (hc : m ≤ c) : ∃ ys : List Value, ys.length = (m - n) * size ∧ w.ownsRow base e size (.slice a m c) m (xs ++ ys) := by
 rcases h.2 with ⟨h', h2⟩ | ⟨g, cap, cur, h', hb, hg, hn, hcm, hs, ht⟩
 ·obtain ⟨rfl, rfl⟩ : a = none ∧ c = 0 := by simp at h'; exact ⟨h'.1, h'.2.2⟩
  obtain rfl : m = 0 := by omega
  obtain rfl : n = 0 := by omega
  exact ⟨[], by simp, by simpa using h⟩
 ·obtain ⟨rfl, rfl⟩ : a = some ⟨g, 0, none⟩ ∧ c = cap := by simpa using h'
  have h1 : m * size ≤ c * size := Nat.mul_le_mul_right _ hc
  have h2 : n * size ≤ m * size := Nat.mul_le_mul_right _ hm
  have hl : (cur.toList.take (m * size)).length = m * size := by rw [List.length_take, Array.length_toList, hs]; omega
  refine ⟨(cur.toList.take (m * size)).drop (n * size), by rw [List.length_drop, hl, Nat.sub_mul], ?_, .inr ⟨g, c, cur, rfl, hb, hg, hc, hcm, hs, ?_⟩⟩
  ·rw [List.length_append, h.1, List.length_drop, hl]; omega
  ·rw [← ht]
   have : cur.toList.take (n * size) = (cur.toList.take (m * size)).take (n * size) := by rw [List.take_take, Nat.min_eq_left h2]
   rw [this, List.take_append_drop]
end
section
open Go.RowKit
variable {α : Type}

def flat (enc : α → List Value) (l : List α) : List Value := l.flatMap enc

theorem flat_length {enc : α → List Value} {k : Nat} (hk : ∀ x, (enc x).length = k) (l : List α) : (flat enc l).length = l.length * k := by
 unfold flat
 induction l with
 | nil => simp
 | cons x l ih => rw [List.flatMap_cons, List.length_append, hk, ih, List.length_cons, Nat.succ_mul, Nat.add_comm]

theorem aT (enc : α → List Value) (l m : List α) : flat enc (l ++ m) = flat enc l ++ flat enc m := by simp [flat]
theorem dG (enc : α → List Value) (x : α) (l : List α) : flat enc (x :: l) = enc x ++ flat enc l := by simp [flat]
theorem fF (enc : α → List Value) (x : α) : flat enc [x] = enc x := by simp [flat]

theorem dP {enc : α → List Value} {k : Nat} (hk : ∀ x, (enc x).length = k) (l : List α) (n : Nat) : (flat enc l).take (n * k) = flat enc (l.take n) := by
 by_cases h : n ≤ l.length
 ·conv => lhs; rw [← List.take_append_drop n l, aT]
  rw [List.take_left' (by rw [flat_length hk, List.length_take, Nat.min_eq_left h])]
 ·rw [List.take_of_length_le (show l.length ≤ n by omega), List.take_of_length_le (by rw [flat_length hk]; exact Nat.mul_le_mul_right _ (by omega))]
theorem dQ {enc : α → List Value} {k : Nat} (hk : ∀ x, (enc x).length = k) (l : List α) (n : Nat) : (flat enc l).drop (n * k) = flat enc (l.drop n) := by
 by_cases h : n ≤ l.length
 ·conv => lhs; rw [← List.take_append_drop n l, aT]
  rw [List.drop_left' (by rw [flat_length hk, List.length_take, Nat.min_eq_left h])]
 ·rw [List.drop_eq_nil_of_le (show l.length ≤ n by omega), List.drop_eq_nil_of_le (by rw [flat_length hk]; exact Nat.mul_le_mul_right _ (by omega))]; rfl

theorem flat_get {enc : α → List Value} {k : Nat} (hk : ∀ x, (enc x).length = k) (l : List α) (j : Nat) (hj : j < l.length) (i : Nat) (hi : i < k) : (flat enc l)[j * k + i]? = (enc l[j])[i]? := by
 rw [← List.getElem?_drop, dQ hk, List.drop_eq_getElem_cons hj, dG, List.getElem?_append_left (by rw [hk]; exact hi)]

theorem aN {enc : α → List Value} {k : Nat} (hk : ∀ x, (enc x).length = k) (hk0 : 0 < k) {w : World} {a : Option Addr} {l : List α} (h : Row w a (flat enc l)) {j : Nat} (hj : j < l.length) :
  ∃ b off, a = some ⟨b, off, none⟩ ∧ b < w.heap.size ∧ ∀ i v, (enc l[j])[i]? = some v → w.cell? ⟨b, off + j * k + i, none⟩ = some v := by
 have h0 : (flat enc l)[j * k + 0]? = some ((enc l[j])[0]'(by rw [hk]; exact hk0)) := by
  rw [flat_get hk l j hj 0 hk0, gJ]
 obtain ⟨b, off, e, hb, _⟩ := h _ _ h0
 refine ⟨b, off, e, hb, fun i v hi => ?_⟩
 have hik : i < k := by have := (List.getElem?_eq_some_iff.1 hi).1; rw [hk] at this; exact this
 obtain ⟨b', off', e', _, hc⟩ := h (j * k + i) v (by rw [flat_get hk l j hj i hik]; exact hi)
 rw [e] at e'
 obtain ⟨rfl, rfl⟩ : b = b' ∧ off = off' := by simpa using e'
 rw [Nat.add_assoc]; exact hc

theorem OV {enc : α → List Value} {k : Nat} (hk : ∀ x, (enc x).length = k) (hk0 : 0 < k) {w : World} {base : Nat} {e : TypeId} {a : Option Addr} {n c : Nat} {l : List α} (h : w.ownsRow base e k (.slice a n c) n (flat enc l)) {j : Nat} (hj : j < l.length) :
  ∃ g, a = some ⟨g, 0, none⟩ ∧ base ≤ g ∧ g < w.heap.size ∧ (∀ i v, (enc l[j])[i]? = some v → w.cell? ⟨g, j * k + i, none⟩ = some v) ∧ ∀ i, w.frozen? ⟨g, i, none⟩ = false := by
 obtain ⟨b, off, e1, hb, hc⟩ := aN hk hk0 (aY h) hj
 rcases h.2 with ⟨h', h2⟩ | ⟨g, cap, cur, h', hbg, hg, _⟩
 ·have h1 := h.1; rw [h2, Nat.zero_mul, flat_length hk] at h1
  have : 0 < l.length * k := Nat.mul_pos (by omega) hk0
  omega
 ·obtain ⟨rfl, rfl⟩ : a = some ⟨g, 0, none⟩ ∧ c = cap := by simpa using h'
  obtain ⟨rfl, rfl⟩ : g = b ∧ 0 = off := by simpa using e1
  refine ⟨g, rfl, hbg, hb, fun i v hi => by have := hc i v hi; rw [Nat.zero_add] at this; exact this, fun i => World.ownsRow.frozenAt h i⟩

theorem aZ {enc : α → List Value} {k : Nat} (hk : ∀ x, (enc x).length = k) (hk0 : 0 < k) {w : World} {base : Nat} {e : TypeId} {v : Value} {n : Nat} {l : List α} (h : w.ownsRow base e k v n (flat enc l)) : l.length = n := by
 have h1 := h.1
 rw [flat_length hk] at h1
 exact Nat.eq_of_mul_eq_mul_right hk0 h1
end
section
open Go.RowKit
open Classical in
noncomputable def ext (w x : World) : World := if Below w.heap.size w x then x else w

theorem aQ (w x : World) : Below w.heap.size w (ext w x) := by
  unfold ext
  split
  · assumption
  · exact Below.refl _ _
theorem bP {w x : World} (h : Below w.heap.size w x) : ext w x = x := by unfold ext; rw [if_pos h]

@[go_sem] theorem YG {w x : World} {b o : Nat} {s : Option Nat} (h : b < w.heap.size) : (ext w x).cell? ⟨b, o, s⟩ = w.cell? ⟨b, o, s⟩ := (aQ w x).cell (p := ⟨b, o, s⟩) h
@[go_sem] theorem VY {w x : World} {b o : Nat} {s : Option Nat} (h : b < w.heap.size) : (ext w x).frozen? ⟨b, o, s⟩ = w.frozen? ⟨b, o, s⟩ := (aQ w x).frozen (p := ⟨b, o, s⟩) h

theorem aS {P : Program} {id : Nat} {Q : Exit → Act → World → Prop} {a : Act} {w : World} {l : List Oper} (hm : P.follows .mixedOrders = true) (hB : Region.lexB .any l.toArray = true)
    (h : wpQuiet P l.toArray (fun w' => ∃ x, w' = ext w x) (fun a' => ∀ w', (∃ x, w' = ext w x) → Q .normal a' w') l a) : (Code.region id l.toArray true).wp P Q a w :=
  wp_region_quiet (C := fun w' => ∃ x, w' = ext w x) hm hB ⟨w.drew, (bP (Below.refl _ _).drew).symm⟩ (by simpa using h)

theorem Calls.bP {P : Program} {f : FuncId} {args : Array Value} {w x : World} {v : Value}
    (h : Calls P f args (ext w x) fun e w' => e = .returned v ∧ Below (ext w x).heap.size (ext w x) w') : Calls P f args (ext w x) fun e w'' => e = .returned v ∧ ∃ y, w'' = ext w y :=
  h.mono fun _ w' ⟨he, hb⟩ => ⟨he, w', (Go.Proofs.YtcmpmobhongkiaaGreatDoor.bP ((aQ w x).trans (hb.mono (aQ w x).size))).symm⟩
theorem xM {B : Nat} {a W W' : World} (h2 : Below W.heap.size W W') (h1 : Below B a W) (hB : B ≤ W.heap.size) : Below B a W' := h1.trans (h2.mono hB)
theorem Below.step {w w1 w2 : World} (h1 : Below w.heap.size w w1) (h2 : Below w1.heap.size w1 w2) : Below w.heap.size w w2 := h1.trans (h2.mono h1.size)

theorem bC (w : World) (vs : Array Value) (t : TypeId) (o : Nat) : (w.alloc (.cells vs t)).cell? ⟨w.heap.size, o, none⟩ = vs[o]? := cell_of_row _ _ _ _ _ _ (heap_alloc_new w _)
theorem eH (w : World) (vs : Array Value) (t : TypeId) (o : Nat) : (w.alloc (.cells vs t)).frozen? ⟨w.heap.size, o, none⟩ = false := by
  unfold World.frozen?
  rw [heap_alloc_new]
  simp
theorem OW {w w1 : World} {vs : Array Value} {t : TypeId} (h : Below (w.alloc (.cells vs t)).heap.size (w.alloc (.cells vs t)) w1) (o : Nat) : w1.cell? ⟨w.heap.size, o, none⟩ = vs[o]? := by
  rw [h.cell (p := ⟨w.heap.size, o, none⟩) (by simp)]; exact bC w vs t o
theorem aC {w1 w2 : World} {b : Nat} {vs : Array Value} (h : ∀ o, w1.cell? ⟨b, o, none⟩ = vs[o]?) (hlt : b < w1.heap.size) (hb : Below w1.heap.size w1 w2) (o : Nat) : w2.cell? ⟨b, o, none⟩ = vs[o]? := by
  rw [hb.cell (p := ⟨b, o, none⟩) hlt]; exact h o
theorem aJ {w1 w2 : World} {b : Nat} (h : ∀ o, w1.frozen? ⟨b, o, none⟩ = false) (hlt : b < w1.heap.size) (hb : Below w1.heap.size w1 w2) (o : Nat) : w2.frozen? ⟨b, o, none⟩ = false := by
  rw [hb.frozen (p := ⟨b, o, none⟩) hlt]; exact h o
theorem aB (w : World) (o : Obj) : Below w.heap.size w (w.alloc o) := (Below.refl _ _).alloc (Nat.le_refl _) _

theorem aG {w : World} {b : Nat} {vs : Array Value} (h : ∀ o, w.cell? ⟨b, o, none⟩ = vs[o]?) (i : Nat) (u : Value) (o : Nat) : (w.setCell ⟨b, i, none⟩ u).cell? ⟨b, o, none⟩ = (vs.setIfInBounds i u)[o]? := by
  have h0 := h o
  unfold World.cell? World.setCell at *
  simp only [Array.getElem?_modify, if_true] at *
  cases hb : w.heap[b]? with
  | none => rw [hb] at h0; simp only [Option.map_none] at *; rw [Array.getElem?_setIfInBounds]; split
            · rename_i e; subst e
              split
              · rename_i hlt; rw [Array.getElem?_eq_getElem hlt] at h0; cases h0
              · rfl
            · exact h0
  | some ob =>
    rw [hb] at h0
    cases ob with
    | cells c t fr =>
      simp only [Option.map_some, Option.isSome_none, Bool.false_eq_true, if_false] at *
      rw [Array.getElem?_setIfInBounds, Array.getElem?_setIfInBounds, h0]
      have hsz : i = o → (i < c.size ↔ i < vs.size) := fun e => by
        subst e
        constructor
        · intro hl; rw [Array.getElem?_eq_getElem hl] at h0
          exact (Array.getElem?_eq_some_iff.1 h0.symm).1
        · intro hl; rw [Array.getElem?_eq_getElem hl] at h0
          exact (Array.getElem?_eq_some_iff.1 h0).1
      by_cases e : i = o
      · rw [if_pos e, if_pos e]
        by_cases hl : i < c.size
        · rw [if_pos hl, if_pos ((hsz e).1 hl)]
        · rw [if_neg hl, if_neg (fun h => hl ((hsz e).2 h))]
      · rw [if_neg e, if_neg e]
    | _ => simp only [Option.map_some] at *; rw [Array.getElem?_setIfInBounds]; split
           · rename_i e; subst e
             split
             · rename_i hlt; rw [Array.getElem?_eq_getElem hlt] at h0; cases h0
             · rfl
           · exact h0
theorem aH {w : World} {b : Nat} (h : ∀ o, w.frozen? ⟨b, o, none⟩ = false) (a : Addr) (u : Value) (o : Nat) : (w.setCell a u).frozen? ⟨b, o, none⟩ = false := by
  rw [World.frozen?_setCell]; exact h o
theorem aA {W : World} {b c : Nat} {A : Array Value} (h : ∀ o, W.cell? ⟨b, o, none⟩ = A[o]?) (hne : b ≠ c) (i : Nat) (u : Value) (o : Nat) : (W.setCell ⟨c, i, none⟩ u).cell? ⟨b, o, none⟩ = A[o]? := by
  have hx : (⟨c, i, none⟩ : Addr) ≠ ⟨b, o, none⟩ := fun e => hne (by simpa using (congrArg Addr.block e).symm)
  exact (World.cell?_setCell_other _ _ _ _ hx).trans (h o)
theorem own_ne {w : World} {base : Nat} {e : TypeId} {size : Nat} {v : Value} {n : Nat} {xs : List Value} (h : w.ownsRow base e size v n xs) {b : Nat} (hb : b < base ∨ w.heap.size ≤ b) : v.ownBlock ≠ some b := fun e => by
  have := h.lt b e; omega
theorem dL {w : World} {base : Nat} {e : TypeId} {size : Nat} {v : Value} {n : Nat} {xs : List Value} (h : w.ownsRow base e size v n xs) {b i : Nat} (hb : v.ownBlock ≠ some b) (u : Value) : (w.setCell ⟨b, i, none⟩ u).ownsRow base e size v n xs :=
  ownsRow_setCell_other h hb u

theorem boxes1 (w : World) (A : Array Value) (tA : TypeId) :
    (∀ o, (w.alloc (.cells A tA)).cell? ⟨w.heap.size, o, none⟩ = A[o]?) ∧ (∀ o, (w.alloc (.cells A tA)).frozen? ⟨w.heap.size, o, none⟩ = false) ∧
    w.heap.size < (w.alloc (.cells A tA)).heap.size ∧ Below w.heap.size w (w.alloc (.cells A tA)) :=
  ⟨bC w A tA, eH w A tA, by simp, aB _ _⟩
theorem boxes2 (w : World) (A : Array Value) (tA : TypeId) (B : Array Value) (tB : TypeId) :
    (∀ o, ((w.alloc (.cells A tA)).alloc (.cells B tB)).cell? ⟨w.heap.size, o, none⟩ = A[o]?) ∧ (∀ o, ((w.alloc (.cells A tA)).alloc (.cells B tB)).cell? ⟨w.heap.size + 1, o, none⟩ = B[o]?) ∧
    (∀ o, ((w.alloc (.cells A tA)).alloc (.cells B tB)).frozen? ⟨w.heap.size, o, none⟩ = false) ∧ (∀ o, ((w.alloc (.cells A tA)).alloc (.cells B tB)).frozen? ⟨w.heap.size + 1, o, none⟩ = false) ∧
    w.heap.size + 1 < ((w.alloc (.cells A tA)).alloc (.cells B tB)).heap.size ∧ Below w.heap.size w ((w.alloc (.cells A tA)).alloc (.cells B tB)) := by
  have h := boxes1 (w.alloc (.cells A tA)) B tB
  have hs : (w.alloc (.cells A tA)).heap.size = w.heap.size + 1 := by simp
  rw [hs] at h
  obtain ⟨h1, h2, h3, h4⟩ := h
  rw [← hs] at h4
  exact ⟨aC (bC w A tA) (by simp) h4, h1, aJ (eH w A tA) (by simp) h4, h2, h3, Below.step (aB _ _) h4⟩
theorem boxes3 (w : World) (A : Array Value) (tA : TypeId) (B : Array Value) (tB : TypeId) (C : Array Value) (tC : TypeId) :
    (∀ o, (((w.alloc (.cells A tA)).alloc (.cells B tB)).alloc (.cells C tC)).cell? ⟨w.heap.size, o, none⟩ = A[o]?) ∧ (∀ o, (((w.alloc (.cells A tA)).alloc (.cells B tB)).alloc (.cells C tC)).cell? ⟨w.heap.size + 1, o, none⟩ = B[o]?) ∧ (∀ o, (((w.alloc (.cells A tA)).alloc (.cells B tB)).alloc (.cells C tC)).cell? ⟨w.heap.size + 1 + 1, o, none⟩ = C[o]?) ∧
    (∀ o, (((w.alloc (.cells A tA)).alloc (.cells B tB)).alloc (.cells C tC)).frozen? ⟨w.heap.size, o, none⟩ = false) ∧ (∀ o, (((w.alloc (.cells A tA)).alloc (.cells B tB)).alloc (.cells C tC)).frozen? ⟨w.heap.size + 1, o, none⟩ = false) ∧ (∀ o, (((w.alloc (.cells A tA)).alloc (.cells B tB)).alloc (.cells C tC)).frozen? ⟨w.heap.size + 1 + 1, o, none⟩ = false) ∧
    w.heap.size + 2 < (((w.alloc (.cells A tA)).alloc (.cells B tB)).alloc (.cells C tC)).heap.size ∧ Below w.heap.size w (((w.alloc (.cells A tA)).alloc (.cells B tB)).alloc (.cells C tC)) := by
  obtain ⟨h1, h2, h3, h4, h5, h6⟩ := boxes2 w A tA B tB
  have h := boxes1 ((w.alloc (.cells A tA)).alloc (.cells B tB)) C tC
  have hs : ((w.alloc (.cells A tA)).alloc (.cells B tB)).heap.size = w.heap.size + 1 + 1 := by simp
  rw [hs] at h
  obtain ⟨k1, k2, k3, k4⟩ := h
  rw [← hs] at k4
  exact ⟨aC h1 (by omega) k4, aC h2 h5 k4, k1, aJ h3 (by omega) k4, aJ h4 h5 k4, k2, k3, Below.step h6 k4⟩
end
section
open Go.RowKit

theorem kZ {P : Program} {w : World} {ops : Array Oper} {rest : List Oper} {o : Oper} {a : Act} {Q : Exit → Act → World → Prop} (hgd : o.guard = none) (s x : Operand) (t : TypeId)
  (ho : o.op = .call { callee := .builtin .append, args := #[s, x], argTypes := #[t, t] })
  (base : Nat) (e : TypeId) (z : Value) (size bytes : Nat) (ht : P.underlying t = some (.slice e)) (hinfo : (P.info? e).map (fun i => (i.zero, i.size, i.bytes)) = some (some z, size, bytes)) (hsz : 0 < size)
  (as_ : Option Addr) (n cs : Nat) (xs : List Value) (hs : a.eval s = .slice as_ n cs) (hown : w.ownsRow base e size (.slice as_ n cs) n xs)
  (ax : Option Addr) (m cx : Nat) (news : List Value) (hx : a.eval x = .slice ax m cx) (hl : news.length = m * size) (hnews : Row w ax news) (h1 : ∀ u ∈ news, u.oneCell' = true)
  (hroom : n + m ≤ cs)
  (h : ∀ w', w'.ownsRow base e size (.slice as_ (n + m) cs) (n + m) (xs ++ news) → w.grownBy w' (Value.ownBlock (.slice as_ n cs)) → wpList P ops Q rest (a.put o.dst (.slice as_ (n + m) cs)) w') :
  wpList P ops Q (o :: rest) a w := by
 obtain ⟨i, hi, hz, hsize, hby⟩ := info_parts hinfo
 subst hsize
 refine wpList_plain hgd fun K hK => ?_
 have hlen : (xs ++ news).length = (n + m) * i.size := by rw [List.length_append, hown.1, hl, Nat.add_mul]
 have key : ∃ w', (Builtin.append_ #[t, t] o.type #[.slice as_ n cs, .slice ax m cx]).run P w = .ok (.slice as_ (n + m) cs) w' ∧ w'.ownsRow base e i.size (.slice as_ (n + m) cs) (n + m) (xs ++ news) ∧ w.grownBy w' (Value.ownBlock (.slice as_ n cs)) := by
  rcases Nat.eq_zero_or_pos m with rfl | hm
  ·obtain rfl : news = [] := List.eq_nil_of_length_eq_zero (by simpa using hl)
   refine ⟨w, ?_, by simpa using hown, ⟨rfl, rfl, rfl, Nat.le_refl _, fun _ _ _ => rfl⟩⟩
   have hf := lX (P := P) i.size 0 ax 0 cx [] (by simp) (Row.nil w ax)
   cases as_ with
   | none =>
    rcases hown.2 with ⟨hv, rfl⟩ | ⟨g, cap, cur, hv, _⟩
    ·obtain rfl : cs = 0 := by simp at hv; exact hv
     cases ax <;> simp [Builtin.append_, run_underlying ht, sizeOf, typeInfo, hi, Builtin.lenOf, Builtin.firstCells, loadCells, loadCellsFrom]
    ·simp at hv
   | some ad =>
    have hn : n ≤ cs := by omega
    cases ax <;> simp [Builtin.append_, run_underlying ht, sizeOf, typeInfo, hi, Builtin.lenOf, Builtin.firstCells, loadCells, loadCellsFrom, hn, storeCells]
  ·have hnz : news ≠ [] := by
    intro e; subst e
    have := Nat.mul_pos hm hsz
    simp at hl; omega
   obtain ⟨ad, rfl⟩ : ∃ ad, ax = some ad := by
    cases news with
    | nil => exact absurd rfl hnz
    | cons u l => obtain ⟨b, off, e1, _⟩ := hnews 0 u rfl; exact ⟨_, e1⟩
   rcases hown.2 with ⟨hv, rfl⟩ | ⟨g, cap, cur, hv, hbg, hg, hnc, hcm, hcs, htake⟩
   ·obtain ⟨rfl, rfl⟩ : as_ = none ∧ cs = 0 := by simp at hv; exact hv
    omega
   ·obtain ⟨rfl, rfl⟩ : as_ = some ⟨g, 0, none⟩ ∧ cs = cap := by simpa using hv
    have hfit : n * i.size + news.length ≤ cur.size := by rw [hl, hcs, ← Nat.add_mul]; exact Nat.mul_le_mul_right _ hroom
    have hr := run_append_room (P := P) w t o.type e i ht hi g n cs cur hg ad m cx news hl (fun j u hj => by
     obtain ⟨b, off, e1, _, h5⟩ := hnews j u hj
     obtain rfl : ad = ⟨b, off, none⟩ := by simpa using e1
     rw [Addr.add_lit]; exact h5) h1 hroom hfit
    refine ⟨_, hr, ⟨hlen, .inr ⟨g, cs, _, rfl, hbg, setRow_heap w g cur _ e _ hg, hroom, hcm, ?_, ?_⟩⟩, ⟨rfl, rfl, rfl, by simp [World.setRow], fun k _ hk => setRow_other w g k _ (fun e => hk (by simp [Value.ownBlock, e]))⟩⟩
    ·simp only [List.size_toArray, List.length_append, List.length_take, List.length_drop, Array.length_toList]
     omega
    ·rw [htake, ← hlen]
     exact List.take_left
 obtain ⟨w', hr, h2, h3⟩ := key
 unfold Oper.wp execOp
 simp only [ho, resolve, invoke, builtin, Sem.run_bind, Sem.run_pure, Result.andThen_ok, List.map_toArray, List.map_cons, List.map_nil, hs, hx, hr]
 exact hK _ _ (h w' h2 h3)

theorem iF {w w' : World} {base : Nat} {e : TypeId} {size : Nat} {v : Value} {n : Nat} {xs : List Value} (h : w.ownsRow base e size v n xs) {row : Option Nat} (hg : w.grownBy w' row) (hne : ∀ k, v.ownBlock = some k → row ≠ some k) : w'.ownsRow base e size v n xs := by
 refine ⟨h.1, ?_⟩
 rcases h.2 with h' | ⟨g, cap, cur, h1, h2, hgg, rest⟩
 ·exact .inl h'
 ·refine .inr ⟨g, cap, cur, h1, h2, ?_, rest⟩
  rw [hg.block g (Array.getElem?_eq_some_iff.1 hgg).1 (fun e => hne g (by rw [h1]; rfl) e.symm)]
  exact hgg

theorem uO {P : Program} {w : World} (sT ty : TypeId) (e : TypeId) (hu : P.underlying sT = some (.slice e)) (size : Nat) (z : Value) (hz : ∀ w, (zeroValue e).run P w = .ok z w) (hzs : z.cells.size = size) (hz1 : ∀ u ∈ z.cells, u.oneCell' = true)
  (base n k c : Nat) (cc : Nat) (ao : Option Addr) (xs : List Value) (hown : w.ownsRow base e size (.slice ao n c) n xs) (hfit : n + k ≤ c) :
  ∃ w', (Builtin.clear_ #[sT] ty #[.slice (bT ao n c size) k cc]).run P w = .ok (.tuple #[]) w' ∧ w'.ownsRow base e size (.slice ao n c) n xs ∧ w.grownBy w' (Value.ownBlock (.slice ao n c)) := by
 rcases Nat.eq_zero_or_pos k with rfl | hk
 ·refine ⟨w, ?_, hown, ⟨rfl, rfl, rfl, Nat.le_refl _, fun _ _ _ => rfl⟩⟩
  cases bT ao n c size <;> simp [Builtin.clear_, run_underlying hu]
 ·rcases hown.2 with ⟨h', h2⟩ | ⟨g, cap, cur, h', hb, hg, hn, hcm, hsz, ht⟩
  ·obtain ⟨rfl, rfl⟩ : ao = none ∧ c = 0 := by simp at h'; exact ⟨h'.1, h'.2.2⟩
   omega
  ·obtain ⟨rfl, rfl⟩ : ao = some ⟨g, 0, none⟩ ∧ c = cap := by simpa using h'
   have hcut : bT (some ⟨g, 0, none⟩) n c size = some ⟨g, n * size, none⟩ := by
    unfold bT
    rw [if_neg (by omega)]
    simp [Addr.add_lit]
   have hzl : (Builtin.zeroCells z.cells k).toList.length = k * size := by rw [← hzs]; simp [Builtin.zeroCells]
   have hz1' : ∀ u ∈ (Builtin.zeroCells z.cells k).toList, u.oneCell' = true := by
    intro u hu
    simp only [Builtin.zeroCells, Array.toList_map, List.mem_map, Array.toList_range, List.mem_range] at hu
    obtain ⟨i, hi, rfl⟩ := hu
    have hpos : 0 < z.cells.size := by
     rcases Nat.eq_zero_or_pos z.cells.size with h0 | h0
     ·rw [h0, Nat.mul_zero] at hi; omega
     ·exact h0
    have hlt : i % z.cells.size < z.cells.size := Nat.mod_lt _ hpos
    rw [getElem!_pos z.cells (i % z.cells.size) hlt]
    exact hz1 _ (Array.getElem_mem _)
   have hnk : n * size + k * size ≤ c * size := by rw [← Nat.add_mul]; exact Nat.mul_le_mul_right _ hfit
   have hst := run_storeCells_at P g (n * size) e (Builtin.zeroCells z.cells k).toList 0 cur w hg (by rw [hzl]; omega) hz1'
   refine ⟨w.setRow g (cur.toList.take (n * size) ++ (Builtin.zeroCells z.cells k).toList ++ cur.toList.drop (n * size + (Builtin.zeroCells z.cells k).toList.length)).toArray, ?_, ?_, ?_⟩
   ·obtain ⟨m, rfl⟩ : ∃ m, k = m + 1 := ⟨k - 1, by omega⟩
    simp only [Nat.add_zero] at hst
    simp [Builtin.clear_, run_underlying hu, hz, hcut, hst]
   ·refine ⟨hown.1, .inr ⟨g, c, _, rfl, hb, setRow_heap w g cur _ e _ hg, hn, hcm, ?_, ?_⟩⟩
    ·simp only [List.size_toArray, List.length_append, List.length_take, List.length_drop, Array.length_toList, hzl]; omega
    ·have hl : (cur.toList.take (n * size)).length = n * size := by rw [List.length_take, Array.length_toList]; omega
     rw [List.append_assoc]
     rw [List.take_left' hl]; exact ht
   ·exact ⟨rfl, rfl, rfl, by simp [World.setRow], fun k _ hk => setRow_other w g k _ (fun e => hk (by simp [Value.ownBlock, e]))⟩

theorem iG {P : Program} {w : World} (dT sT ty : TypeId) (e : TypeId) (hu : P.underlying dT = some (.slice e)) (size : Nat) (hsz : (P.info? e).map (·.size) = some size)
  (dp sp : Option Addr) (dLen dCap sLen sCap : Nat)
  (cs : List Value) (hn : cs.length = Nat.min sLen dLen * size) (hcs : Row w sp cs) (h1 : ∀ u ∈ cs, u.oneCell' = true)
  (base N co p : Nat) (ao : Option Addr) (xs : List Value) (hown : w.ownsRow base e size (.slice ao N co) N xs) (hp : 0 < cs.length → dp = ao.map (·.add (p * size))) (hdn : dp = none → cs = []) (hfit : p * size + cs.length ≤ N * size) :
  ∃ w', (Builtin.copy_ #[dT, sT] ty #[.slice dp dLen dCap, .slice sp sLen sCap]).run P w = .ok (goInt (Nat.min sLen dLen : Nat)) w' ∧ w'.ownsRow base e size (.slice ao N co) N (xs.take (p * size) ++ cs ++ xs.drop (p * size + cs.length)) ∧ w.grownBy w' (Value.ownBlock (.slice ao N co)) := by
 cases hq : P.info? e with
 | none => simp [hq] at hsz
 | some i =>
  have hi : i.size = size := by simpa [hq] using hsz
  have hf := lX (P := P) size (Nat.min sLen dLen) sp sLen sCap cs hn hcs
  by_cases hc0 : 0 < cs.length
  ·obtain ⟨g, cap, cur, hv, hbg, hg, hnc, hcm, hcsz, htk⟩ : ∃ g cap cur, Value.slice ao N co = .slice (some ⟨g, 0, none⟩) N cap ∧ base ≤ g ∧ w.heap[g]? = some (.cells cur e (0, 0)) ∧ N ≤ cap ∧ cap ≤ maxLen ∧ cur.size = cap * size ∧ cur.toList.take (N * size) = xs := by
    rcases hown.2 with ⟨_, h0⟩ | h
    ·rw [h0, Nat.zero_mul] at hfit; omega
    ·exact h
   obtain ⟨rfl, rfl⟩ : ao = some ⟨g, 0, none⟩ ∧ co = cap := by simpa using hv
   have hdp := hp hc0
   simp only [Option.map_some, Addr.add_lit, Nat.zero_add] at hdp
   subst hdp
   have hNc : N * size ≤ cur.size := by rw [hcsz]; exact Nat.mul_le_mul_right _ hnc
   have hst := run_storeCells_at P g (p * size) e cs 0 cur w hg (by omega) h1
   refine ⟨w.setRow g (cur.toList.take (p * size) ++ cs ++ cur.toList.drop (p * size + cs.length)).toArray, ?_, ?_, ?_⟩
   ·simp only [Nat.add_zero] at hst
    simp [Builtin.copy_, run_underlying hu, Builtin.lenOf, sizeOf, typeInfo, hq, hi, hf, hst]
   ·refine ⟨?_, .inr ⟨g, co, _, rfl, hbg, setRow_heap w g cur _ e _ hg, hnc, hcm, ?_, ?_⟩⟩
    ·have := hown.1
     simp only [List.length_append, List.length_take, List.length_drop]; omega
    ·simp only [List.size_toArray, List.length_append, List.length_take, List.length_drop, Array.length_toList]; omega
    ·exact EX _ _ _ _ _ htk (by simpa using hNc) hfit
   ·exact ⟨rfl, rfl, rfl, by simp [World.setRow], fun k _ hk => setRow_other w g k _ (fun e => hk (by simp [Value.ownBlock, e]))⟩
  ·have hc : cs = [] := List.eq_nil_of_length_eq_zero (by omega)
   subst hc
   refine ⟨w, ?_, by simpa using hown, ⟨rfl, rfl, rfl, Nat.le_refl _, fun _ _ _ => rfl⟩⟩
   cases dp with
   | none => simp [Builtin.copy_, run_underlying hu, Builtin.lenOf, sizeOf, typeInfo, hq, hi, hf]
   | some ad => simp [Builtin.copy_, run_underlying hu, Builtin.lenOf, sizeOf, typeInfo, hq, hi, hf, storeCells]
end
end Go.Proofs.YtcmpmobhongkiaaGreatDoor
