/- Rows of structs: elements of k cells each, one behind the other. No program in sight. -/
import Derived.Test.YtbkajbjhffdlfaaDoorBase2
namespace Go.Proofs.YtbkajbjhffdlfaaDoor
open Go.RowKit
variable {α : Type}

/-- the cells of a list of structs -/
def flat (enc : α → List Value) (l : List α) : List Value := l.flatMap enc

theorem flat_length {enc : α → List Value} {k : Nat} (hk : ∀ x, (enc x).length = k) (l : List α) : (flat enc l).length = l.length * k := by
  unfold flat
  induction l with
  | nil => simp
  | cons x l ih => rw [List.flatMap_cons, List.length_append, hk, ih, List.length_cons, Nat.succ_mul, Nat.add_comm]

theorem flat_append (enc : α → List Value) (l m : List α) : flat enc (l ++ m) = flat enc l ++ flat enc m := by simp [flat]
theorem flat_nil (enc : α → List Value) : flat enc [] = [] := rfl
theorem flat_cons (enc : α → List Value) (x : α) (l : List α) : flat enc (x :: l) = enc x ++ flat enc l := by simp [flat]
theorem flat_one (enc : α → List Value) (x : α) : flat enc [x] = enc x := by simp [flat]

theorem flat_take {enc : α → List Value} {k : Nat} (hk : ∀ x, (enc x).length = k) (l : List α) (n : Nat) : (flat enc l).take (n * k) = flat enc (l.take n) := by
  by_cases h : n ≤ l.length
  · conv => lhs; rw [← List.take_append_drop n l, flat_append]
    rw [List.take_left' (by rw [flat_length hk, List.length_take, Nat.min_eq_left h])]
  · rw [List.take_of_length_le (show l.length ≤ n by omega), List.take_of_length_le (by rw [flat_length hk]; exact Nat.mul_le_mul_right _ (by omega))]
theorem flat_drop {enc : α → List Value} {k : Nat} (hk : ∀ x, (enc x).length = k) (l : List α) (n : Nat) : (flat enc l).drop (n * k) = flat enc (l.drop n) := by
  by_cases h : n ≤ l.length
  · conv => lhs; rw [← List.take_append_drop n l, flat_append]
    rw [List.drop_left' (by rw [flat_length hk, List.length_take, Nat.min_eq_left h])]
  · rw [List.drop_eq_nil_of_le (show l.length ≤ n by omega), List.drop_eq_nil_of_le (by rw [flat_length hk]; exact Nat.mul_le_mul_right _ (by omega))]; rfl

theorem flat_get {enc : α → List Value} {k : Nat} (hk : ∀ x, (enc x).length = k) (l : List α) (j : Nat) (hj : j < l.length) (i : Nat) (hi : i < k) : (flat enc l)[j * k + i]? = (enc l[j])[i]? := by
  rw [← List.getElem?_drop, flat_drop hk, List.drop_eq_getElem_cons hj, flat_cons, List.getElem?_append_left (by rw [hk]; exact hi)]

theorem flat_set {enc : α → List Value} {k : Nat} (hk : ∀ x, (enc x).length = k) (l : List α) (j : Nat) (hj : j < l.length) (x : α) : (flat enc l).take (j * k) ++ enc x ++ (flat enc l).drop ((j + 1) * k) = flat enc (l.set j x) := by
  rw [flat_take hk, flat_drop hk, List.set_eq_take_append_cons_drop, if_pos hj, flat_append, flat_cons, List.append_assoc]

/-- an element's cells -/
theorem row_elem {enc : α → List Value} {k : Nat} (hk : ∀ x, (enc x).length = k) (hk0 : 0 < k) {w : World} {a : Option Addr} {l : List α} (h : Row w a (flat enc l)) {j : Nat} (hj : j < l.length) :
    ∃ b off, a = some ⟨b, off, none⟩ ∧ b < w.heap.size ∧ ∀ i v, (enc l[j])[i]? = some v → w.cell? ⟨b, off + j * k + i, none⟩ = some v := by
  have h0 : (flat enc l)[j * k + 0]? = some ((enc l[j])[0]'(by rw [hk]; exact hk0)) := by
    rw [flat_get hk l j hj 0 hk0, List.getElem?_eq_getElem]
  obtain ⟨b, off, e, hb, _⟩ := h _ _ h0
  refine ⟨b, off, e, hb, fun i v hi => ?_⟩
  have hik : i < k := by have := (List.getElem?_eq_some_iff.1 hi).1; rw [hk] at this; exact this
  obtain ⟨b', off', e', _, hc⟩ := h (j * k + i) v (by rw [flat_get hk l j hj i hik]; exact hi)
  rw [e] at e'
  obtain ⟨rfl, rfl⟩ : b = b' ∧ off = off' := by simpa using e'
  rw [Nat.add_assoc]; exact hc

/-- an element loaded whole -/
theorem load_elem {P : Program} {enc : α → List Value} {k : Nat} (hk : ∀ x, (enc x).length = k) {w : World} {b off j : Nat} {x : α} (h : ∀ i v, (enc x)[i]? = some v → w.cell? ⟨b, off + j * k + i, none⟩ = some v) :
    Sem.run P (loadCellsFrom ⟨b, off + j * k, none⟩ 0 k #[]) w = .ok (enc x).toArray w := by
  have := run_loadCells_list (P := P) (w := w) ⟨b, off + j * k, none⟩ (enc x) (fun i v hi => by rw [Addr.add_lit]; exact h i v hi)
  rw [hk] at this
  simpa [loadCells] using this

/-- an element of an owned row is written -/
theorem own_elem {enc : α → List Value} {k : Nat} (hk : ∀ x, (enc x).length = k) (hk0 : 0 < k) {w : World} {base : Nat} {e : TypeId} {a : Option Addr} {n c : Nat} {l : List α} (h : w.ownsRow base e k (.slice a n c) n (flat enc l)) {j : Nat} (hj : j < l.length) :
    ∃ g, a = some ⟨g, 0, none⟩ ∧ base ≤ g ∧ g < w.heap.size ∧ (∀ i v, (enc l[j])[i]? = some v → w.cell? ⟨g, j * k + i, none⟩ = some v) ∧ ∀ i, w.frozen? ⟨g, i, none⟩ = false := by
  obtain ⟨b, off, e1, hb, hc⟩ := row_elem hk hk0 (own_row h) hj
  rcases h.2 with ⟨h', h2⟩ | ⟨g, cap, cur, h', hbg, hg, _⟩
  · have h1 := h.1; rw [h2, Nat.zero_mul, flat_length hk] at h1
    have : 0 < l.length * k := Nat.mul_pos (by omega) hk0
    omega
  · obtain ⟨rfl, rfl⟩ : a = some ⟨g, 0, none⟩ ∧ c = cap := by simpa using h'
    obtain ⟨rfl, rfl⟩ : g = b ∧ 0 = off := by simpa using e1
    refine ⟨g, rfl, hbg, hb, fun i v hi => by have := hc i v hi; rw [Nat.zero_add] at this; exact this, fun i => World.ownsRow.frozenAt h i⟩

theorem own_flat_len {enc : α → List Value} {k : Nat} (hk : ∀ x, (enc x).length = k) (hk0 : 0 < k) {w : World} {base : Nat} {e : TypeId} {v : Value} {n : Nat} {l : List α} (h : w.ownsRow base e k v n (flat enc l)) : l.length = n := by
  have h1 := h.1
  rw [flat_length hk] at h1
  exact Nat.eq_of_mul_eq_mul_right hk0 h1
end Go.Proofs.YtbkajbjhffdlfaaDoor
