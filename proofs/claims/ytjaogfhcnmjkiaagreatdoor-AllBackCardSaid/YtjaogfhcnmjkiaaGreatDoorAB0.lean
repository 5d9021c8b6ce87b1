/- small lemmas of this claim. -/
import Derived.Test.YtjaogfhcnmjkiaaGreatDoorProg
import Derived.WalkKit
import Derived.LoopTactic
import Derived.Below
namespace Go.Proofs.YtjaogfhcnmjkiaaGreatDoor
open Go.RowKit
theorem gB {α : Type} (a : List α) (i : Nat) : a.toArray[i]? = a[i]? := List.getElem?_toArray
theorem gC {α : Type} (a : α) (l : List α) : (a :: l)[0]? = some a := rfl
theorem gD {α : Type} (a : α) (l : List α) (i : Nat) : (a :: l)[i + 1]? = l[i]? := rfl
theorem gE {α : Type} (l : List α) (i : Nat) (a : α) : l.toArray.setIfInBounds i a = (l.set i a).toArray := List.setIfInBounds_toArray ..
theorem gG {α : Type} (a b : α) (l : List α) : (a :: l).set 0 b = b :: l := rfl
theorem gH {α : Type} (a : α) (l : List α) (i : Nat) (b : α) : (a :: l).set (i + 1) b = a :: l.set i b := rfl
theorem gI {a b c : Nat} (h : a < b) (h2 : b ≤ c) : a < c := Nat.lt_of_lt_of_le h h2
theorem gJ {α : Type} {l : List α} {i : Nat} (h : i < l.length) : l[i]? = some l[i] := List.getElem?_eq_getElem h
theorem gK {α : Type} {a : α} {i : Nat} {l : List α} : l[i]? = some a ↔ ∃ h : i < l.length, l[i] = a := List.getElem?_eq_some_iff
theorem gL {α : Type} {l : List α} {n : Nat} (h : n < l.length) : l[n]'h ∈ l := List.getElem_mem h
theorem gM {α : Type} {l : List α} {i : Nat} {a : α} (e : l[i]? = some a) : a ∈ l := List.mem_of_getElem? e
theorem gN {α : Type} {R : α → α → Prop} {l : List α} : List.Pairwise R l ↔ ∀ (i j : Nat) (_hi : i < l.length) (_hj : j < l.length) (_hij : i < j), R l[i] l[j] := List.pairwise_iff_getElem
theorem gO {p : Prop} (h : p) : Hid p := h
theorem gP {α : Type} {a b : α} (h : some a = some b) : a = b := Option.some.inj h
theorem gQ {n m k : Nat} (h : n ≤ m) (h2 : m ≤ k) : n ≤ k := Nat.le_trans h h2
theorem gR {n m : Nat} (h : n < m) : n ≤ m := Nat.le_of_lt h
theorem gT (n : Nat) : n ≤ n := Nat.le_refl n
theorem gU (n : Nat) : 0 ≤ n := Nat.zero_le n
theorem gV {p : Prop} [Decidable p] (h : ¬p) : decide p = false := decide_eq_false h
theorem gX (B : Nat) (w : World) : Below B w w := Below.refl B w
theorem gY {α : Type} {b : α} {l : List α} {a : α} : a ∈ b :: l ↔ a = b ∨ a ∈ l := List.mem_cons
theorem gZ {α : Type} {a : α} {s t : List α} : a ∈ s ++ t ↔ a ∈ s ∨ a ∈ t := List.mem_append
theorem gTa {α : Type} {a b : α} : a ∈ [b] ↔ a = b := List.mem_singleton
theorem gTb {α : Type} {s t : List α} : (s ++ t).length = s.length + t.length := List.length_append
theorem gTc {α : Type} {i : Nat} {l : List α} : (List.take i l).length = min i l.length := List.length_take
theorem gTd {α : Type} {i : Nat} {l : List α} : (List.drop i l).length = l.length - i := List.length_drop
theorem gTe {α β : Type} {l : List α} (f : α → β) : (l.map f).length = l.length := List.length_map f
theorem gTf {α : Type} {l : List α} {i : Nat} (h : l.length ≤ i) : l.take i = l := List.take_of_length_le h
theorem gTg {p : Prop} [Decidable p] (h : p) : decide p = true := decide_eq_true h
theorem gS {B : Nat} {w W : World} (h : Below B w W) (b i : Nat) (hb : B ≤ b) (v : Value) : Below B w (W.setCell ⟨b, i, none⟩ v) := Below.setCell h (show B ≤ (⟨b, i, none⟩ : Addr).block from hb) v
theorem gA5 {f : Nat → Option Value} {a0 a1 a2 a3 a4 : Value} (h : ∀ o, f o = (#[a0, a1, a2, a3, a4] : Array Value)[o]?) : f 0 = some a0 ∧ f 1 = some a1 ∧ f 2 = some a2 ∧ f 3 = some a3 ∧ f 4 = some a4 := ⟨h 0, h 1, h 2, h 3, h 4⟩
theorem gA6 {f : Nat → Option Value} {a0 a1 a2 a3 a4 a5 : Value} (h : ∀ o, f o = (#[a0, a1, a2, a3, a4, a5] : Array Value)[o]?) : f 0 = some a0 ∧ f 1 = some a1 ∧ f 2 = some a2 ∧ f 3 = some a3 ∧ f 4 = some a4 ∧ f 5 = some a5 := ⟨h 0, h 1, h 2, h 3, h 4, h 5⟩
theorem gA7 {f : Nat → Option Value} {a0 a1 a2 a3 a4 a5 a6 : Value} (h : ∀ o, f o = (#[a0, a1, a2, a3, a4, a5, a6] : Array Value)[o]?) : f 0 = some a0 ∧ f 1 = some a1 ∧ f 2 = some a2 ∧ f 3 = some a3 ∧ f 4 = some a4 ∧ f 5 = some a5 ∧ f 6 = some a6 := ⟨h 0, h 1, h 2, h 3, h 4, h 5, h 6⟩
theorem gA8 {f : Nat → Option Value} {a0 a1 a2 a3 a4 a5 a6 a7 : Value} (h : ∀ o, f o = (#[a0, a1, a2, a3, a4, a5, a6, a7] : Array Value)[o]?) : f 0 = some a0 ∧ f 1 = some a1 ∧ f 2 = some a2 ∧ f 3 = some a3 ∧ f 4 = some a4 ∧ f 5 = some a5 ∧ f 6 = some a6 ∧ f 7 = some a7 := ⟨h 0, h 1, h 2, h 3, h 4, h 5, h 6, h 7⟩
theorem gF5 {f : Nat → Bool} (h : ∀ o, f o = false) : f 0 = false ∧ f 1 = false ∧ f 2 = false ∧ f 3 = false ∧ f 4 = false := ⟨h 0, h 1, h 2, h 3, h 4⟩
theorem gF7 {f : Nat → Bool} (h : ∀ o, f o = false) : f 0 = false ∧ f 1 = false ∧ f 2 = false ∧ f 3 = false ∧ f 4 = false ∧ f 5 = false ∧ f 6 = false := ⟨h 0, h 1, h 2, h 3, h 4, h 5, h 6⟩
end Go.Proofs.YtjaogfhcnmjkiaaGreatDoor
