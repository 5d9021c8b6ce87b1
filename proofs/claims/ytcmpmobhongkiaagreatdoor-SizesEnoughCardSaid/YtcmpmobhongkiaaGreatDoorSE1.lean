/- texts of this claim, joined. -/
import Derived.Test.YtcmpmobhongkiaaGreatDoorSE0
import Derived.Test.YtcmpmobhongkiaaGreatDoorRows
import Derived.WalkKit
import Derived.LoopTactic
set_option linter.unusedVariables false
set_option linter.unusedSimpArgs false
namespace Go.Proofs.YtcmpmobhongkiaaGreatDoor
section
open Go.RowKit

def Row (w : World) (a : Option Addr) (cs : List Value) : Prop :=
 ∀ j v, cs[j]? = some v → ∃ b off, a = some ⟨b, off, none⟩ ∧ b < w.heap.size ∧ w.cell? ⟨b, off + j, none⟩ = some v

theorem Row.nil (w : World) (a : Option Addr) : Row w a [] := fun j v h => by simp at h

theorem Row.mono {w w' : World} {B : Nat} {a : Option Addr} {cs : List Value} (h : Row w a cs) (hb : Below B w w') (hB : w.heap.size ≤ B) : Row w' a cs := by
 intro j v hj
 obtain ⟨b, off, e, h1, h2⟩ := h j v hj
 exact ⟨b, off, e, gI h1 hb.size, by rw [hb.cell (p := ⟨b, off + j, none⟩) (by simp; omega)]; exact h2⟩

theorem Row.below {w w' : World} {a : Option Addr} {cs : List Value} (h : Row w a cs) (hb : Below w.heap.size w w') : Row w' a cs := h.mono hb (Nat.le_refl _)

theorem Row.take {w : World} {a : Option Addr} {cs : List Value} (h : Row w a cs) (k : Nat) : Row w a (cs.take k) := by
 intro j v hj
 rw [List.getElem?_take] at hj
 split at hj
 ·exact h j v hj
 ·cases hj

theorem Nc (w : World) (v : Value) (t : TypeId) : Row (w.alloc (.cells #[v] t)) (some ⟨w.heap.size, 0, none⟩) [v] := by
 intro j u hj
 have h0 : j = 0 := by
  rcases j with _ | j
  ·rfl
  ·simp at hj
 subst h0
 obtain rfl : v = u := by simpa using hj
 exact ⟨w.heap.size, 0, rfl, by simp, by rw [cell_of_row _ _ _ _ _ _ (heap_alloc_new w _)]; rfl⟩

theorem dF {k : IntKind} {a b : Int} (h : a = b) : Ending.returned (.int k a) = .returned (.int k b) := by rw [h]
theorem aU {a b : Bool} (h : a = b) : Ending.returned (.bool a) = .returned (.bool b) := by rw [h]

def vI (x : Int) : Value := .int .i64 x

theorem JK {w : World} {base : Nat} {e : TypeId} {size : Nat} {v : Value} {n : Nat} {xs : List Value} (h : w.ownsRow base e size v n xs) : ∃ a c, v = .slice a n c := by
 rcases h.2 with ⟨h, h2⟩ | ⟨g, cap, cur, h, _⟩
 ·exact ⟨none, 0, by rw [h, h2]⟩
 ·exact ⟨_, _, h⟩

theorem aX {w : World} {base : Nat} {e : TypeId} {size : Nat} {a : Option Addr} {c n : Nat} {xs : List Value} (h : w.ownsRow base e size (.slice a n c) n xs) : Row w a xs := by
 intro j v hj
 rcases h.2 with ⟨h', h2⟩ | ⟨g, cap, cur, h', hb, hg, _⟩
 ·have : xs = [] := List.eq_nil_of_length_eq_zero (by rw [h.1, h2, Nat.zero_mul])
  simp [this] at hj
 ·obtain ⟨rfl, rfl⟩ : a = some ⟨g, 0, none⟩ ∧ c = cap := by simpa using h'
  refine ⟨g, 0, rfl, (Array.getElem?_eq_some_iff.1 hg).1, ?_⟩
  have hl : j < n * size := by rw [← h.1]; exact (List.getElem?_eq_some_iff.1 hj).1
  rw [Nat.zero_add, World.ownsRow.cellAt h j hl]; exact hj

theorem rJ {w : World} {base : Nat} {e : TypeId} {size : Nat} {a : Option Addr} {c n : Nat} {xs : List Value} (h : w.ownsRow base e size (.slice a n c) n xs) (k : Nat) (hk : k < xs.length) :
  ∃ g, a = some ⟨g, 0, none⟩ ∧ base ≤ g ∧ g < w.heap.size ∧ w.cell? ⟨g, k, none⟩ = some xs[k] ∧ w.frozen? ⟨g, k, none⟩ = false := by
 rcases h.2 with ⟨h', h2⟩ | ⟨g, cap, cur, h', hb, hg, _⟩
 ·have : xs = [] := List.eq_nil_of_length_eq_zero (by rw [h.1, h2, Nat.zero_mul])
  simp [this] at hk
 ·obtain ⟨rfl, rfl⟩ : a = some ⟨g, 0, none⟩ ∧ c = cap := by simpa using h'
  exact ⟨g, rfl, hb, (Array.getElem?_eq_some_iff.1 hg).1, by rw [World.ownsRow.cellAt h k (by rw [← h.1]; exact hk)]; simp [hk], World.ownsRow.frozenAt h k⟩

theorem dL {w : World} {base : Nat} {e : TypeId} {size : Nat} {a : Option Addr} {c n : Nat} {xs : List Value} (h : w.ownsRow base e size (.slice a n c) n xs) : n ≤ c := by
 rcases h.2 with ⟨h', h2⟩ | ⟨g, cap, cur, h', hb, hg, hc, _⟩
 ·omega
 ·obtain ⟨rfl, rfl⟩ : a = some ⟨g, 0, none⟩ ∧ c = cap := by simpa using h'
  exact hc

theorem dW {w : World} {base : Nat} {e : TypeId} {size : Nat} {a : Option Addr} {c n : Nat} {xs : List Value} (h : w.ownsRow base e size (.slice a n c) n xs) (k : Nat) (hk : k < xs.length) :
  ∃ g v, a = some ⟨g, 0, none⟩ ∧ base ≤ g ∧ g < w.heap.size ∧ w.cell? ⟨g, k, none⟩ = some v ∧ w.frozen? ⟨g, k, none⟩ = false := by
 obtain ⟨g, h1, h2, h3, h4, h5⟩ := rJ h k hk
 exact ⟨g, _, h1, h2, h3, h4, h5⟩


theorem own_below {w w' : World} {B base : Nat} {e : TypeId} {size : Nat} {v : Value} {n : Nat} {xs : List Value} (h : w.ownsRow base e size v n xs) (hb : Below B w w') (hB : w.heap.size ≤ B) : w'.ownsRow base e size v n xs := by
 refine ⟨h.1, ?_⟩
 rcases h.2 with h' | ⟨g, cap, cur, h1, h2, hg, rest⟩
 ·exact .inl h'
 ·refine .inr ⟨g, cap, cur, h1, h2, ?_, rest⟩
  rw [hb.block g (gI (Array.getElem?_eq_some_iff.1 hg).1 hB)]; exact hg

theorem own_base {w : World} {b b' : Nat} {e : TypeId} {size : Nat} {v : Value} {n : Nat} {xs : List Value} (h : w.ownsRow b e size v n xs) (hb : b' ≤ b) : w.ownsRow b' e size v n xs := by
 refine ⟨h.1, ?_⟩
 rcases h.2 with h' | ⟨g, cap, cur, h1, h2, rest⟩
 ·exact .inl h'
 ·exact .inr ⟨g, cap, cur, h1, by omega, rest⟩

theorem fJ {P : Program} {w : World} {ops : Array Oper} {rest : List Oper} {o : Oper} {a : Act} {Q : Exit → Act → World → Prop} (hgd : o.guard = none) (s x : Operand) (t : TypeId)
  (ho : o.op = .call { callee := .builtin .append, args := #[s, x], argTypes := #[t, t] })
  (base : Nat) (e : TypeId) (z : Value) (size bytes : Nat) (ht : P.underlying t = some (.slice e)) (hinfo : (P.info? e).map (fun i => (i.zero, i.size, i.bytes)) = some (some z, size, bytes))
  (hzs : z.cells.size = size) (hsz : 0 < size) (hbp : 0 < bytes)
  (as_ : Option Addr) (n cs : Nat) (xs : List Value) (hs : a.eval s = .slice as_ n cs) (hown : w.ownsRow base e size (.slice as_ n cs) n xs)
  (ax : Option Addr) (m cx : Nat) (news : List Value) (hx : a.eval x = .slice ax m cx) (hl : news.length = m * size) (hnews : Row w ax news) (h1 : ∀ u ∈ news, u.oneCell' = true)
  (hbytes : (n + m) * bytes ≤ 140737488355328) (hbase : base ≤ w.heap.size)
  (h : ∀ a' c' w', w'.ownsRow base e size (.slice a' (n + m) c') (n + m) (xs ++ news) → w.grownBy w' (Value.ownBlock (.slice as_ n cs)) → wpList P ops Q rest (a.put o.dst (.slice a' (n + m) c')) w') :
  wpList P ops Q (o :: rest) a w := by
 obtain ⟨i, hi, hz, hsize, hby⟩ := info_parts hinfo
 have h63 : n + m ≤ maxLen := by
  have : n + m ≤ (n + m) * bytes := Nat.le_mul_of_pos_right _ hbp
  simp only [maxLen]; omega
 cases ax with
 | some ad =>
  refine wpList_append_own w hgd s x t ho base e i z size bytes ht hi hz hsize hby hzs hsz _ n xs hs hown ad m cx news hx hl ?_ h1 h63 hbytes hbase fun v' w' h2 h3 _ => ?_
  ·intro j u hj
   obtain ⟨b, off, e1, _, h5⟩ := hnews j u hj
   obtain rfl : ad = ⟨b, off, none⟩ := by simpa using e1
   rw [Addr.add_lit]; exact h5
  ·obtain ⟨a', c', rfl⟩ := JK h2
   exact h a' c' w' h2 h3
 | none =>
  have hn0 : news = [] := by
   cases news with
   | nil => rfl
   | cons u l => obtain ⟨b, off, e1, _⟩ := hnews 0 u rfl; cases e1
  subst hn0
  have hm : m = 0 := by
   rcases Nat.eq_zero_or_pos m with h | h
   ·exact h
   ·have := Nat.mul_pos h hsz; simp only [List.length_nil] at hl; omega
  subst hm
  refine wpList_plain hgd fun K hK => ?_
  have hr : (Builtin.append_ #[t, t] o.type #[.slice as_ n cs, .slice none 0 cx]).run P w = .ok (.slice as_ n cs) w := by
   rcases hown.2 with ⟨hv, rfl⟩ | ⟨g, cap, cur, hv, _, hg, hnc, _⟩
   ·rw [hv]; simp [Builtin.append_, run_underlying ht, sizeOf, typeInfo, hi, Builtin.lenOf, Builtin.firstCells]
   ·rw [hv]; simp [Builtin.append_, run_underlying ht, sizeOf, typeInfo, hi, Builtin.lenOf, Builtin.firstCells, hnc, storeCells]
  unfold Oper.wp execOp
  simp only [ho, resolve, invoke, builtin, Sem.run_bind, Sem.run_pure, Result.andThen_ok, List.map_toArray, List.map_cons, List.map_nil, hs, hx, hr]
  exact hK _ _ (h as_ cs w (by simpa using hown) ⟨rfl, rfl, rfl, Nat.le_refl _, fun _ _ _ => rfl⟩)

theorem below_grown {B : Nat} {a w w' : World} {v : Value} {base : Nat} {e : TypeId} {size n : Nat} {xs : List Value} (h : Below B a w) (hown : w.ownsRow base e size v n xs) (hg : w.grownBy w' v.ownBlock) (hB : B ≤ base) (hs : B ≤ w.heap.size) : Below B a w' :=
 h.grown hg hs fun k hk => by have := (hown.lt k hk).1; omega

def bT (a : Option Addr) (l m s : Nat) : Option Addr := if m = l then a else a.map (·.add (l * s))

theorem iI (a : Option Addr) (l h m s : Nat) : sliced a l h m s = .slice (bT a l m s) (h - l) (m - l) := rfl

@[simp] theorem WM (a : Option Addr) (m s : Nat) : bT a 0 m s = a := by
 unfold bT
 split
 ·rfl
 ·cases a <;> simp [Addr.add]

theorem Row.cut {w : World} {a : Option Addr} {xs : List Value} (h : Row w a xs) (l m s j : Nat) (hj : j ≤ (m - l) * s) : Row w (bT a l m s) ((xs.drop (l * s)).take j) := by
 intro k v hk
 rw [List.getElem?_take] at hk
 split at hk
 ·rename_i hkj
  rw [List.getElem?_drop] at hk
  obtain ⟨b, off, rfl, h1, h2⟩ := h _ v hk
  have hml : ¬ m = l := by
   intro e; subst e; simp at hj; omega
  refine ⟨b, off + l * s, ?_, h1, by rw [Nat.add_assoc]; exact h2⟩
  unfold bT
  rw [if_neg hml]
  show some (Addr.add ⟨b, off, none⟩ (l * s)) = _
  rw [Addr.add_lit]
 ·cases hk
end
end Go.Proofs.YtcmpmobhongkiaaGreatDoor
