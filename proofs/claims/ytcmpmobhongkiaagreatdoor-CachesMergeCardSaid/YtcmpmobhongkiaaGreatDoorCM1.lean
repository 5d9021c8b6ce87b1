/- texts of this claim, joined. -/
import Derived.Test.YtcmpmobhongkiaaGreatDoorCM0
import Derived.Test.YtcmpmobhongkiaaGreatDoorRows
import Derived.WalkKit
import Derived.LoopTactic
set_option linter.unusedVariables false
set_option linter.unusedSimpArgs false
namespace Go.Proofs.YtcmpmobhongkiaaGreatDoor
section
open Go.RowKit

def Row (w : World) (a : Option Addr) (cs : List Value) : Prop :=
 ∀ j v, cs[j]? = some v → ∃ b off, a = some ⟨b, off, none⟩ ∧ b < w.heap.size ∧ w.cell? ⟨b, off + j, none⟩ = some v

theorem Row.nil (w : World) (a : Option Addr) : Row w a [] := fun j v h => by simp at h

theorem Row.mono {w w' : World} {B : Nat} {a : Option Addr} {cs : List Value} (h : Row w a cs) (hb : Below B w w') (hB : w.heap.size ≤ B) : Row w' a cs := by
 intro j v hj
 obtain ⟨b, off, e, h1, h2⟩ := h j v hj
 exact ⟨b, off, e, gI h1 hb.size, by rw [hb.cell (p := ⟨b, off + j, none⟩) (by simp; omega)]; exact h2⟩

theorem Row.below {w w' : World} {a : Option Addr} {cs : List Value} (h : Row w a cs) (hb : Below w.heap.size w w') : Row w' a cs := h.mono hb (Nat.le_refl _)

theorem Row.take {w : World} {a : Option Addr} {cs : List Value} (h : Row w a cs) (k : Nat) : Row w a (cs.take k) := by
 intro j v hj
 rw [List.getElem?_take] at hj
 split at hj
 ·exact h j v hj
 ·cases hj

theorem OC (w : World) (v : Value) (t : TypeId) : Row (w.alloc (.cells #[v] t)) (some ⟨w.heap.size, 0, none⟩) [v] := by
 intro j u hj
 have h0 : j = 0 := by
  rcases j with _ | j
  ·rfl
  ·simp at hj
 subst h0
 obtain rfl : v = u := by simpa using hj
 exact ⟨w.heap.size, 0, rfl, by simp, by rw [cell_of_row _ _ _ _ _ _ (heap_alloc_new w _)]; rfl⟩

theorem dK {k : IntKind} {a b : Int} (h : a = b) : Ending.returned (.int k a) = .returned (.int k b) := by rw [h]
theorem aW {a b : Bool} (h : a = b) : Ending.returned (.bool a) = .returned (.bool b) := by rw [h]

def vI (x : Int) : Value := .int .i64 x

theorem LY {w : World} {base : Nat} {e : TypeId} {size : Nat} {v : Value} {n : Nat} {xs : List Value} (h : w.ownsRow base e size v n xs) : ∃ a c, v = .slice a n c := by
 rcases h.2 with ⟨h, h2⟩ | ⟨g, cap, cur, h, _⟩
 ·exact ⟨none, 0, by rw [h, h2]⟩
 ·exact ⟨_, _, h⟩

theorem aY {w : World} {base : Nat} {e : TypeId} {size : Nat} {a : Option Addr} {c n : Nat} {xs : List Value} (h : w.ownsRow base e size (.slice a n c) n xs) : Row w a xs := by
 intro j v hj
 rcases h.2 with ⟨h', h2⟩ | ⟨g, cap, cur, h', hb, hg, _⟩
 ·have : xs = [] := List.eq_nil_of_length_eq_zero (by rw [h.1, h2, Nat.zero_mul])
  simp [this] at hj
 ·obtain ⟨rfl, rfl⟩ : a = some ⟨g, 0, none⟩ ∧ c = cap := by simpa using h'
  refine ⟨g, 0, rfl, (Array.getElem?_eq_some_iff.1 hg).1, ?_⟩
  have hl : j < n * size := by rw [← h.1]; exact (List.getElem?_eq_some_iff.1 hj).1
  rw [Nat.zero_add, World.ownsRow.cellAt h j hl]; exact hj

theorem lJ {w : World} {base : Nat} {e : TypeId} {size : Nat} {a : Option Addr} {c n : Nat} {xs : List Value} (h : w.ownsRow base e size (.slice a n c) n xs) (k : Nat) (hk : k < xs.length) :
  ∃ g, a = some ⟨g, 0, none⟩ ∧ base ≤ g ∧ g < w.heap.size ∧ w.cell? ⟨g, k, none⟩ = some xs[k] ∧ w.frozen? ⟨g, k, none⟩ = false := by
 rcases h.2 with ⟨h', h2⟩ | ⟨g, cap, cur, h', hb, hg, _⟩
 ·have : xs = [] := List.eq_nil_of_length_eq_zero (by rw [h.1, h2, Nat.zero_mul])
  simp [this] at hk
 ·obtain ⟨rfl, rfl⟩ : a = some ⟨g, 0, none⟩ ∧ c = cap := by simpa using h'
  exact ⟨g, rfl, hb, (Array.getElem?_eq_some_iff.1 hg).1, by rw [World.ownsRow.cellAt h k (by rw [← h.1]; exact hk)]; simp [hk], World.ownsRow.frozenAt h k⟩

theorem dF {w : World} {base : Nat} {e : TypeId} {size : Nat} {a : Option Addr} {c n : Nat} {xs : List Value} (h : w.ownsRow base e size (.slice a n c) n xs) : n ≤ c := by
 rcases h.2 with ⟨h', h2⟩ | ⟨g, cap, cur, h', hb, hg, hc, _⟩
 ·omega
 ·obtain ⟨rfl, rfl⟩ : a = some ⟨g, 0, none⟩ ∧ c = cap := by simpa using h'
  exact hc

theorem eF {w : World} {base : Nat} {e : TypeId} {size : Nat} {a : Option Addr} {c n : Nat} {xs : List Value} (h : w.ownsRow base e size (.slice a n c) n xs) (k : Nat) (hk : k < xs.length) :
  ∃ g v, a = some ⟨g, 0, none⟩ ∧ base ≤ g ∧ g < w.heap.size ∧ w.cell? ⟨g, k, none⟩ = some v ∧ w.frozen? ⟨g, k, none⟩ = false := by
 obtain ⟨g, h1, h2, h3, h4, h5⟩ := lJ h k hk
 exact ⟨g, _, h1, h2, h3, h4, h5⟩


theorem own_below {w w' : World} {B base : Nat} {e : TypeId} {size : Nat} {v : Value} {n : Nat} {xs : List Value} (h : w.ownsRow base e size v n xs) (hb : Below B w w') (hB : w.heap.size ≤ B) : w'.ownsRow base e size v n xs := by
 refine ⟨h.1, ?_⟩
 rcases h.2 with h' | ⟨g, cap, cur, h1, h2, hg, rest⟩
 ·exact .inl h'
 ·refine .inr ⟨g, cap, cur, h1, h2, ?_, rest⟩
  rw [hb.block g (gI (Array.getElem?_eq_some_iff.1 hg).1 hB)]; exact hg

theorem own_base {w : World} {b b' : Nat} {e : TypeId} {size : Nat} {v : Value} {n : Nat} {xs : List Value} (h : w.ownsRow b e size v n xs) (hb : b' ≤ b) : w.ownsRow b' e size v n xs := by
 refine ⟨h.1, ?_⟩
 rcases h.2 with h' | ⟨g, cap, cur, h1, h2, rest⟩
 ·exact .inl h'
 ·exact .inr ⟨g, cap, cur, h1, by omega, rest⟩

theorem gU {P : Program} {w : World} {ops : Array Oper} {rest : List Oper} {o : Oper} {a : Act} {Q : Exit → Act → World → Prop} (hgd : o.guard = none) (s x : Operand) (t : TypeId)
  (ho : o.op = .call { callee := .builtin .append, args := #[s, x], argTypes := #[t, t] })
  (base : Nat) (e : TypeId) (z : Value) (size bytes : Nat) (ht : P.underlying t = some (.slice e)) (hinfo : (P.info? e).map (fun i => (i.zero, i.size, i.bytes)) = some (some z, size, bytes))
  (hzs : z.cells.size = size) (hsz : 0 < size) (hbp : 0 < bytes)
  (as_ : Option Addr) (n cs : Nat) (xs : List Value) (hs : a.eval s = .slice as_ n cs) (hown : w.ownsRow base e size (.slice as_ n cs) n xs)
  (ax : Option Addr) (m cx : Nat) (news : List Value) (hx : a.eval x = .slice ax m cx) (hl : news.length = m * size) (hnews : Row w ax news) (h1 : ∀ u ∈ news, u.oneCell' = true)
  (hbytes : (n + m) * bytes ≤ 140737488355328) (hbase : base ≤ w.heap.size)
  (h : ∀ a' c' w', w'.ownsRow base e size (.slice a' (n + m) c') (n + m) (xs ++ news) → w.grownBy w' (Value.ownBlock (.slice as_ n cs)) → wpList P ops Q rest (a.put o.dst (.slice a' (n + m) c')) w') :
  wpList P ops Q (o :: rest) a w := by
 obtain ⟨i, hi, hz, hsize, hby⟩ := info_parts hinfo
 have h63 : n + m ≤ maxLen := by
  have : n + m ≤ (n + m) * bytes := Nat.le_mul_of_pos_right _ hbp
  simp only [maxLen]; omega
 cases ax with
 | some ad =>
  refine wpList_append_own w hgd s x t ho base e i z size bytes ht hi hz hsize hby hzs hsz _ n xs hs hown ad m cx news hx hl ?_ h1 h63 hbytes hbase fun v' w' h2 h3 _ => ?_
  ·intro j u hj
   obtain ⟨b, off, e1, _, h5⟩ := hnews j u hj
   obtain rfl : ad = ⟨b, off, none⟩ := by simpa using e1
   rw [Addr.add_lit]; exact h5
  ·obtain ⟨a', c', rfl⟩ := LY h2
   exact h a' c' w' h2 h3
 | none =>
  have hn0 : news = [] := by
   cases news with
   | nil => rfl
   | cons u l => obtain ⟨b, off, e1, _⟩ := hnews 0 u rfl; cases e1
  subst hn0
  have hm : m = 0 := by
   rcases Nat.eq_zero_or_pos m with h | h
   ·exact h
   ·have := Nat.mul_pos h hsz; simp only [List.length_nil] at hl; omega
  subst hm
  refine wpList_plain hgd fun K hK => ?_
  have hr : (Builtin.append_ #[t, t] o.type #[.slice as_ n cs, .slice none 0 cx]).run P w = .ok (.slice as_ n cs) w := by
   rcases hown.2 with ⟨hv, rfl⟩ | ⟨g, cap, cur, hv, _, hg, hnc, _⟩
   ·rw [hv]; simp [Builtin.append_, run_underlying ht, sizeOf, typeInfo, hi, Builtin.lenOf, Builtin.firstCells]
   ·rw [hv]; simp [Builtin.append_, run_underlying ht, sizeOf, typeInfo, hi, Builtin.lenOf, Builtin.firstCells, hnc, storeCells]
  unfold Oper.wp execOp
  simp only [ho, resolve, invoke, builtin, Sem.run_bind, Sem.run_pure, Result.andThen_ok, List.map_toArray, List.map_cons, List.map_nil, hs, hx, hr]
  exact hK _ _ (h as_ cs w (by simpa using hown) ⟨rfl, rfl, rfl, Nat.le_refl _, fun _ _ _ => rfl⟩)

theorem below_grown {B : Nat} {a w w' : World} {v : Value} {base : Nat} {e : TypeId} {size n : Nat} {xs : List Value} (h : Below B a w) (hown : w.ownsRow base e size v n xs) (hg : w.grownBy w' v.ownBlock) (hB : B ≤ base) (hs : B ≤ w.heap.size) : Below B a w' :=
 h.grown hg hs fun k hk => by have := (hown.lt k hk).1; omega

def bT (a : Option Addr) (l m s : Nat) : Option Addr := if m = l then a else a.map (·.add (l * s))

theorem iO (a : Option Addr) (l h m s : Nat) : sliced a l h m s = .slice (bT a l m s) (h - l) (m - l) := rfl

@[simp] theorem Yi (a : Option Addr) (m s : Nat) : bT a 0 m s = a := by
 unfold bT
 split
 ·rfl
 ·cases a <;> simp [Addr.add]

theorem Row.cut {w : World} {a : Option Addr} {xs : List Value} (h : Row w a xs) (l m s j : Nat) (hj : j ≤ (m - l) * s) : Row w (bT a l m s) ((xs.drop (l * s)).take j) := by
 intro k v hk
 rw [List.getElem?_take] at hk
 split at hk
 ·rename_i hkj
  rw [List.getElem?_drop] at hk
  obtain ⟨b, off, rfl, h1, h2⟩ := h _ v hk
  have hml : ¬ m = l := by
   intro e; subst e; simp at hj; omega
  refine ⟨b, off + l * s, ?_, h1, by rw [Nat.add_assoc]; exact h2⟩
  unfold bT
  rw [if_neg hml]
  show some (Addr.add ⟨b, off, none⟩ (l * s)) = _
  rw [Addr.add_lit]
 ·cases hk
end
section
structure Bk where
 a : Nat
 o : Nat
 t : Nat
deriving DecidableEq
def Bk.fin (b : Bk) : Nat := b.a + 2 ^ b.o
def jT (a o : Nat) : Nat := if a / 2 ^ o % 2 = 0 then a + 2 ^ o else a - 2 ^ o
structure Zn where
 f : Nat
 e : Nat
 l : List Bk
 y : List Nat
deriving DecidableEq
def bY (f e a o : Nat) : Prop := o ≤ 4 ∧ f ≤ a ∧ a < e ∧ a % 2 ^ o = 0
structure oM (f e : Nat) (l : List Bk) : Prop where
 fit : ∀ b ∈ l, bY f e b.a b.o ∧ b.t < 3
 sep : l.Pairwise fun x y => x.fin ≤ y.a
 YD : ∀ x ∈ l, ∀ y ∈ l, x.o = y.o → x.o < 4 → y.a ≠ jT x.a x.o
structure OkZ (f e : Nat) (y : List Nat) : Prop where
 fe : f ≤ e
 e2 : e ≤ 256
 f16 : f % 16 = 0
 e16 : e % 16 = 0
 len : y.length = (e - f) / 8
 typ : ∀ t ∈ y, t < 3
def Zn.ok (z : Zn) : Prop := OkZ z.f z.e z.y ∧ oM z.f z.e z.l
theorem SN (f e : Nat) (l : List Bk) : oM f e l ↔ (∀ b ∈ l, bY f e b.a b.o ∧ b.t < 3) ∧ (l.Pairwise fun x y => x.fin ≤ y.a) ∧ ∀ x ∈ l, ∀ y ∈ l, x.o = y.o → x.o < 4 → y.a ≠ jT x.a x.o :=
 ⟨fun h => ⟨h.fit, h.sep, h.YD⟩, fun h => ⟨h.1, h.2.1, h.2.2⟩⟩
theorem SQ (f e : Nat) (y : List Nat) : OkZ f e y ↔ (f ≤ e ∧ e ≤ 256 ∧ f % 16 = 0 ∧ e % 16 = 0 ∧ y.length = (e - f) / 8 ∧ ∀ t ∈ y, t < 3) :=
 ⟨fun h => ⟨h.fe, h.e2, h.f16, h.e16, h.len, h.typ⟩, fun h => ⟨h.1, h.2.1, h.2.2.1, h.2.2.2.1, h.2.2.2.2.1, h.2.2.2.2.2⟩⟩
def apartB (a o : Nat) (x : Bk) : Prop := x.fin ≤ a ∨ a + 2 ^ o ≤ x.a
def lb (l : List Bk) (a : Nat) : Nat := (l.takeWhile fun b => decide (b.a < a)).length

def iC (l : List Bk) (a : Nat) : Nat → Nat → List Bk × Nat × Nat
 | 0, o => (l, a, o)
 | n + 1, o => match l[lb l (jT a o)]? with
  | some x => if x.a = jT a o ∧ x.o = o then iC (l.eraseIdx (lb l (jT a o))) (min a x.a) n (o + 1) else (l, a, o)
  | none => (l, a, o)
def bG (l : List Bk) (b : Bk) : List Bk := l.take (lb l b.a) ++ b :: l.drop (lb l b.a)
def Zn.back (z : Zn) (a o : Nat) : Zn :=
 let r := iC z.l a (4 - o) o
 { z with l := bG r.1 ⟨r.2.1, r.2.2, z.y.getD ((r.2.1 - z.f) / 8) 0⟩ }

theorem SV {o : Nat} (h : o ≤ 4) : 2 ^ o = 1 ∨ 2 ^ o = 2 ∨ 2 ^ o = 4 ∨ 2 ^ o = 8 ∨ 2 ^ o = 16 := by
 obtain rfl | rfl | rfl | rfl | rfl : o = 0 ∨ o = 1 ∨ o = 2 ∨ o = 3 ∨ o = 4 := by omega
 all_goals simp
theorem dM (o : Nat) : 0 < 2 ^ o := Nat.two_pow_pos o
theorem wF {a o : Nat} (ho : o ≤ 4) (h : a % 2 ^ o = 0) : (jT a o = a + 2 ^ o ∧ a % 2 ^ (o + 1) = 0) ∨ (jT a o + 2 ^ o = a ∧ jT a o % 2 ^ (o + 1) = 0) := by
 unfold jT
 obtain rfl | rfl | rfl | rfl | rfl : o = 0 ∨ o = 1 ∨ o = 2 ∨ o = 3 ∨ o = 4 := by omega
 all_goals simp only [Nat.reducePow, Nat.reduceAdd] at *
 all_goals split <;> omega
theorem SX {a o : Nat} (ho : o ≤ 4) (h : a % 2 ^ o = 0) : jT (jT a o) o = a := by
 unfold jT
 obtain rfl | rfl | rfl | rfl | rfl : o = 0 ∨ o = 1 ∨ o = 2 ∨ o = 3 ∨ o = 4 := by omega
 all_goals simp only [Nat.reducePow] at *
 all_goals (split <;> split <;> omega)
theorem Ko {f e a o : Nat} (hf : f % 16 = 0) (he : e % 16 = 0) (ho : o < 4) (h : bY f e a o) : bY f e (min a (jT a o)) (o + 1) := by
 obtain ⟨h1, h2, h3, h4⟩ := h
 unfold bY jT
 obtain rfl | rfl | rfl | rfl : o = 0 ∨ o = 1 ∨ o = 2 ∨ o = 3 := by omega
 all_goals simp only [Nat.reducePow, Nat.reduceAdd] at *
 all_goals (split <;> omega)
theorem pU {f e a o : Nat} (he : e % 16 = 0) (h : bY f e a o) : a + 2 ^ o ≤ e := by
 obtain ⟨h1, h2, h3, h4⟩ := h
 obtain rfl | rfl | rfl | rfl | rfl : o = 0 ∨ o = 1 ∨ o = 2 ∨ o = 3 ∨ o = 4 := by omega
 all_goals simp only [Nat.reducePow] at *
 all_goals omega
theorem BI {f e a o : Nat} (he : e % 16 = 0) (h : bY f e a (o + 1)) : bY f e a o ∧ bY f e (a + 2 ^ o) o ∧ jT (a + 2 ^ o) o = a := by
 have h5 := pU he h
 obtain ⟨h1, h2, h3, h4⟩ := h
 unfold bY jT
 obtain rfl | rfl | rfl | rfl : o = 0 ∨ o = 1 ∨ o = 2 ∨ o = 3 := by omega
 all_goals simp only [Nat.reducePow, Nat.reduceAdd] at *
 all_goals (refine ⟨⟨by omega, by omega, by omega, by omega⟩, ⟨by omega, by omega, by omega, by omega⟩, ?_⟩; split <;> omega)

theorem yL {α : Type} (p : α → Bool) : ∀ l : List α, l.take (l.takeWhile p).length = l.takeWhile p
 | [] => rfl
 | x :: l => by
  rw [List.takeWhile_cons]
  split
  ·rw [List.length_cons, List.take_succ_cons, yL p l]
  ·rfl
theorem drop_tw {α : Type} (p : α → Bool) : ∀ l : List α, l.drop (l.takeWhile p).length = l.dropWhile p
 | [] => rfl
 | x :: l => by
  rw [List.takeWhile_cons, List.dropWhile_cons]
  split
  ·rw [List.length_cons, List.drop_succ_cons, drop_tw p l]
  ·rfl
theorem jZ (l : List Bk) (a : Nat) : lb l a ≤ l.length := by
 have := congrArg List.length (yL (fun b : Bk => decide (b.a < a)) l)
 rw [List.length_take] at this
 unfold lb; omega
def pK (l : List Bk) : Prop := l.Pairwise fun x y => x.a < y.a
theorem oM.rise {f e : Nat} {l : List Bk} (h : oM f e l) : pK l := h.sep.imp fun {x y} h1 => by
 have := dM x.o
 unfold Bk.fin at h1
 omega
theorem Iq {α : Type} {p : α → Bool} : ∀ {l : List α} {x : α}, x ∈ l.takeWhile p → p x = true
 | [], x, h => by simp at h
 | y :: l, x, h => by
  rw [List.takeWhile_cons] at h
  split at h
  ·rcases List.mem_cons.1 h with rfl | h
   ·assumption
   ·exact Iq h
  ·simp at h
theorem uJ {l : List Bk} {a : Nat} : ∀ x ∈ l.take (lb l a), x.a < a := by
 intro x hx
 unfold lb at hx
 rw [yL] at hx
 have := Iq hx
 simpa using this
theorem pV {l : List Bk} (h : pK l) {a : Nat} : ∀ x ∈ l.drop (lb l a), a ≤ x.a := by
 unfold lb
 rw [drop_tw]
 induction l with
 | nil => intro x hx; simp at hx
 | cons y l ih =>
  intro x hx
  rw [List.dropWhile_cons] at hx
  have hp := List.pairwise_cons.1 h
  split at hx
  ·exact ih hp.2 x hx
  ·rename_i hc
   have hy : a ≤ y.a := by simpa using hc
   rcases List.mem_cons.1 hx with rfl | hx
   ·exact hy
   ·have := hp.1 x hx; omega
theorem sH {l : List Bk} (h : pK l) {x : Bk} (hx : x ∈ l) : l[lb l x.a]? = some x := by
 have hd : x ∈ l.drop (lb l x.a) := by
  rw [← List.take_append_drop (lb l x.a) l, List.mem_append] at hx
  rcases hx with hx | hx
  ·have := uJ x hx; omega
  ·exact hx
 rw [← List.head?_drop]
 have hr : pK (l.drop (lb l x.a)) := h.sublist (List.drop_sublist _ _)
 have ha := pV h (a := x.a)
 cases hl : l.drop (lb l x.a) with
 | nil => rw [hl] at hd; simp at hd
 | cons y m =>
  rw [hl] at hd hr ha
  rcases List.mem_cons.1 hd with rfl | hd
  ·rfl
  ·have h1 := (List.pairwise_cons.1 hr).1 x hd
   have h2 := ha y (by simp)
   omega

def inB (a o p : Nat) : Prop := a ≤ p ∧ p < a + 2 ^ o
def eP (l : List Bk) (p : Nat) : Prop := ∃ b ∈ l, inB b.a b.o p

theorem oM.sublist {f e : Nat} {l m : List Bk} (h : oM f e l) (hs : m.Sublist l) : oM f e m :=
 ⟨fun b hb => h.fit b (hs.subset hb), h.sep.sublist hs, fun x hx y hy => h.YD x (hs.subset hx) y (hs.subset hy)⟩

theorem uK {l : List Bk} (h : l.Pairwise fun x y => x.fin ≤ y.a) {i j : Nat} (hi : i < l.length) (hj : j < l.length) (hne : i ≠ j) : l[i].fin ≤ l[j].a ∨ l[j].fin ≤ l[i].a := by
 rcases Nat.lt_or_ge i j with hlt | hge
 ·exact .inl (List.pairwise_iff_getElem.1 h i j hi hj hlt)
 ·exact .inr (List.pairwise_iff_getElem.1 h j i hj hi (by omega))

theorem oM.put {f e : Nat} {l : List Bk} (h : oM f e l) {b : Bk} (hb : bY f e b.a b.o) (ht : b.t < 3) (hd : ∀ x ∈ l, apartB b.a b.o x) (hn : b.o < 4 → ∀ x ∈ l, x.o = b.o → x.a ≠ jT b.a b.o) : oM f e (bG l b) := by
 have hmem : ∀ x, x ∈ bG l b ↔ x = b ∨ x ∈ l := fun x => by
  unfold bG
  rw [List.mem_append, List.mem_cons]
  conv => rhs; rw [← List.take_append_drop (lb l b.a) l, List.mem_append]
  constructor
  ·rintro (h | h | h)
   ·exact .inr (.inl h)
   ·exact .inl h
   ·exact .inr (.inr h)
  ·rintro (h | h | h)
   ·exact .inr (.inl h)
   ·exact .inl h
   ·exact .inr (.inr h)
 refine ⟨fun x hx => ?_, ?_, fun x hx y hy he ho => ?_⟩
 ·rcases (hmem x).1 hx with rfl | hx
  ·exact ⟨hb, ht⟩
  ·exact h.fit x hx
 ·unfold bG
  rw [List.pairwise_append]
  refine ⟨h.sep.sublist (List.take_sublist _ _), ?_, fun x hx y hy => ?_⟩
  ·rw [List.pairwise_cons]
   refine ⟨fun y hy => ?_, h.sep.sublist (List.drop_sublist _ _)⟩
   have h1 := pV h.rise y hy
   have h2 := hd y (List.mem_of_mem_drop hy)
   have h3 := dM y.o
   unfold apartB Bk.fin at h2
   unfold Bk.fin
   omega
  ·have h1 := uJ x hx
   have h2 := hd x (List.mem_of_mem_take hx)
   have h3 := dM b.o
   rcases List.mem_cons.1 hy with rfl | hy
   ·unfold apartB Bk.fin at h2
    unfold Bk.fin
    omega
   ·have hs := h.sep
    rw [← List.take_append_drop (lb l b.a) l, List.pairwise_append] at hs
    exact hs.2.2 x hx y hy
 ·have hself : b.o < 4 → b.a ≠ jT b.a b.o := fun _ e => by
   have hp := dM b.o
   rcases wF hb.1 hb.2.2.2 with ⟨h1, _⟩ | ⟨h1, _⟩ <;> omega
  rcases (hmem x).1 hx with hxe | hxl
  ·subst hxe
   rcases (hmem y).1 hy with hye | hyl
   ·subst hye; exact hself ho
   ·exact hn ho y hyl he.symm
  ·rcases (hmem y).1 hy with hye | hyl
   ·subst hye
    intro e2
    have VX := (h.fit x hxl).1
    have := hn (by omega) x hxl he
    rw [e2, ← he, SX VX.1 VX.2.2.2] at this
    exact this rfl
   ·exact h.YD x hxl y hyl he ho

theorem EY {l : List Bk} {b : Bk} (p : Nat) : eP (bG l b) p ↔ eP l p ∨ inB b.a b.o p := by
 unfold eP bG
 constructor
 ·rintro ⟨x, hx, hp⟩
  rw [List.mem_append, List.mem_cons] at hx
  rcases hx with hx | rfl | hx
  ·exact .inl ⟨x, List.mem_of_mem_take hx, hp⟩
  ·exact .inr hp
  ·exact .inl ⟨x, List.mem_of_mem_drop hx, hp⟩
 ·rintro (⟨x, hx, hp⟩ | hp)
  ·rw [← List.take_append_drop (lb l b.a) l, List.mem_append] at hx
   refine ⟨x, ?_, hp⟩
   rw [List.mem_append, List.mem_cons]
   rcases hx with hx | hx
   ·exact .inl hx
   ·exact .inr (.inr hx)
  ·exact ⟨b, by simp, hp⟩

structure Joined (f e : Nat) (l : List Bk) (a o : Nat) (l' : List Bk) (a' o' : Nat) : Prop where
 ok : oM f e l'
 fit : bY f e a' o'
 apart : ∀ x ∈ l', apartB a' o' x
 last : o' < 4 → ∀ x ∈ l', x.o = o' → x.a ≠ jT a' o'
 OL : ∀ p, (eP l' p ∨ inB a' o' p) ↔ (eP l p ∨ inB a o p)

theorem BJ {f e : Nat} (hf : f % 16 = 0) (he : e % 16 = 0) : ∀ (n o : Nat) (l : List Bk) (a : Nat), n + o = 4 → oM f e l → bY f e a o → (∀ x ∈ l, apartB a o x) → Joined f e l a o (iC l a n o).1 (iC l a n o).2.1 (iC l a n o).2.2
 | 0, o, l, a, hn, hl, hb, hd => ⟨hl, hb, hd, fun h => by simp only [iC] at h; omega, fun p => Iff.rfl⟩
 | n + 1, o, l, a, hn, hl, hb, hd => by
  have hstop : (∀ x ∈ l, x.o = o → x.a ≠ jT a o) → Joined f e l a o l a o := fun h => ⟨hl, hb, hd, fun _ => h, fun p => Iff.rfl⟩
  unfold iC
  cases hx : l[lb l (jT a o)]? with
  | none =>
   simp only
   refine hstop fun x hxl ho e2 => ?_
   have := sH hl.rise hxl
   rw [e2, hx] at this
   cases this
  | some x =>
   simp only
   by_cases hc : x.a = jT a o ∧ x.o = o
   ·rw [if_pos hc]
    obtain ⟨hi, hxi⟩ := List.getElem?_eq_some_iff.1 hx
    have hxm : x ∈ l := by rw [← hxi]; exact gL hi
    have hmem : ∀ y, y ∈ l.eraseIdx (lb l (jT a o)) → y ∈ l ∧ (y.fin ≤ x.a ∨ x.fin ≤ y.a) := fun y hy => by
     obtain ⟨j, hj, hne, rfl⟩ := List.mem_eraseIdx_iff_getElem.1 hy
     refine ⟨gL hj, ?_⟩
     rw [← hxi]
     exact uK hl.sep hj hi hne
    have ho4 : o < 4 := by omega
    have hp := dM o
    have hps : 2 ^ (o + 1) = 2 ^ o + 2 ^ o := by rw [Nat.pow_succ]; omega
    have hbc := wF hb.1 hb.2.2.2
    have hmin : min a x.a = min a (jT a o) := by rw [hc.1]
    have hapart : ∀ y ∈ l.eraseIdx (lb l (jT a o)), apartB (min a x.a) (o + 1) y := fun y hy => by
     obtain ⟨hyl, hy2⟩ := hmem y hy
     have hy1 := hd y hyl
     have hpy := dM y.o
     unfold apartB Bk.fin at *
     rw [hc.2, hc.1] at hy2
     rw [hmin, hps]
     rcases hbc with ⟨h1, _⟩ | ⟨h1, _⟩ <;> omega
    have ih := BJ hf he n (o + 1) (l.eraseIdx (lb l (jT a o))) (min a x.a) (by omega) (hl.sublist (List.eraseIdx_sublist _ _)) (by rw [hmin]; exact Ko hf he ho4 hb) hapart
    refine ⟨ih.ok, ih.fit, ih.apart, ih.last, fun p => (ih.OL p).trans ?_⟩
    have YE : inB (min a x.a) (o + 1) p ↔ (inB a o p ∨ inB x.a x.o p) := by
     unfold inB
     rw [hc.2, hc.1, hps]
     rcases hbc with ⟨h1, _⟩ | ⟨h1, _⟩ <;> omega
    rw [YE]
    constructor
    ·rintro (⟨y, hy, h⟩ | h | h)
     ·exact .inl ⟨y, (hmem y hy).1, h⟩
     ·exact .inr h
     ·exact .inl ⟨x, hxm, h⟩
    ·rintro (⟨y, hy, h⟩ | h)
     ·obtain ⟨j, hj, rfl⟩ := List.getElem_of_mem hy
      by_cases hje : j = lb l (jT a o)
      ·subst hje
       rw [hxi] at h
       exact .inr (.inr h)
      ·exact .inl ⟨_, List.mem_eraseIdx_iff_getElem.2 ⟨j, hj, hje, rfl⟩, h⟩
     ·exact .inr (.inl h)
   ·rw [if_neg hc]
    refine hstop fun y hyl ho e2 => ?_
    have := sH hl.rise hyl
    rw [e2, hx] at this
    obtain rfl : x = y := by simpa using this
    exact hc ⟨e2, ho⟩

theorem Zn.oN {z : Zn} (h : z.ok) {a o : Nat} (hb : bY z.f z.e a o) (hd : ∀ x ∈ z.l, apartB a o x) : (z.back a o).ok ∧ ∀ p, eP (z.back a o).l p ↔ (eP z.l p ∨ inB a o p) := by
 obtain ⟨hz, hl⟩ := h
 have hj := BJ hz.f16 hz.e16 (4 - o) o z.l a (by have := hb.1; omega) hl hb hd
 unfold Zn.back Zn.ok
 simp only
 generalize (iC z.l a (4 - o) o).1 = l' at *
 generalize (iC z.l a (4 - o) o).2.1 = a' at *
 generalize (iC z.l a (4 - o) o).2.2 = o' at *
 refine ⟨⟨hz, hj.ok.put hj.fit ?_ hj.apart hj.last⟩, fun p => (EY p).trans (hj.OL p)⟩
 have h1 := hj.fit.2.1
 have h2 := hj.fit.2.2.1
 have hlt : (a' - z.f) / 8 < z.y.length := by rw [hz.len]; have := hz.f16; have := hz.e16; omega
 rw [List.getD_eq_getElem?_getD, gJ hlt]
 exact hz.typ _ (gL hlt)
end
section
def lN (l : List Bk) (o t : Nat) : Option Nat := l.findIdx? fun b => decide (b.o = o ∧ b.t = t)
def jH (l : List Bk) (t : Nat) : Nat → Nat → Option Nat
 | 0, _ => none
 | n + 1, o => match lN l o t with
  | some i => some i
  | none => jH l t n (o + 1)
def oth1 (t : Nat) : Nat := if t = 2 then 0 else 2
def oth2 (t : Nat) : Nat := if t = 1 then 0 else 1
def dJ (l : List Bk) (t order : Nat) : Nat → Option Nat
 | 0 => none
 | n + 1 => if n < order then none else match lN l n (oth1 t) with
  | some i => some i
  | none => match lN l n (oth2 t) with
   | some i => some i
   | none => dJ l t order n
def nT (y : List Nat) (f a t : Nat) : Nat → List Nat
 | 0 => y
 | n + 1 => (nT y f a t n).set ((a + n - f) / 8) t
def lY (fr up t : Nat) (x : Bk) : Bk := if fr ≤ x.a ∧ x.fin ≤ up then { x with t := t } else x
def Zn.steal (z : Zn) (b : Bk) (t : Nat) : Zn :=
 if b.o < 2 then z else { z with l := z.l.map (lY (b.a / 8 * 8) (max b.fin (b.a / 8 * 8 + 8)) t), y := nT z.y z.f b.a t (2 ^ b.o) }
def bU (l : List Bk) (a t order : Nat) : Nat → List Bk
 | 0 => l
 | o + 1 => if order ≤ o then bU (bG l ⟨a + 2 ^ o, o, t⟩) a t order o else l
def Zn.cut (z : Zn) (i order : Nat) : Option (Zn × Nat) := match z.l[i]? with
 | some b => some ({ z with l := bU (z.l.eraseIdx i) b.a b.t order b.o }, b.a)
 | none => none
def Zn.take (z : Zn) (order t : Nat) : Option (Zn × Nat) := match jH z.l t (5 - order) order with
 | some i => z.cut i order
 | none => match dJ z.l t order 5 with
  | some i => match z.l[i]? with
   | some b => (z.steal b t).cut i order
   | none => none
  | none => none

theorem nU {l : List Bk} {o t i : Nat} (h : lN l o t = some i) : ∃ b, l[i]? = some b ∧ b.o = o ∧ b.t = t := by
 unfold lN at h
 rw [List.findIdx?_eq_some_iff_getElem] at h
 obtain ⟨hi, hp, _⟩ := h
 have hp' := of_decide_eq_true hp
 exact ⟨l[i], gJ hi, hp'.1, hp'.2⟩
theorem wG {l : List Bk} {o t : Nat} (h : lN l o t = none) : ∀ b ∈ l, ¬ (b.o = o ∧ b.t = t) := by
 unfold lN at h
 rw [List.findIdx?_eq_none_iff] at h
 intro b hb
 exact of_decide_eq_false (h b hb)
theorem mW {l : List Bk} {t : Nat} : ∀ {n o i : Nat}, jH l t n o = some i → ∃ b, l[i]? = some b ∧ o ≤ b.o ∧ b.t = t
 | 0, _, _, h => by cases h
 | n + 1, o, i, h => by
  unfold jH at h
  cases hl : lN l o t with
  | some j =>
   rw [hl] at h
   obtain rfl : j = i := by simpa using h
   obtain ⟨b, h1, h2, h3⟩ := nU hl
   exact ⟨b, h1, by omega, h3⟩
  | none =>
   rw [hl] at h
   obtain ⟨b, h1, h2, h3⟩ := mW (n := n) (o := o + 1) (i := i) h
   exact ⟨b, h1, by omega, h3⟩
theorem xK {l : List Bk} {t : Nat} : ∀ {n o : Nat}, jH l t n o = none → ∀ b ∈ l, ¬ (o ≤ b.o ∧ b.o < o + n ∧ b.t = t)
 | 0, o, _, b, _, hc => by omega
 | n + 1, o, h, b, hb, hc => by
  unfold jH at h
  cases hl : lN l o t with
  | some j => rw [hl] at h; cases h
  | none =>
   rw [hl] at h
   have h1 := wG hl b hb
   have h2 := xK (n := n) (o := o + 1) h b hb
   by_cases he : b.o = o
   ·exact h1 ⟨he, hc.2.2⟩
   ·exact h2 ⟨by omega, by omega, hc.2.2⟩
theorem kX {l : List Bk} {t order : Nat} : ∀ {n i : Nat}, dJ l t order n = some i → ∃ b, l[i]? = some b ∧ order ≤ b.o
 | 0, _, h => by cases h
 | n + 1, i, h => by
  unfold dJ at h
  by_cases hc : n < order
  ·rw [if_pos hc] at h; cases h
  ·rw [if_neg hc] at h
   cases h1 : lN l n (oth1 t) with
   | some j =>
    rw [h1] at h
    obtain rfl : j = i := by simpa using h
    obtain ⟨b, g1, g2, _⟩ := nU h1
    exact ⟨b, g1, by omega⟩
   | none =>
    rw [h1] at h
    cases h2 : lN l n (oth2 t) with
    | some j =>
     rw [h2] at h
     obtain rfl : j = i := by simpa using h
     obtain ⟨b, g1, g2, _⟩ := nU h2
     exact ⟨b, g1, by omega⟩
    | none =>
     rw [h2] at h
     exact kX (n := n) h
theorem rV {l : List Bk} {t order : Nat} : ∀ {n : Nat}, dJ l t order n = none → ∀ b ∈ l, ¬ (order ≤ b.o ∧ b.o < n ∧ (b.t = oth1 t ∨ b.t = oth2 t))
 | 0, _, b, _, hc => by omega
 | n + 1, h, b, hb, hc => by
  unfold dJ at h
  by_cases hn : n < order
  ·omega
  ·rw [if_neg hn] at h
   cases h1 : lN l n (oth1 t) with
   | some j => rw [h1] at h; cases h
   | none =>
    rw [h1] at h
    cases h2 : lN l n (oth2 t) with
    | some j => rw [h2] at h; cases h
    | none =>
     rw [h2] at h
     have g1 := wG h1 b hb
     have g2 := wG h2 b hb
     have g3 := rV (n := n) h b hb
     by_cases he : b.o = n
     ·rcases hc.2.2 with h | h
      ·exact g1 ⟨he, h⟩
      ·exact g2 ⟨he, h⟩
     ·exact g3 ⟨hc.1, by omega, hc.2.2⟩

theorem mX (y : List Nat) (f a t : Nat) : ∀ n, (nT y f a t n).length = y.length
 | 0 => rfl
 | n + 1 => by simp [nT, mX y f a t n]
theorem EZ {y : List Nat} {f a t : Nat} (ht : t < 3) (h : ∀ u ∈ y, u < 3) : ∀ n, ∀ u ∈ nT y f a t n, u < 3
 | 0 => h
 | n + 1 => fun u hu => by
  unfold nT at hu
  rcases List.mem_or_eq_of_mem_set hu with hu | rfl
  ·exact EZ ht h n u hu
  ·exact ht

theorem oM.map {f e : Nat} {l : List Bk} (h : oM f e l) {g : Bk → Bk} (ha : ∀ x, (g x).a = x.a) (ho : ∀ x, (g x).o = x.o) (ht : ∀ x, x.t < 3 → (g x).t < 3) : oM f e (l.map g) := by
 refine ⟨fun b hb => ?_, ?_, fun x hx y hy he ho4 => ?_⟩
 ·obtain ⟨x, hx, rfl⟩ := List.mem_map.1 hb
  obtain ⟨h1, h2⟩ := h.fit x hx
  rw [ha, ho]
  exact ⟨h1, ht x h2⟩
 ·rw [List.pairwise_map]
  refine h.sep.imp fun {x y} h1 => ?_
  unfold Bk.fin at *
  rw [ha, ha, ho]; exact h1
 ·obtain ⟨x', hx', rfl⟩ := List.mem_map.1 hx
  obtain ⟨y', hy', rfl⟩ := List.mem_map.1 hy
  rw [ho, ho] at he
  rw [ho] at ho4
  rw [ha, ha, ho]
  exact h.YD x' hx' y' hy' he ho4
theorem OM {l : List Bk} {g : Bk → Bk} (ha : ∀ x, (g x).a = x.a) (ho : ∀ x, (g x).o = x.o) (p : Nat) : eP (l.map g) p ↔ eP l p := by
 unfold eP
 constructor
 ·rintro ⟨b, hb, hp⟩
  obtain ⟨x, hx, rfl⟩ := List.mem_map.1 hb
  rw [ha, ho] at hp
  exact ⟨x, hx, hp⟩
 ·rintro ⟨x, hx, hp⟩
  exact ⟨g x, List.mem_map_of_mem hx, by rw [ha, ho]; exact hp⟩
theorem Dq (fr up t : Nat) (x : Bk) : (lY fr up t x).a = x.a := by unfold lY; split <;> rfl
theorem Dt (fr up t : Nat) (x : Bk) : (lY fr up t x).o = x.o := by unfold lY; split <;> rfl
theorem SY {fr up t : Nat} (ht : t < 3) (x : Bk) (h : x.t < 3) : (lY fr up t x).t < 3 := by unfold lY; split <;> simp [ht, h]

theorem Zn.lZ {z : Zn} (h : z.ok) {b : Bk} {t : Nat} (ht : t < 3) : (z.steal b t).ok ∧ (∀ p, eP (z.steal b t).l p ↔ eP z.l p) ∧ (z.steal b t).f = z.f ∧ (z.steal b t).e = z.e ∧ ∀ (i : Nat) (x : Bk), z.l[i]? = some x → ∃ y : Bk, (z.steal b t).l[i]? = some y ∧ y.a = x.a ∧ y.o = x.o := by
 unfold Zn.steal
 split
 ·exact ⟨h, fun _ => Iff.rfl, rfl, rfl, fun i x hx => ⟨x, hx, rfl, rfl⟩⟩
 ·refine ⟨⟨⟨h.1.fe, h.1.e2, h.1.f16, h.1.e16, by simp only [mX]; exact h.1.len, EZ ht h.1.typ _⟩, h.2.map (Dq _ _ _) (Dt _ _ _) (SY ht)⟩, fun p => OM (Dq _ _ _) (Dt _ _ _) p, rfl, rfl, fun i x hx => ⟨lY (b.a / 8 * 8) (max b.fin (b.a / 8 * 8 + 8)) t x, by simp only [List.getElem?_map, hx, Option.map_some], Dq _ _ _ _, Dt _ _ _ _⟩⟩

theorem split_ok {f e a t order : Nat} (he : e % 16 = 0) (ht : t < 3) : ∀ (o : Nat) (l : List Bk), order ≤ o → oM f e l → bY f e a o → (∀ x ∈ l, apartB a o x) →
  oM f e (bU l a t order o) ∧ bY f e a order ∧ (∀ x ∈ bU l a t order o, apartB a order x) ∧ ∀ p, (eP (bU l a t order o) p ∨ inB a order p) ↔ (eP l p ∨ inB a o p)
 | 0, l, ho, hl, hb, hd => by
  obtain rfl : order = 0 := by omega
  exact ⟨hl, hb, hd, fun p => Iff.rfl⟩
 | o + 1, l, ho, hl, hb, hd => by
  unfold bU
  by_cases hc : order ≤ o
  ·rw [if_pos hc]
   obtain ⟨h1, h2, h3⟩ := BI he hb
   have hp := dM o
   have hps : 2 ^ (o + 1) = 2 ^ o + 2 ^ o := by rw [Nat.pow_succ]; omega
   have hl' : oM f e (bG l ⟨a + 2 ^ o, o, t⟩) := hl.put h2 ht (fun x hx => by
     have := hd x hx
     unfold apartB Bk.fin at *
     rw [hps] at this
     simp only
     omega) (fun _ x hx hxo => by
     simp only at hxo ⊢
     rw [h3]
     have := hd x hx
     have hpx := dM x.o
     unfold apartB Bk.fin at this
     omega)
   have hd' : ∀ x ∈ bG l ⟨a + 2 ^ o, o, t⟩, apartB a o x := fun x hx => by
    unfold bG at hx
    rw [List.mem_append, List.mem_cons] at hx
    rcases hx with hx | rfl | hx
    ·have := hd x (List.mem_of_mem_take hx)
     unfold apartB at *
     omega
    ·unfold apartB; simp only; omega
    ·have := hd x (List.mem_of_mem_drop hx)
     unfold apartB at *
     omega
   obtain ⟨g1, g2, g3, g4⟩ := split_ok he ht o _ hc hl' h1 hd'
   refine ⟨g1, g2, g3, fun p => (g4 p).trans ?_⟩
   rw [EY]
   simp only
   unfold inB
   rw [hps]
   constructor
   ·rintro ((h | h) | h)
    ·exact .inl h
    ·exact .inr (by omega)
    ·exact .inr (by omega)
   ·rintro (h | h)
    ·exact .inl (.inl h)
    ·by_cases hpa : p < a + 2 ^ o
     ·exact .inr (by omega)
     ·exact .inl (.inr (by omega))
  ·rw [if_neg hc]
   obtain rfl : order = o + 1 := by omega
   exact ⟨hl, hb, hd, fun p => Iff.rfl⟩

structure Taken (z : Zn) (order : Nat) (z' : Zn) (at_ : Nat) : Prop where
 ok : z'.ok
 f : z'.f = z.f
 e : z'.e = z.e
 fit : bY z.f z.e at_ order
 apart : ∀ x ∈ z'.l, apartB at_ order x
 OL : ∀ p, (eP z'.l p ∨ inB at_ order p) ↔ eP z.l p
 inside : ∃ b ∈ z.l, b.a = at_ ∧ order ≤ b.o

theorem Zn.OO {z : Zn} (h : z.ok) {i order : Nat} {b : Bk} (hb : z.l[i]? = some b) (ho : order ≤ b.o) : ∃ z' at_, z.cut i order = some (z', at_) ∧ Taken z order z' at_ := by
 obtain ⟨hi, hbi⟩ := List.getElem?_eq_some_iff.1 hb
 have hbm : b ∈ z.l := by rw [← hbi]; exact gL hi
 have hfit := h.2.fit b hbm
 have hmem : ∀ y, y ∈ z.l.eraseIdx i → y ∈ z.l ∧ (y.fin ≤ b.a ∨ b.fin ≤ y.a) := fun y hy => by
  obtain ⟨j, hj, hne, rfl⟩ := List.mem_eraseIdx_iff_getElem.1 hy
  refine ⟨gL hj, ?_⟩
  rw [← hbi]
  exact uK h.2.sep hj hi hne
 obtain ⟨g1, g2, g3, g4⟩ := split_ok (t := b.t) h.1.e16 hfit.2 b.o (z.l.eraseIdx i) ho (h.2.sublist (List.eraseIdx_sublist _ _)) hfit.1 (fun y hy => (hmem y hy).2)
 refine ⟨{ z with l := bU (z.l.eraseIdx i) b.a b.t order b.o }, b.a, by unfold Zn.cut; rw [hb], ⟨h.1, g1⟩, rfl, rfl, g2, g3, fun p => (g4 p).trans ?_, b, hbm, rfl, ho⟩
 constructor
 ·rintro (⟨y, hy, hp⟩ | hp)
  ·exact ⟨y, (hmem y hy).1, hp⟩
  ·exact ⟨b, hbm, hp⟩
 ·rintro ⟨y, hy, hp⟩
  obtain ⟨j, hj, rfl⟩ := List.getElem_of_mem hy
  by_cases hje : j = i
  ·subst hje
   rw [hbi] at hp
   exact .inr hp
  ·exact .inl ⟨_, List.mem_eraseIdx_iff_getElem.2 ⟨j, hj, hje, rfl⟩, hp⟩

theorem Zn.BK {z : Zn} (h : z.ok) {order t : Nat} (ho : order ≤ 4) (ht : t < 3) (hb : ∃ b ∈ z.l, order ≤ b.o) : ∃ z' at_, z.take order t = some (z', at_) ∧ Taken z order z' at_ := by
 unfold Zn.take
 cases hu : jH z.l t (5 - order) order with
 | some i =>
  obtain ⟨b, h1, h2, _⟩ := mW hu
  exact z.OO h h1 h2
 | none =>
  simp only
  cases hd : dJ z.l t order 5 with
  | some i =>
   obtain ⟨b, h1, h2⟩ := kX hd
   simp only [h1]
   obtain ⟨s1, s2, s3, s4, s5⟩ := Zn.lZ h (b := b) ht
   obtain ⟨y, hy, hya, hyo⟩ := s5 i b h1
   obtain ⟨z', at_, g1, g2⟩ := Zn.OO s1 hy (order := order) (by omega)
   refine ⟨z', at_, g1, g2.ok, g2.f.trans s3, g2.e.trans s4, by have := g2.fit; rwa [s3, s4] at this, g2.apart, fun p => (g2.OL p).trans (s2 p), ?_⟩
   obtain ⟨c, hc1, hc2, hc3⟩ := g2.inside
   have hcut : at_ = y.a := by
    unfold Zn.cut at g1
    rw [hy] at g1
    simp only [Option.some.injEq, Prod.mk.injEq] at g1
    exact g1.2.symm
   obtain ⟨hi, hbi⟩ := List.getElem?_eq_some_iff.1 h1
   exact ⟨b, by rw [← hbi]; exact gL hi, by rw [hcut, hya], h2⟩
  | none =>
   exfalso
   obtain ⟨b, hb, OQ⟩ := hb
   have h1 := xK hu b hb
   have h2 := rV hd b hb
   have h3 := h.2.fit b hb
   have h4 := h3.1.1
   by_cases he : b.t = t
   ·exact h1 ⟨OQ, by omega, he⟩
   ·refine h2 ⟨OQ, by omega, ?_⟩
    unfold oth1 oth2
    have h5 := h3.2
    obtain rfl | rfl | rfl : t = 0 ∨ t = 1 ∨ t = 2 := by omega
    all_goals simp only [Nat.reduceEqDiff, if_true, if_false]
    all_goals omega
theorem Zn.BL {z : Zn} {order t : Nat} (h : ¬ ∃ b ∈ z.l, order ≤ b.o) : z.take order t = none := by
 unfold Zn.take
 cases hu : jH z.l t (5 - order) order with
 | some i =>
  obtain ⟨b, h1, h2, _⟩ := mW hu
  obtain ⟨hi, hbi⟩ := List.getElem?_eq_some_iff.1 h1
  exact absurd ⟨b, by rw [← hbi]; exact gL hi, h2⟩ h
 | none =>
  simp only
  cases hd : dJ z.l t order 5 with
  | some i =>
   obtain ⟨b, h1, h2⟩ := kX hd
   obtain ⟨hi, hbi⟩ := List.getElem?_eq_some_iff.1 h1
   exact absurd ⟨b, by rw [← hbi]; exact gL hi, h2⟩ h
  | none => rfl
end
section
theorem dN {a o : Nat} {x : Bk} (h : ∀ p, inB a o p → ¬ inB x.a x.o p) : apartB a o x := by
 have h1 := dM o
 have h2 := dM x.o
 unfold apartB Bk.fin
 have h3 := h (max a x.a)
 unfold inB at h3
 omega
theorem iU {a o : Nat} {x : Bk} (h : apartB a o x) (p : Nat) (hp : inB a o p) : ¬ inB x.a x.o p := by
 unfold apartB Bk.fin at h
 unfold inB at *
 omega

structure MB (lo hi : Nat) (z : Zn) (away : List Bk) : Prop where
 ok : z.ok
 fits : ∀ b ∈ away, bY z.f z.e b.a b.o
 apart : ∀ b ∈ away, ∀ x ∈ z.l, apartB b.a b.o x
 each : away.Pairwise fun b c => apartB b.a b.o c
 OL : ∀ p, (eP z.l p ∨ eP away p) ↔ (lo ≤ p ∧ p < hi)

theorem Ir {b c : Bk} (h : apartB b.a b.o c) : apartB c.a c.o b := by
 unfold apartB Bk.fin at *
 omega

theorem MB.take {lo hi : Nat} {z : Zn} {away : List Bk} (h : MB lo hi z away) {order at_ : Nat} {z' : Zn} (ht : Taken z order z' at_) (t : Nat) : MB lo hi z' (away ++ [⟨at_, order, t⟩]) := by
 obtain ⟨c, hc, hca, hco⟩ := ht.inside
 have hcov : ∀ p, inB at_ order p → eP z.l p := fun p hp => (ht.OL p).1 (.inr hp)
 have YF : ∀ p, eP z'.l p → eP z.l p := fun p hp => (ht.OL p).1 (.inl hp)
 have hd : ∀ b ∈ away, ∀ p, inB b.a b.o p → ¬ eP z.l p := fun b hb p hp ⟨x, hx, hxp⟩ => iU (h.apart b hb x hx) p hp hxp
 have hff : z'.f = z.f := ht.f
 have hee : z'.e = z.e := ht.e
 refine ⟨ht.ok, fun b hb => ?_, fun b hb x hx => ?_, ?_, fun p => ?_⟩
 ·rw [hff, hee]
  rw [List.mem_append, List.mem_singleton] at hb
  rcases hb with hb | rfl
  ·exact h.fits b hb
  ·exact ht.fit
 ·rw [List.mem_append, List.mem_singleton] at hb
  rcases hb with hb | rfl
  ·exact dN fun p hp hxp => hd b hb p hp (YF p ⟨x, hx, hxp⟩)
  ·exact ht.apart x hx
 ·rw [List.pairwise_append]
  refine ⟨h.each, by simp, fun b hb c hc => ?_⟩
  rw [List.mem_singleton] at hc
  subst hc
  exact dN fun p hp hcp => hd b hb p hp (hcov p hcp)
 ·have h1 := h.OL p
  have h2 := ht.OL p
  have h3 : eP (away ++ [⟨at_, order, t⟩]) p ↔ (eP away p ∨ inB at_ order p) := by
   unfold eP
   constructor
   ·rintro ⟨b, hb, hp⟩
    rw [List.mem_append, List.mem_singleton] at hb
    rcases hb with hb | rfl
    ·exact .inl ⟨b, hb, hp⟩
    ·exact .inr hp
   ·rintro (⟨b, hb, hp⟩ | hp)
    ·exact ⟨b, by simp [hb], hp⟩
    ·exact ⟨⟨at_, order, t⟩, by simp, hp⟩
  rw [h3]
  constructor
  ·rintro (h | h | h)
   ·exact h1.1 (.inl (h2.1 (.inl h)))
   ·exact h1.1 (.inr h)
   ·exact h1.1 (.inl (h2.1 (.inr h)))
  ·intro h
   rcases h1.2 h with h | h
   ·rcases h2.2 h with h | h
    ·exact .inl h
    ·exact .inr (.inr h)
   ·exact .inr (.inl h)

theorem MB.back {lo hi : Nat} {z : Zn} {away : List Bk} (h : MB lo hi z away) {k : Nat} (hk : k < away.length) : MB lo hi (z.back away[k].a away[k].o) (away.eraseIdx k) := by
 have hm : away[k] ∈ away := gL hk
 obtain ⟨g1, g2⟩ := z.oN h.ok (h.fits _ hm) (h.apart _ hm)
 have hmem : ∀ y, y ∈ away.eraseIdx k → y ∈ away ∧ apartB y.a y.o away[k] := fun y hy => by
  obtain ⟨j, hj, hne, rfl⟩ := List.mem_eraseIdx_iff_getElem.1 hy
  refine ⟨gL hj, ?_⟩
  rcases Nat.lt_or_ge j k with hlt | hge
  ·exact List.pairwise_iff_getElem.1 h.each j k hj hk hlt
  ·exact Ir (List.pairwise_iff_getElem.1 h.each k j hk hj (by omega))
 refine ⟨g1, fun b hb => h.fits b (hmem b hb).1, fun b hb x hx => ?_, h.each.sublist (List.eraseIdx_sublist _ _), fun p => ?_⟩
 ·refine dN fun p hp hxp => ?_
  rcases (g2 p).1 ⟨x, hx, hxp⟩ with ⟨y, hy, hyp⟩ | hyp
  ·exact iU (h.apart b (hmem b hb).1 y hy) p hp hyp
  ·exact iU (hmem b hb).2 p hp hyp
 ·rw [g2 p, ← h.OL p]
  constructor
  ·rintro ((h | h) | ⟨b, hb, hp⟩)
   ·exact .inl h
   ·exact .inr ⟨_, hm, h⟩
   ·exact .inr ⟨b, (hmem b hb).1, hp⟩
  ·rintro (h | ⟨b, hb, hp⟩)
   ·exact .inl (.inl h)
   ·obtain ⟨j, hj, rfl⟩ := List.getElem_of_mem hb
    by_cases hje : j = k
    ·subst hje; exact .inl (.inr hp)
    ·exact .inr ⟨_, List.mem_eraseIdx_iff_getElem.2 ⟨j, hj, hje, rfl⟩, hp⟩

def dO (z : Zn) (p : Nat) : Nat → Zn
 | 0 => z
 | n + 1 => (dO z p n).back (p + n) 0
theorem oM.length_le {f e : Nat} : ∀ {l : List Bk}, oM f e l → (∀ b ∈ l, b.a < e) → l.length ≤ e
 | l, h, hb => by
  have hr := h.rise
  have : ∀ (l : List Bk) (n : Nat), pK l → (∀ b ∈ l, n ≤ b.a ∧ b.a < e) → n ≤ e → l.length + n ≤ e := by
   intro l
   induction l with
   | nil => intro n _ _ hn; simp; exact hn
   | cons x l ih =>
    intro n hr hb hn
    have h1 := hb x (by simp)
    have hp := List.pairwise_cons.1 hr
    have := ih (x.a + 1) hp.2 (fun y hy => ⟨hp.1 y hy, (hb y (by simp [hy])).2⟩) (by omega)
    simp only [List.length_cons]
    omega
  have := this l 0 hr (fun b h => ⟨by omega, hb b h⟩) (by omega)
  omega
end
end Go.Proofs.YtcmpmobhongkiaaGreatDoor
