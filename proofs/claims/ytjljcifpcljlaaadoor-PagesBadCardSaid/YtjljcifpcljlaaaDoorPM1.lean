/- Base, Zn, Zn2, Zn3, Pick, Base2, Base3, Flat, Ext, Blk1, Blk2, Blk3, Base4, Blk4, Blk5: texts of this claim, joined. -/
import Derived.Test.YtjljcifpcljlaaaDoorRows
import Derived.WalkKit
import Derived.LoopTactic
import Derived.Laws.CopyRow
import Derived.Lib.AppendZerosOnto
import Derived.Lib.SliceRun
import Derived.Deep.QuietTactic
import Derived.BigQuiet
import Derived.WalkSmall
import Derived.Shelf.Abstract
import Derived.Deep.RegionWith
import Derived.Deep.RegionHeld3
import Derived.Deep.DeepCutAuto
import Derived.StillTailTactics
import Derived.Lib.Overlaps
import Derived.Laws.Externs
/- What a slice's cells hold (Row), what a call owns (ownsRow), and the walk's laws on append and make in these words. No program in sight. -/
namespace Go.Proofs.YtjljcifpcljlaaaDoor
open Go.RowKit

/-- A slice's cells: from its address on stand the values of a list. -/
def Row (w : World) (a : Option Addr) (cs : List Value) : Prop :=
  ∀ j v, cs[j]? = some v → ∃ b off, a = some ⟨b, off, none⟩ ∧ b < w.heap.size ∧ w.cell? ⟨b, off + j, none⟩ = some v

theorem Row.nil (w : World) (a : Option Addr) : Row w a [] := fun j v h => by simp at h

theorem Row.mono {w w' : World} {B : Nat} {a : Option Addr} {cs : List Value} (h : Row w a cs) (hb : Below B w w') (hB : w.heap.size ≤ B) : Row w' a cs := by
  intro j v hj
  obtain ⟨b, off, e, h1, h2⟩ := h j v hj
  exact ⟨b, off, e, Nat.lt_of_lt_of_le h1 hb.size, by rw [hb.cell (p := ⟨b, off + j, none⟩) (by simp; omega)]; exact h2⟩

theorem Row.below {w w' : World} {a : Option Addr} {cs : List Value} (h : Row w a cs) (hb : Below w.heap.size w w') : Row w' a cs := h.mono hb (Nat.le_refl _)

/-- A row that lies in old memory, read behind whatever the call has done to memory of its own. -/
theorem Row.take {w : World} {a : Option Addr} {cs : List Value} (h : Row w a cs) (k : Nat) : Row w a (cs.take k) := by
  intro j v hj
  rw [List.getElem?_take] at hj
  split at hj
  · exact h j v hj
  · cases hj

theorem row_new1 (w : World) (v : Value) (t : TypeId) : Row (w.alloc (.cells #[v] t)) (some ⟨w.heap.size, 0, none⟩) [v] := by
  intro j u hj
  have h0 : j = 0 := by
    rcases j with _ | j
    · rfl
    · simp at hj
  subst h0
  obtain rfl : v = u := by simpa using hj
  exact ⟨w.heap.size, 0, rfl, by simp, by rw [cell_of_row _ _ _ _ _ _ (heap_alloc_new w _)]; rfl⟩

theorem ret_int {k : IntKind} {a b : Int} (h : a = b) : Ending.returned (.int k a) = .returned (.int k b) := by rw [h]
theorem ret_bool {a b : Bool} (h : a = b) : Ending.returned (.bool a) = .returned (.bool b) := by rw [h]

def vI (x : Int) : Value := .int .i64 x

theorem own_slice {w : World} {base : Nat} {e : TypeId} {size : Nat} {v : Value} {n : Nat} {xs : List Value} (h : w.ownsRow base e size v n xs) : ∃ a c, v = .slice a n c := by
  rcases h.2 with ⟨h, h2⟩ | ⟨g, cap, cur, h, _⟩
  · exact ⟨none, 0, by rw [h, h2]⟩
  · exact ⟨_, _, h⟩

theorem own_row {w : World} {base : Nat} {e : TypeId} {size : Nat} {a : Option Addr} {c n : Nat} {xs : List Value} (h : w.ownsRow base e size (.slice a n c) n xs) : Row w a xs := by
  intro j v hj
  rcases h.2 with ⟨h', h2⟩ | ⟨g, cap, cur, h', hb, hg, _⟩
  · have : xs = [] := List.eq_nil_of_length_eq_zero (by rw [h.1, h2, Nat.zero_mul])
    simp [this] at hj
  · obtain ⟨rfl, rfl⟩ : a = some ⟨g, 0, none⟩ ∧ c = cap := by simpa using h'
    refine ⟨g, 0, rfl, (Array.getElem?_eq_some_iff.1 hg).1, ?_⟩
    have hl : j < n * size := by rw [← h.1]; exact (List.getElem?_eq_some_iff.1 hj).1
    rw [Nat.zero_add, World.ownsRow.cellAt h j hl]; exact hj

theorem own_at {w : World} {base : Nat} {e : TypeId} {size : Nat} {a : Option Addr} {c n : Nat} {xs : List Value} (h : w.ownsRow base e size (.slice a n c) n xs) (k : Nat) (hk : k < xs.length) :
    ∃ g, a = some ⟨g, 0, none⟩ ∧ base ≤ g ∧ g < w.heap.size ∧ w.cell? ⟨g, k, none⟩ = some xs[k] ∧ w.frozen? ⟨g, k, none⟩ = false := by
  rcases h.2 with ⟨h', h2⟩ | ⟨g, cap, cur, h', hb, hg, _⟩
  · have : xs = [] := List.eq_nil_of_length_eq_zero (by rw [h.1, h2, Nat.zero_mul])
    simp [this] at hk
  · obtain ⟨rfl, rfl⟩ : a = some ⟨g, 0, none⟩ ∧ c = cap := by simpa using h'
    exact ⟨g, rfl, hb, (Array.getElem?_eq_some_iff.1 hg).1, by rw [World.ownsRow.cellAt h k (by rw [← h.1]; exact hk)]; simp [hk], World.ownsRow.frozenAt h k⟩

theorem own_cap {w : World} {base : Nat} {e : TypeId} {size : Nat} {a : Option Addr} {c n : Nat} {xs : List Value} (h : w.ownsRow base e size (.slice a n c) n xs) : n ≤ c := by
  rcases h.2 with ⟨h', h2⟩ | ⟨g, cap, cur, h', hb, hg, hc, _⟩
  · omega
  · obtain ⟨rfl, rfl⟩ : a = some ⟨g, 0, none⟩ ∧ c = cap := by simpa using h'
    exact hc

/-- some value, no matter which: for a store -/
theorem own_cell {w : World} {base : Nat} {e : TypeId} {size : Nat} {a : Option Addr} {c n : Nat} {xs : List Value} (h : w.ownsRow base e size (.slice a n c) n xs) (k : Nat) (hk : k < xs.length) :
    ∃ g v, a = some ⟨g, 0, none⟩ ∧ base ≤ g ∧ g < w.heap.size ∧ w.cell? ⟨g, k, none⟩ = some v ∧ w.frozen? ⟨g, k, none⟩ = false := by
  obtain ⟨g, h1, h2, h3, h4, h5⟩ := own_at h k hk
  exact ⟨g, _, h1, h2, h3, h4, h5⟩

theorem Hid.mk {p : Prop} (h : p) : Hid p := h

/-- An owned row stays as it is while nothing of its own block is written. -/
theorem own_below {w w' : World} {B base : Nat} {e : TypeId} {size : Nat} {v : Value} {n : Nat} {xs : List Value} (h : w.ownsRow base e size v n xs) (hb : Below B w w') (hB : w.heap.size ≤ B) : w'.ownsRow base e size v n xs := by
  refine ⟨h.1, ?_⟩
  rcases h.2 with h' | ⟨g, cap, cur, h1, h2, hg, rest⟩
  · exact .inl h'
  · refine .inr ⟨g, cap, cur, h1, h2, ?_, rest⟩
    rw [hb.block g (Nat.lt_of_lt_of_le (Array.getElem?_eq_some_iff.1 hg).1 hB)]; exact hg

theorem own_base {w : World} {b b' : Nat} {e : TypeId} {size : Nat} {v : Value} {n : Nat} {xs : List Value} (h : w.ownsRow b e size v n xs) (hb : b' ≤ b) : w.ownsRow b' e size v n xs := by
  refine ⟨h.1, ?_⟩
  rcases h.2 with h' | ⟨g, cap, cur, h1, h2, rest⟩
  · exact .inl h'
  · exact .inr ⟨g, cap, cur, h1, by omega, rest⟩

/-- 'append' onto an owned row, from whatever row (nil too). -/
theorem wpList_app {P : Program} {w : World} {ops : Array Oper} {rest : List Oper} {o : Oper} {a : Act} {Q : Exit → Act → World → Prop} (hgd : o.guard = none) (s x : Operand) (t : TypeId)
    (ho : o.op = .call { callee := .builtin .append, args := #[s, x], argTypes := #[t, t] })
    (base : Nat) (e : TypeId) (z : Value) (size bytes : Nat) (ht : P.underlying t = some (.slice e)) (hinfo : (P.info? e).map (fun i => (i.zero, i.size, i.bytes)) = some (some z, size, bytes))
    (hzs : z.cells.size = size) (hsz : 0 < size) (hbp : 0 < bytes)
    (as_ : Option Addr) (n cs : Nat) (xs : List Value) (hs : a.eval s = .slice as_ n cs) (hown : w.ownsRow base e size (.slice as_ n cs) n xs)
    (ax : Option Addr) (m cx : Nat) (news : List Value) (hx : a.eval x = .slice ax m cx) (hl : news.length = m * size) (hnews : Row w ax news) (h1 : ∀ u ∈ news, u.oneCell' = true)
    (hbytes : (n + m) * bytes ≤ 140737488355328) (hbase : base ≤ w.heap.size)
    (h : ∀ a' c' w', w'.ownsRow base e size (.slice a' (n + m) c') (n + m) (xs ++ news) → w.grownBy w' (Value.ownBlock (.slice as_ n cs)) → wpList P ops Q rest (a.put o.dst (.slice a' (n + m) c')) w') :
    wpList P ops Q (o :: rest) a w := by
  obtain ⟨i, hi, hz, hsize, hby⟩ := info_parts hinfo
  have h63 : n + m ≤ maxLen := by
    have : n + m ≤ (n + m) * bytes := Nat.le_mul_of_pos_right _ hbp
    simp only [maxLen]; omega
  cases ax with
  | some ad =>
    refine wpList_append_own w hgd s x t ho base e i z size bytes ht hi hz hsize hby hzs hsz _ n xs hs hown ad m cx news hx hl ?_ h1 h63 hbytes hbase fun v' w' h2 h3 _ => ?_
    · intro j u hj
      obtain ⟨b, off, e1, _, h5⟩ := hnews j u hj
      obtain rfl : ad = ⟨b, off, none⟩ := by simpa using e1
      rw [Addr.add_lit]; exact h5
    · obtain ⟨a', c', rfl⟩ := own_slice h2
      exact h a' c' w' h2 h3
  | none =>
    have hn0 : news = [] := by
      cases news with
      | nil => rfl
      | cons u l => obtain ⟨b, off, e1, _⟩ := hnews 0 u rfl; cases e1
    subst hn0
    have hm : m = 0 := by
      rcases Nat.eq_zero_or_pos m with h | h
      · exact h
      · have := Nat.mul_pos h hsz; simp only [List.length_nil] at hl; omega
    subst hm
    refine wpList_plain hgd fun K hK => ?_
    have hr : (Builtin.append_ #[t, t] o.type #[.slice as_ n cs, .slice none 0 cx]).run P w = .ok (.slice as_ n cs) w := by
      rcases hown.2 with ⟨hv, rfl⟩ | ⟨g, cap, cur, hv, _, hg, hnc, _⟩
      · rw [hv]; simp [Builtin.append_, run_underlying ht, sizeOf, typeInfo, hi, Builtin.lenOf, Builtin.firstCells]
      · rw [hv]; simp [Builtin.append_, run_underlying ht, sizeOf, typeInfo, hi, Builtin.lenOf, Builtin.firstCells, hnc, storeCells]
    unfold Oper.wp execOp
    simp only [ho, resolve, invoke, builtin, Sem.run_bind, Sem.run_pure, Result.andThen_ok, List.map_toArray, List.map_cons, List.map_nil, hs, hx, hr]
    exact hK _ _ (h as_ cs w (by simpa using hown) ⟨rfl, rfl, rfl, Nat.le_refl _, fun _ _ _ => rfl⟩)

/-- a closed fact on old blocks through 'grownBy' -/
theorem below_grown {B : Nat} {a w w' : World} {v : Value} {base : Nat} {e : TypeId} {size n : Nat} {xs : List Value} (h : Below B a w) (hown : w.ownsRow base e size v n xs) (hg : w.grownBy w' v.ownBlock) (hB : B ≤ base) (hs : B ≤ w.heap.size) : Below B a w' :=
  h.grown hg hs fun k hk => by have := (hown.lt k hk).1; omega

/-! ## Pieces of slices -/
/-- the address of a piece from l on (of a slice of capacity m, elements of s cells) -/
def cutA (a : Option Addr) (l m s : Nat) : Option Addr := if m = l then a else a.map (·.add (l * s))

theorem sliced_cut (a : Option Addr) (l h m s : Nat) : sliced a l h m s = .slice (cutA a l m s) (h - l) (m - l) := rfl

@[simp] theorem cutA_zero (a : Option Addr) (m s : Nat) : cutA a 0 m s = a := by
  unfold cutA
  split
  · rfl
  · cases a <;> simp [Addr.add]

theorem Row.cut {w : World} {a : Option Addr} {xs : List Value} (h : Row w a xs) (l m s j : Nat) (hj : j ≤ (m - l) * s) : Row w (cutA a l m s) ((xs.drop (l * s)).take j) := by
  intro k v hk
  rw [List.getElem?_take] at hk
  split at hk
  · rename_i hkj
    rw [List.getElem?_drop] at hk
    obtain ⟨b, off, rfl, h1, h2⟩ := h _ v hk
    have hml : ¬ m = l := by
      intro e; subst e; simp at hj; omega
    refine ⟨b, off + l * s, ?_, h1, by rw [Nat.add_assoc]; exact h2⟩
    unfold cutA
    rw [if_neg hml]
    show some (Addr.add ⟨b, off, none⟩ (l * s)) = _
    rw [Addr.add_lit]
  · cases hk
end Go.Proofs.YtjljcifpcljlaaaDoor
/- Zones of pages in plain words: blocks that are free, taking and giving back; what is kept. No program in sight. -/
namespace Go.Proofs.YtjljcifpcljlaaaDoor
set_option linter.unusedVariables false

structure Bk where
  a : Nat
  o : Nat
  t : Nat
deriving DecidableEq
def Bk.fin (b : Bk) : Nat := b.a + 2 ^ b.o
/-- the place of the block beside -/
def bud (a o : Nat) : Nat := if a / 2 ^ o % 2 = 0 then a + 2 ^ o else a - 2 ^ o
structure Zn where
  f : Nat
  e : Nat
  l : List Bk
  y : List Nat
deriving DecidableEq
def fitsB (f e a o : Nat) : Prop := o ≤ 4 ∧ f ≤ a ∧ a < e ∧ a % 2 ^ o = 0
instance (f e a o : Nat) : Decidable (fitsB f e a o) := by unfold fitsB; infer_instance
/-- blocks that may be, in their order -/
structure OkL (f e : Nat) (l : List Bk) : Prop where
  fit : ∀ b ∈ l, fitsB f e b.a b.o ∧ b.t < 3
  sep : l.Pairwise fun x y => x.fin ≤ y.a
  nob : ∀ x ∈ l, ∀ y ∈ l, x.o = y.o → x.o < 4 → y.a ≠ bud x.a x.o
/-- a zone's bounds and types -/
structure OkZ (f e : Nat) (y : List Nat) : Prop where
  fe : f ≤ e
  e2 : e ≤ 256
  f16 : f % 16 = 0
  e16 : e % 16 = 0
  len : y.length = (e - f) / 8
  typ : ∀ t ∈ y, t < 3
def Zn.ok (z : Zn) : Prop := OkZ z.f z.e z.y ∧ OkL z.f z.e z.l
theorem okL_iff (f e : Nat) (l : List Bk) : OkL f e l ↔ (∀ b ∈ l, fitsB f e b.a b.o ∧ b.t < 3) ∧ (l.Pairwise fun x y => x.fin ≤ y.a) ∧ ∀ x ∈ l, ∀ y ∈ l, x.o = y.o → x.o < 4 → y.a ≠ bud x.a x.o :=
  ⟨fun h => ⟨h.fit, h.sep, h.nob⟩, fun h => ⟨h.1, h.2.1, h.2.2⟩⟩
theorem okZ_iff (f e : Nat) (y : List Nat) : OkZ f e y ↔ (f ≤ e ∧ e ≤ 256 ∧ f % 16 = 0 ∧ e % 16 = 0 ∧ y.length = (e - f) / 8 ∧ ∀ t ∈ y, t < 3) :=
  ⟨fun h => ⟨h.fe, h.e2, h.f16, h.e16, h.len, h.typ⟩, fun h => ⟨h.1, h.2.1, h.2.2.1, h.2.2.2.1, h.2.2.2.2.1, h.2.2.2.2.2⟩⟩
instance (f e : Nat) (l : List Bk) : Decidable (OkL f e l) := decidable_of_iff _ (okL_iff f e l).symm
instance (f e : Nat) (y : List Nat) : Decidable (OkZ f e y) := decidable_of_iff _ (okZ_iff f e y).symm
instance (z : Zn) : Decidable z.ok := by unfold Zn.ok; infer_instance

/-- no page in common -/
def apartB (a o : Nat) (x : Bk) : Prop := x.fin ≤ a ∨ a + 2 ^ o ≤ x.a
instance (a o : Nat) (x : Bk) : Decidable (apartB a o x) := by unfold apartB; infer_instance

/-- where a block stands, or would stand -/
def lb (l : List Bk) (a : Nat) : Nat := (l.takeWhile fun b => decide (b.a < a)).length

/-- a block grows by the ones beside it -/
def joinUp (l : List Bk) (a : Nat) : Nat → Nat → List Bk × Nat × Nat
  | 0, o => (l, a, o)
  | n + 1, o => match l[lb l (bud a o)]? with
    | some x => if x.a = bud a o ∧ x.o = o then joinUp (l.eraseIdx (lb l (bud a o))) (min a x.a) n (o + 1) else (l, a, o)
    | none => (l, a, o)
def putIn (l : List Bk) (b : Bk) : List Bk := l.take (lb l b.a) ++ b :: l.drop (lb l b.a)
def Zn.back (z : Zn) (a o : Nat) : Zn :=
  let r := joinUp z.l a (4 - o) o
  { z with l := putIn r.1 ⟨r.2.1, r.2.2, z.y.getD ((r.2.1 - z.f) / 8) 0⟩ }

/-! ## Powers of two up to 16 -/
theorem pow_le4 {o : Nat} (h : o ≤ 4) : 2 ^ o = 1 ∨ 2 ^ o = 2 ∨ 2 ^ o = 4 ∨ 2 ^ o = 8 ∨ 2 ^ o = 16 := by
  obtain rfl | rfl | rfl | rfl | rfl : o = 0 ∨ o = 1 ∨ o = 2 ∨ o = 3 ∨ o = 4 := by omega
  all_goals simp
theorem pow_pos' (o : Nat) : 0 < 2 ^ o := Nat.two_pow_pos o
theorem bud_cases {a o : Nat} (ho : o ≤ 4) (h : a % 2 ^ o = 0) : (bud a o = a + 2 ^ o ∧ a % 2 ^ (o + 1) = 0) ∨ (bud a o + 2 ^ o = a ∧ bud a o % 2 ^ (o + 1) = 0) := by
  unfold bud
  obtain rfl | rfl | rfl | rfl | rfl : o = 0 ∨ o = 1 ∨ o = 2 ∨ o = 3 ∨ o = 4 := by omega
  all_goals simp only [Nat.reducePow, Nat.reduceAdd] at *
  all_goals split <;> omega
theorem bud_bud {a o : Nat} (ho : o ≤ 4) (h : a % 2 ^ o = 0) : bud (bud a o) o = a := by
  unfold bud
  obtain rfl | rfl | rfl | rfl | rfl : o = 0 ∨ o = 1 ∨ o = 2 ∨ o = 3 ∨ o = 4 := by omega
  all_goals simp only [Nat.reducePow] at *
  all_goals (split <;> split <;> omega)
theorem fits_up {f e a o : Nat} (hf : f % 16 = 0) (he : e % 16 = 0) (ho : o < 4) (h : fitsB f e a o) : fitsB f e (min a (bud a o)) (o + 1) := by
  obtain ⟨h1, h2, h3, h4⟩ := h
  unfold fitsB bud
  obtain rfl | rfl | rfl | rfl : o = 0 ∨ o = 1 ∨ o = 2 ∨ o = 3 := by omega
  all_goals simp only [Nat.reducePow, Nat.reduceAdd] at *
  all_goals (split <;> omega)
theorem fits_end {f e a o : Nat} (he : e % 16 = 0) (h : fitsB f e a o) : a + 2 ^ o ≤ e := by
  obtain ⟨h1, h2, h3, h4⟩ := h
  obtain rfl | rfl | rfl | rfl | rfl : o = 0 ∨ o = 1 ∨ o = 2 ∨ o = 3 ∨ o = 4 := by omega
  all_goals simp only [Nat.reducePow] at *
  all_goals omega
theorem fits_half {f e a o : Nat} (he : e % 16 = 0) (h : fitsB f e a (o + 1)) : fitsB f e a o ∧ fitsB f e (a + 2 ^ o) o ∧ bud (a + 2 ^ o) o = a := by
  have h5 := fits_end he h
  obtain ⟨h1, h2, h3, h4⟩ := h
  unfold fitsB bud
  obtain rfl | rfl | rfl | rfl : o = 0 ∨ o = 1 ∨ o = 2 ∨ o = 3 := by omega
  all_goals simp only [Nat.reducePow, Nat.reduceAdd] at *
  all_goals (refine ⟨⟨by omega, by omega, by omega, by omega⟩, ⟨by omega, by omega, by omega, by omega⟩, ?_⟩; split <;> omega)

/-! ## Where a block stands -/
theorem take_tw {α : Type} (p : α → Bool) : ∀ l : List α, l.take (l.takeWhile p).length = l.takeWhile p
  | [] => rfl
  | x :: l => by
    rw [List.takeWhile_cons]
    split
    · rw [List.length_cons, List.take_succ_cons, take_tw p l]
    · rfl
theorem drop_tw {α : Type} (p : α → Bool) : ∀ l : List α, l.drop (l.takeWhile p).length = l.dropWhile p
  | [] => rfl
  | x :: l => by
    rw [List.takeWhile_cons, List.dropWhile_cons]
    split
    · rw [List.length_cons, List.drop_succ_cons, drop_tw p l]
    · rfl
theorem lb_le (l : List Bk) (a : Nat) : lb l a ≤ l.length := by
  have := congrArg List.length (take_tw (fun b : Bk => decide (b.a < a)) l)
  rw [List.length_take] at this
  unfold lb; omega
/-- blocks in rising order -/
def Rise (l : List Bk) : Prop := l.Pairwise fun x y => x.a < y.a
theorem OkL.rise {f e : Nat} {l : List Bk} (h : OkL f e l) : Rise l := h.sep.imp fun {x y} h1 => by
  have := pow_pos' x.o
  unfold Bk.fin at h1
  omega
theorem tw_mem {α : Type} {p : α → Bool} : ∀ {l : List α} {x : α}, x ∈ l.takeWhile p → p x = true
  | [], x, h => by simp at h
  | y :: l, x, h => by
    rw [List.takeWhile_cons] at h
    split at h
    · rcases List.mem_cons.1 h with rfl | h
      · assumption
      · exact tw_mem h
    · simp at h
theorem lb_below {l : List Bk} {a : Nat} : ∀ x ∈ l.take (lb l a), x.a < a := by
  intro x hx
  unfold lb at hx
  rw [take_tw] at hx
  have := tw_mem hx
  simpa using this
theorem lb_above {l : List Bk} (h : Rise l) {a : Nat} : ∀ x ∈ l.drop (lb l a), a ≤ x.a := by
  unfold lb
  rw [drop_tw]
  induction l with
  | nil => intro x hx; simp at hx
  | cons y l ih =>
    intro x hx
    rw [List.dropWhile_cons] at hx
    have hp := List.pairwise_cons.1 h
    split at hx
    · exact ih hp.2 x hx
    · rename_i hc
      have hy : a ≤ y.a := by simpa using hc
      rcases List.mem_cons.1 hx with rfl | hx
      · exact hy
      · have := hp.1 x hx; omega
theorem lb_hit {l : List Bk} (h : Rise l) {x : Bk} (hx : x ∈ l) : l[lb l x.a]? = some x := by
  have hd : x ∈ l.drop (lb l x.a) := by
    rw [← List.take_append_drop (lb l x.a) l, List.mem_append] at hx
    rcases hx with hx | hx
    · have := lb_below x hx; omega
    · exact hx
  rw [← List.head?_drop]
  have hr : Rise (l.drop (lb l x.a)) := h.sublist (List.drop_sublist _ _)
  have ha := lb_above h (a := x.a)
  cases hl : l.drop (lb l x.a) with
  | nil => rw [hl] at hd; simp at hd
  | cons y m =>
    rw [hl] at hd hr ha
    rcases List.mem_cons.1 hd with rfl | hd
    · rfl
    · have h1 := (List.pairwise_cons.1 hr).1 x hd
      have h2 := ha y (by simp)
      omega

/-! ## Pages -/
def inB (a o p : Nat) : Prop := a ≤ p ∧ p < a + 2 ^ o
def covL (l : List Bk) (p : Nat) : Prop := ∃ b ∈ l, inB b.a b.o p

/-! ## What is kept -/
theorem OkL.sublist {f e : Nat} {l m : List Bk} (h : OkL f e l) (hs : m.Sublist l) : OkL f e m :=
  ⟨fun b hb => h.fit b (hs.subset hb), h.sep.sublist hs, fun x hx y hy => h.nob x (hs.subset hx) y (hs.subset hy)⟩

theorem sep_two {l : List Bk} (h : l.Pairwise fun x y => x.fin ≤ y.a) {i j : Nat} (hi : i < l.length) (hj : j < l.length) (hne : i ≠ j) : l[i].fin ≤ l[j].a ∨ l[j].fin ≤ l[i].a := by
  rcases Nat.lt_or_ge i j with hlt | hge
  · exact .inl (List.pairwise_iff_getElem.1 h i j hi hj hlt)
  · exact .inr (List.pairwise_iff_getElem.1 h j i hj hi (by omega))

/-- a new block put in -/
theorem OkL.put {f e : Nat} {l : List Bk} (h : OkL f e l) {b : Bk} (hb : fitsB f e b.a b.o) (ht : b.t < 3) (hd : ∀ x ∈ l, apartB b.a b.o x) (hn : b.o < 4 → ∀ x ∈ l, x.o = b.o → x.a ≠ bud b.a b.o) : OkL f e (putIn l b) := by
  have hmem : ∀ x, x ∈ putIn l b ↔ x = b ∨ x ∈ l := fun x => by
    unfold putIn
    rw [List.mem_append, List.mem_cons]
    conv => rhs; rw [← List.take_append_drop (lb l b.a) l, List.mem_append]
    constructor
    · rintro (h | h | h)
      · exact .inr (.inl h)
      · exact .inl h
      · exact .inr (.inr h)
    · rintro (h | h | h)
      · exact .inr (.inl h)
      · exact .inl h
      · exact .inr (.inr h)
  refine ⟨fun x hx => ?_, ?_, fun x hx y hy he ho => ?_⟩
  · rcases (hmem x).1 hx with rfl | hx
    · exact ⟨hb, ht⟩
    · exact h.fit x hx
  · unfold putIn
    rw [List.pairwise_append]
    refine ⟨h.sep.sublist (List.take_sublist _ _), ?_, fun x hx y hy => ?_⟩
    · rw [List.pairwise_cons]
      refine ⟨fun y hy => ?_, h.sep.sublist (List.drop_sublist _ _)⟩
      have h1 := lb_above h.rise y hy
      have h2 := hd y (List.mem_of_mem_drop hy)
      have h3 := pow_pos' y.o
      unfold apartB Bk.fin at h2
      unfold Bk.fin
      omega
    · have h1 := lb_below x hx
      have h2 := hd x (List.mem_of_mem_take hx)
      have h3 := pow_pos' b.o
      rcases List.mem_cons.1 hy with rfl | hy
      · unfold apartB Bk.fin at h2
        unfold Bk.fin
        omega
      · have hs := h.sep
        rw [← List.take_append_drop (lb l b.a) l, List.pairwise_append] at hs
        exact hs.2.2 x hx y hy
  · have hself : b.o < 4 → b.a ≠ bud b.a b.o := fun _ e => by
      have hp := pow_pos' b.o
      rcases bud_cases hb.1 hb.2.2.2 with ⟨h1, _⟩ | ⟨h1, _⟩ <;> omega
    rcases (hmem x).1 hx with hxe | hxl
    · subst hxe
      rcases (hmem y).1 hy with hye | hyl
      · subst hye; exact hself ho
      · exact hn ho y hyl he.symm
    · rcases (hmem y).1 hy with hye | hyl
      · subst hye
        intro e2
        have hxf := (h.fit x hxl).1
        have := hn (by omega) x hxl he
        rw [e2, ← he, bud_bud hxf.1 hxf.2.2.2] at this
        exact this rfl
      · exact h.nob x hxl y hyl he ho

theorem covL_put {l : List Bk} {b : Bk} (p : Nat) : covL (putIn l b) p ↔ covL l p ∨ inB b.a b.o p := by
  unfold covL putIn
  constructor
  · rintro ⟨x, hx, hp⟩
    rw [List.mem_append, List.mem_cons] at hx
    rcases hx with hx | rfl | hx
    · exact .inl ⟨x, List.mem_of_mem_take hx, hp⟩
    · exact .inr hp
    · exact .inl ⟨x, List.mem_of_mem_drop hx, hp⟩
  · rintro (⟨x, hx, hp⟩ | hp)
    · rw [← List.take_append_drop (lb l b.a) l, List.mem_append] at hx
      refine ⟨x, ?_, hp⟩
      rw [List.mem_append, List.mem_cons]
      rcases hx with hx | hx
      · exact .inl hx
      · exact .inr (.inr hx)
    · exact ⟨b, by simp, hp⟩

/-- what a growing block comes to -/
structure Joined (f e : Nat) (l : List Bk) (a o : Nat) (l' : List Bk) (a' o' : Nat) : Prop where
  ok : OkL f e l'
  fit : fitsB f e a' o'
  apart : ∀ x ∈ l', apartB a' o' x
  last : o' < 4 → ∀ x ∈ l', x.o = o' → x.a ≠ bud a' o'
  cov : ∀ p, (covL l' p ∨ inB a' o' p) ↔ (covL l p ∨ inB a o p)

theorem joinUp_ok {f e : Nat} (hf : f % 16 = 0) (he : e % 16 = 0) : ∀ (n o : Nat) (l : List Bk) (a : Nat), n + o = 4 → OkL f e l → fitsB f e a o → (∀ x ∈ l, apartB a o x) → Joined f e l a o (joinUp l a n o).1 (joinUp l a n o).2.1 (joinUp l a n o).2.2
  | 0, o, l, a, hn, hl, hb, hd => ⟨hl, hb, hd, fun h => by simp only [joinUp] at h; omega, fun p => Iff.rfl⟩
  | n + 1, o, l, a, hn, hl, hb, hd => by
    have hstop : (∀ x ∈ l, x.o = o → x.a ≠ bud a o) → Joined f e l a o l a o := fun h => ⟨hl, hb, hd, fun _ => h, fun p => Iff.rfl⟩
    unfold joinUp
    cases hx : l[lb l (bud a o)]? with
    | none =>
      simp only
      refine hstop fun x hxl ho e2 => ?_
      have := lb_hit hl.rise hxl
      rw [e2, hx] at this
      cases this
    | some x =>
      simp only
      by_cases hc : x.a = bud a o ∧ x.o = o
      · rw [if_pos hc]
        obtain ⟨hi, hxi⟩ := List.getElem?_eq_some_iff.1 hx
        have hxm : x ∈ l := by rw [← hxi]; exact List.getElem_mem hi
        have hmem : ∀ y, y ∈ l.eraseIdx (lb l (bud a o)) → y ∈ l ∧ (y.fin ≤ x.a ∨ x.fin ≤ y.a) := fun y hy => by
          obtain ⟨j, hj, hne, rfl⟩ := List.mem_eraseIdx_iff_getElem.1 hy
          refine ⟨List.getElem_mem hj, ?_⟩
          rw [← hxi]
          exact sep_two hl.sep hj hi hne
        have ho4 : o < 4 := by omega
        have hp := pow_pos' o
        have hps : 2 ^ (o + 1) = 2 ^ o + 2 ^ o := by rw [Nat.pow_succ]; omega
        have hbc := bud_cases hb.1 hb.2.2.2
        have hmin : min a x.a = min a (bud a o) := by rw [hc.1]
        have hapart : ∀ y ∈ l.eraseIdx (lb l (bud a o)), apartB (min a x.a) (o + 1) y := fun y hy => by
          obtain ⟨hyl, hy2⟩ := hmem y hy
          have hy1 := hd y hyl
          have hpy := pow_pos' y.o
          unfold apartB Bk.fin at *
          rw [hc.2, hc.1] at hy2
          rw [hmin, hps]
          rcases hbc with ⟨h1, _⟩ | ⟨h1, _⟩ <;> omega
        have ih := joinUp_ok hf he n (o + 1) (l.eraseIdx (lb l (bud a o))) (min a x.a) (by omega) (hl.sublist (List.eraseIdx_sublist _ _)) (by rw [hmin]; exact fits_up hf he ho4 hb) hapart
        refine ⟨ih.ok, ih.fit, ih.apart, ih.last, fun p => (ih.cov p).trans ?_⟩
        have hcovx : inB (min a x.a) (o + 1) p ↔ (inB a o p ∨ inB x.a x.o p) := by
          unfold inB
          rw [hc.2, hc.1, hps]
          rcases hbc with ⟨h1, _⟩ | ⟨h1, _⟩ <;> omega
        rw [hcovx]
        constructor
        · rintro (⟨y, hy, h⟩ | h | h)
          · exact .inl ⟨y, (hmem y hy).1, h⟩
          · exact .inr h
          · exact .inl ⟨x, hxm, h⟩
        · rintro (⟨y, hy, h⟩ | h)
          · obtain ⟨j, hj, rfl⟩ := List.getElem_of_mem hy
            by_cases hje : j = lb l (bud a o)
            · subst hje
              rw [hxi] at h
              exact .inr (.inr h)
            · exact .inl ⟨_, List.mem_eraseIdx_iff_getElem.2 ⟨j, hj, hje, rfl⟩, h⟩
          · exact .inr (.inl h)
      · rw [if_neg hc]
        refine hstop fun y hyl ho e2 => ?_
        have := lb_hit hl.rise hyl
        rw [e2, hx] at this
        obtain rfl : x = y := by simpa using this
        exact hc ⟨e2, ho⟩

theorem Zn.back_ok {z : Zn} (h : z.ok) {a o : Nat} (hb : fitsB z.f z.e a o) (hd : ∀ x ∈ z.l, apartB a o x) : (z.back a o).ok ∧ ∀ p, covL (z.back a o).l p ↔ (covL z.l p ∨ inB a o p) := by
  obtain ⟨hz, hl⟩ := h
  have hj := joinUp_ok hz.f16 hz.e16 (4 - o) o z.l a (by have := hb.1; omega) hl hb hd
  unfold Zn.back Zn.ok
  simp only
  generalize (joinUp z.l a (4 - o) o).1 = l' at *
  generalize (joinUp z.l a (4 - o) o).2.1 = a' at *
  generalize (joinUp z.l a (4 - o) o).2.2 = o' at *
  refine ⟨⟨hz, hj.ok.put hj.fit ?_ hj.apart hj.last⟩, fun p => (covL_put p).trans (hj.cov p)⟩
  have h1 := hj.fit.2.1
  have h2 := hj.fit.2.2.1
  have hlt : (a' - z.f) / 8 < z.y.length := by rw [hz.len]; have := hz.f16; have := hz.e16; omega
  rw [List.getD_eq_getElem?_getD, List.getElem?_eq_getElem hlt]
  exact hz.typ _ (List.getElem_mem hlt)
end Go.Proofs.YtjljcifpcljlaaaDoor
/- Zones of pages in plain words: taking blocks. No program in sight. -/
namespace Go.Proofs.YtjljcifpcljlaaaDoor
set_option linter.unusedVariables false

def lowI (l : List Bk) (o t : Nat) : Option Nat := l.findIdx? fun b => decide (b.o = o ∧ b.t = t)
/-- the least order from o on that has a block of type t -/
def findUp (l : List Bk) (t : Nat) : Nat → Nat → Option Nat
  | 0, _ => none
  | n + 1, o => match lowI l o t with
    | some i => some i
    | none => findUp l t n (o + 1)
/-- the types that are asked when there is none of a type -/
def oth1 (t : Nat) : Nat := if t = 2 then 0 else 2
def oth2 (t : Nat) : Nat := if t = 1 then 0 else 1
/-- the greatest order below n, not below 'order', that has a block of another type -/
def findDown (l : List Bk) (t order : Nat) : Nat → Option Nat
  | 0 => none
  | n + 1 => if n < order then none else match lowI l n (oth1 t) with
    | some i => some i
    | none => match lowI l n (oth2 t) with
      | some i => some i
      | none => findDown l t order n
def setT (y : List Nat) (f a t : Nat) : Nat → List Nat
  | 0 => y
  | n + 1 => (setT y f a t n).set ((a + n - f) / 8) t
def markB (fr up t : Nat) (x : Bk) : Bk := if fr ≤ x.a ∧ x.fin ≤ up then { x with t := t } else x
def Zn.steal (z : Zn) (b : Bk) (t : Nat) : Zn :=
  if b.o < 2 then z else { z with l := z.l.map (markB (b.a / 8 * 8) (max b.fin (b.a / 8 * 8 + 8)) t), y := setT z.y z.f b.a t (2 ^ b.o) }
/-- halves are put back down to an order -/
def splitDown (l : List Bk) (a t order : Nat) : Nat → List Bk
  | 0 => l
  | o + 1 => if order ≤ o then splitDown (putIn l ⟨a + 2 ^ o, o, t⟩) a t order o else l
def Zn.cut (z : Zn) (i order : Nat) : Option (Zn × Nat) := match z.l[i]? with
  | some b => some ({ z with l := splitDown (z.l.eraseIdx i) b.a b.t order b.o }, b.a)
  | none => none
def Zn.take (z : Zn) (order t : Nat) : Option (Zn × Nat) := match findUp z.l t (5 - order) order with
  | some i => z.cut i order
  | none => match findDown z.l t order 5 with
    | some i => match z.l[i]? with
      | some b => (z.steal b t).cut i order
      | none => none
    | none => none

theorem lowI_some {l : List Bk} {o t i : Nat} (h : lowI l o t = some i) : ∃ b, l[i]? = some b ∧ b.o = o ∧ b.t = t := by
  unfold lowI at h
  rw [List.findIdx?_eq_some_iff_getElem] at h
  obtain ⟨hi, hp, _⟩ := h
  have hp' := of_decide_eq_true hp
  exact ⟨l[i], List.getElem?_eq_getElem hi, hp'.1, hp'.2⟩
theorem lowI_none {l : List Bk} {o t : Nat} (h : lowI l o t = none) : ∀ b ∈ l, ¬ (b.o = o ∧ b.t = t) := by
  unfold lowI at h
  rw [List.findIdx?_eq_none_iff] at h
  intro b hb
  exact of_decide_eq_false (h b hb)
theorem findUp_some {l : List Bk} {t : Nat} : ∀ {n o i : Nat}, findUp l t n o = some i → ∃ b, l[i]? = some b ∧ o ≤ b.o ∧ b.t = t
  | 0, _, _, h => by cases h
  | n + 1, o, i, h => by
    unfold findUp at h
    cases hl : lowI l o t with
    | some j =>
      rw [hl] at h
      obtain rfl : j = i := by simpa using h
      obtain ⟨b, h1, h2, h3⟩ := lowI_some hl
      exact ⟨b, h1, by omega, h3⟩
    | none =>
      rw [hl] at h
      obtain ⟨b, h1, h2, h3⟩ := findUp_some (n := n) (o := o + 1) (i := i) h
      exact ⟨b, h1, by omega, h3⟩
theorem findUp_none {l : List Bk} {t : Nat} : ∀ {n o : Nat}, findUp l t n o = none → ∀ b ∈ l, ¬ (o ≤ b.o ∧ b.o < o + n ∧ b.t = t)
  | 0, o, _, b, _, hc => by omega
  | n + 1, o, h, b, hb, hc => by
    unfold findUp at h
    cases hl : lowI l o t with
    | some j => rw [hl] at h; cases h
    | none =>
      rw [hl] at h
      have h1 := lowI_none hl b hb
      have h2 := findUp_none (n := n) (o := o + 1) h b hb
      by_cases he : b.o = o
      · exact h1 ⟨he, hc.2.2⟩
      · exact h2 ⟨by omega, by omega, hc.2.2⟩
theorem findDown_some {l : List Bk} {t order : Nat} : ∀ {n i : Nat}, findDown l t order n = some i → ∃ b, l[i]? = some b ∧ order ≤ b.o
  | 0, _, h => by cases h
  | n + 1, i, h => by
    unfold findDown at h
    by_cases hc : n < order
    · rw [if_pos hc] at h; cases h
    · rw [if_neg hc] at h
      cases h1 : lowI l n (oth1 t) with
      | some j =>
        rw [h1] at h
        obtain rfl : j = i := by simpa using h
        obtain ⟨b, g1, g2, _⟩ := lowI_some h1
        exact ⟨b, g1, by omega⟩
      | none =>
        rw [h1] at h
        cases h2 : lowI l n (oth2 t) with
        | some j =>
          rw [h2] at h
          obtain rfl : j = i := by simpa using h
          obtain ⟨b, g1, g2, _⟩ := lowI_some h2
          exact ⟨b, g1, by omega⟩
        | none =>
          rw [h2] at h
          exact findDown_some (n := n) h
theorem findDown_none {l : List Bk} {t order : Nat} : ∀ {n : Nat}, findDown l t order n = none → ∀ b ∈ l, ¬ (order ≤ b.o ∧ b.o < n ∧ (b.t = oth1 t ∨ b.t = oth2 t))
  | 0, _, b, _, hc => by omega
  | n + 1, h, b, hb, hc => by
    unfold findDown at h
    by_cases hn : n < order
    · omega
    · rw [if_neg hn] at h
      cases h1 : lowI l n (oth1 t) with
      | some j => rw [h1] at h; cases h
      | none =>
        rw [h1] at h
        cases h2 : lowI l n (oth2 t) with
        | some j => rw [h2] at h; cases h
        | none =>
          rw [h2] at h
          have g1 := lowI_none h1 b hb
          have g2 := lowI_none h2 b hb
          have g3 := findDown_none (n := n) h b hb
          by_cases he : b.o = n
          · rcases hc.2.2 with h | h
            · exact g1 ⟨he, h⟩
            · exact g2 ⟨he, h⟩
          · exact g3 ⟨hc.1, by omega, hc.2.2⟩

theorem setT_length (y : List Nat) (f a t : Nat) : ∀ n, (setT y f a t n).length = y.length
  | 0 => rfl
  | n + 1 => by simp [setT, setT_length y f a t n]
theorem setT_all {y : List Nat} {f a t : Nat} (ht : t < 3) (h : ∀ u ∈ y, u < 3) : ∀ n, ∀ u ∈ setT y f a t n, u < 3
  | 0 => h
  | n + 1 => fun u hu => by
    unfold setT at hu
    rcases List.mem_or_eq_of_mem_set hu with hu | rfl
    · exact setT_all ht h n u hu
    · exact ht

theorem OkL.map {f e : Nat} {l : List Bk} (h : OkL f e l) {g : Bk → Bk} (ha : ∀ x, (g x).a = x.a) (ho : ∀ x, (g x).o = x.o) (ht : ∀ x, x.t < 3 → (g x).t < 3) : OkL f e (l.map g) := by
  refine ⟨fun b hb => ?_, ?_, fun x hx y hy he ho4 => ?_⟩
  · obtain ⟨x, hx, rfl⟩ := List.mem_map.1 hb
    obtain ⟨h1, h2⟩ := h.fit x hx
    rw [ha, ho]
    exact ⟨h1, ht x h2⟩
  · rw [List.pairwise_map]
    refine h.sep.imp fun {x y} h1 => ?_
    unfold Bk.fin at *
    rw [ha, ha, ho]; exact h1
  · obtain ⟨x', hx', rfl⟩ := List.mem_map.1 hx
    obtain ⟨y', hy', rfl⟩ := List.mem_map.1 hy
    rw [ho, ho] at he
    rw [ho] at ho4
    rw [ha, ha, ho]
    exact h.nob x' hx' y' hy' he ho4
theorem covL_map {l : List Bk} {g : Bk → Bk} (ha : ∀ x, (g x).a = x.a) (ho : ∀ x, (g x).o = x.o) (p : Nat) : covL (l.map g) p ↔ covL l p := by
  unfold covL
  constructor
  · rintro ⟨b, hb, hp⟩
    obtain ⟨x, hx, rfl⟩ := List.mem_map.1 hb
    rw [ha, ho] at hp
    exact ⟨x, hx, hp⟩
  · rintro ⟨x, hx, hp⟩
    exact ⟨g x, List.mem_map_of_mem hx, by rw [ha, ho]; exact hp⟩
theorem markB_a (fr up t : Nat) (x : Bk) : (markB fr up t x).a = x.a := by unfold markB; split <;> rfl
theorem markB_o (fr up t : Nat) (x : Bk) : (markB fr up t x).o = x.o := by unfold markB; split <;> rfl
theorem markB_t {fr up t : Nat} (ht : t < 3) (x : Bk) (h : x.t < 3) : (markB fr up t x).t < 3 := by unfold markB; split <;> simp [ht, h]

theorem Zn.steal_ok {z : Zn} (h : z.ok) {b : Bk} {t : Nat} (ht : t < 3) : (z.steal b t).ok ∧ (∀ p, covL (z.steal b t).l p ↔ covL z.l p) ∧ (z.steal b t).f = z.f ∧ (z.steal b t).e = z.e ∧ ∀ (i : Nat) (x : Bk), z.l[i]? = some x → ∃ y : Bk, (z.steal b t).l[i]? = some y ∧ y.a = x.a ∧ y.o = x.o := by
  unfold Zn.steal
  split
  · exact ⟨h, fun _ => Iff.rfl, rfl, rfl, fun i x hx => ⟨x, hx, rfl, rfl⟩⟩
  · refine ⟨⟨⟨h.1.fe, h.1.e2, h.1.f16, h.1.e16, by simp only [setT_length]; exact h.1.len, setT_all ht h.1.typ _⟩, h.2.map (markB_a _ _ _) (markB_o _ _ _) (markB_t ht)⟩, fun p => covL_map (markB_a _ _ _) (markB_o _ _ _) p, rfl, rfl, fun i x hx => ⟨markB (b.a / 8 * 8) (max b.fin (b.a / 8 * 8 + 8)) t x, by simp only [List.getElem?_map, hx, Option.map_some], markB_a _ _ _ _, markB_o _ _ _ _⟩⟩

theorem split_ok {f e a t order : Nat} (he : e % 16 = 0) (ht : t < 3) : ∀ (o : Nat) (l : List Bk), order ≤ o → OkL f e l → fitsB f e a o → (∀ x ∈ l, apartB a o x) →
    OkL f e (splitDown l a t order o) ∧ fitsB f e a order ∧ (∀ x ∈ splitDown l a t order o, apartB a order x) ∧ ∀ p, (covL (splitDown l a t order o) p ∨ inB a order p) ↔ (covL l p ∨ inB a o p)
  | 0, l, ho, hl, hb, hd => by
    obtain rfl : order = 0 := by omega
    exact ⟨hl, hb, hd, fun p => Iff.rfl⟩
  | o + 1, l, ho, hl, hb, hd => by
    unfold splitDown
    by_cases hc : order ≤ o
    · rw [if_pos hc]
      obtain ⟨h1, h2, h3⟩ := fits_half he hb
      have hp := pow_pos' o
      have hps : 2 ^ (o + 1) = 2 ^ o + 2 ^ o := by rw [Nat.pow_succ]; omega
      have hl' : OkL f e (putIn l ⟨a + 2 ^ o, o, t⟩) := hl.put h2 ht (fun x hx => by
          have := hd x hx
          unfold apartB Bk.fin at *
          rw [hps] at this
          simp only
          omega) (fun _ x hx hxo => by
          simp only at hxo ⊢
          rw [h3]
          have := hd x hx
          have hpx := pow_pos' x.o
          unfold apartB Bk.fin at this
          omega)
      have hd' : ∀ x ∈ putIn l ⟨a + 2 ^ o, o, t⟩, apartB a o x := fun x hx => by
        unfold putIn at hx
        rw [List.mem_append, List.mem_cons] at hx
        rcases hx with hx | rfl | hx
        · have := hd x (List.mem_of_mem_take hx)
          unfold apartB at *
          omega
        · unfold apartB; simp only; omega
        · have := hd x (List.mem_of_mem_drop hx)
          unfold apartB at *
          omega
      obtain ⟨g1, g2, g3, g4⟩ := split_ok he ht o _ hc hl' h1 hd'
      refine ⟨g1, g2, g3, fun p => (g4 p).trans ?_⟩
      rw [covL_put]
      simp only
      unfold inB
      rw [hps]
      constructor
      · rintro ((h | h) | h)
        · exact .inl h
        · exact .inr (by omega)
        · exact .inr (by omega)
      · rintro (h | h)
        · exact .inl (.inl h)
        · by_cases hpa : p < a + 2 ^ o
          · exact .inr (by omega)
          · exact .inl (.inr (by omega))
    · rw [if_neg hc]
      obtain rfl : order = o + 1 := by omega
      exact ⟨hl, hb, hd, fun p => Iff.rfl⟩

/-- what Take gives -/
structure Taken (z : Zn) (order : Nat) (z' : Zn) (at_ : Nat) : Prop where
  ok : z'.ok
  f : z'.f = z.f
  e : z'.e = z.e
  fit : fitsB z.f z.e at_ order
  apart : ∀ x ∈ z'.l, apartB at_ order x
  cov : ∀ p, (covL z'.l p ∨ inB at_ order p) ↔ covL z.l p
  inside : ∃ b ∈ z.l, b.a = at_ ∧ order ≤ b.o

theorem Zn.cut_ok {z : Zn} (h : z.ok) {i order : Nat} {b : Bk} (hb : z.l[i]? = some b) (ho : order ≤ b.o) : ∃ z' at_, z.cut i order = some (z', at_) ∧ Taken z order z' at_ := by
  obtain ⟨hi, hbi⟩ := List.getElem?_eq_some_iff.1 hb
  have hbm : b ∈ z.l := by rw [← hbi]; exact List.getElem_mem hi
  have hfit := h.2.fit b hbm
  have hmem : ∀ y, y ∈ z.l.eraseIdx i → y ∈ z.l ∧ (y.fin ≤ b.a ∨ b.fin ≤ y.a) := fun y hy => by
    obtain ⟨j, hj, hne, rfl⟩ := List.mem_eraseIdx_iff_getElem.1 hy
    refine ⟨List.getElem_mem hj, ?_⟩
    rw [← hbi]
    exact sep_two h.2.sep hj hi hne
  obtain ⟨g1, g2, g3, g4⟩ := split_ok (t := b.t) h.1.e16 hfit.2 b.o (z.l.eraseIdx i) ho (h.2.sublist (List.eraseIdx_sublist _ _)) hfit.1 (fun y hy => (hmem y hy).2)
  refine ⟨{ z with l := splitDown (z.l.eraseIdx i) b.a b.t order b.o }, b.a, by unfold Zn.cut; rw [hb], ⟨h.1, g1⟩, rfl, rfl, g2, g3, fun p => (g4 p).trans ?_, b, hbm, rfl, ho⟩
  constructor
  · rintro (⟨y, hy, hp⟩ | hp)
    · exact ⟨y, (hmem y hy).1, hp⟩
    · exact ⟨b, hbm, hp⟩
  · rintro ⟨y, hy, hp⟩
    obtain ⟨j, hj, rfl⟩ := List.getElem_of_mem hy
    by_cases hje : j = i
    · subst hje
      rw [hbi] at hp
      exact .inr hp
    · exact .inl ⟨_, List.mem_eraseIdx_iff_getElem.2 ⟨j, hj, hje, rfl⟩, hp⟩

theorem Zn.take_some {z : Zn} (h : z.ok) {order t : Nat} (ho : order ≤ 4) (ht : t < 3) (hb : ∃ b ∈ z.l, order ≤ b.o) : ∃ z' at_, z.take order t = some (z', at_) ∧ Taken z order z' at_ := by
  unfold Zn.take
  cases hu : findUp z.l t (5 - order) order with
  | some i =>
    obtain ⟨b, h1, h2, _⟩ := findUp_some hu
    exact z.cut_ok h h1 h2
  | none =>
    simp only
    cases hd : findDown z.l t order 5 with
    | some i =>
      obtain ⟨b, h1, h2⟩ := findDown_some hd
      simp only [h1]
      obtain ⟨s1, s2, s3, s4, s5⟩ := Zn.steal_ok h (b := b) ht
      obtain ⟨y, hy, hya, hyo⟩ := s5 i b h1
      obtain ⟨z', at_, g1, g2⟩ := Zn.cut_ok s1 hy (order := order) (by omega)
      refine ⟨z', at_, g1, g2.ok, g2.f.trans s3, g2.e.trans s4, by have := g2.fit; rwa [s3, s4] at this, g2.apart, fun p => (g2.cov p).trans (s2 p), ?_⟩
      obtain ⟨c, hc1, hc2, hc3⟩ := g2.inside
      have hcut : at_ = y.a := by
        unfold Zn.cut at g1
        rw [hy] at g1
        simp only [Option.some.injEq, Prod.mk.injEq] at g1
        exact g1.2.symm
      obtain ⟨hi, hbi⟩ := List.getElem?_eq_some_iff.1 h1
      exact ⟨b, by rw [← hbi]; exact List.getElem_mem hi, by rw [hcut, hya], h2⟩
    | none =>
      exfalso
      obtain ⟨b, hb, hbo⟩ := hb
      have h1 := findUp_none hu b hb
      have h2 := findDown_none hd b hb
      have h3 := h.2.fit b hb
      have h4 := h3.1.1
      by_cases he : b.t = t
      · exact h1 ⟨hbo, by omega, he⟩
      · refine h2 ⟨hbo, by omega, ?_⟩
        unfold oth1 oth2
        have h5 := h3.2
        obtain rfl | rfl | rfl : t = 0 ∨ t = 1 ∨ t = 2 := by omega
        all_goals simp only [Nat.reduceEqDiff, if_true, if_false]
        all_goals omega
theorem Zn.take_none {z : Zn} {order t : Nat} (h : ¬ ∃ b ∈ z.l, order ≤ b.o) : z.take order t = none := by
  unfold Zn.take
  cases hu : findUp z.l t (5 - order) order with
  | some i =>
    obtain ⟨b, h1, h2, _⟩ := findUp_some hu
    obtain ⟨hi, hbi⟩ := List.getElem?_eq_some_iff.1 h1
    exact absurd ⟨b, by rw [← hbi]; exact List.getElem_mem hi, h2⟩ h
  | none =>
    simp only
    cases hd : findDown z.l t order 5 with
    | some i =>
      obtain ⟨b, h1, h2⟩ := findDown_some hd
      obtain ⟨hi, hbi⟩ := List.getElem?_eq_some_iff.1 h1
      exact absurd ⟨b, by rw [← hbi]; exact List.getElem_mem hi, h2⟩ h
    | none => rfl
end Go.Proofs.YtjljcifpcljlaaaDoor
/- Zones of pages in plain words: what holds while blocks are taken and come back. No program in sight. -/
namespace Go.Proofs.YtjljcifpcljlaaaDoor
set_option linter.unusedVariables false

theorem apart_of_disj {a o : Nat} {x : Bk} (h : ∀ p, inB a o p → ¬ inB x.a x.o p) : apartB a o x := by
  have h1 := pow_pos' o
  have h2 := pow_pos' x.o
  unfold apartB Bk.fin
  have h3 := h (max a x.a)
  unfold inB at h3
  omega
theorem disj_of_apart {a o : Nat} {x : Bk} (h : apartB a o x) (p : Nat) (hp : inB a o p) : ¬ inB x.a x.o p := by
  unfold apartB Bk.fin at h
  unfold inB at *
  omega

/-- what holds of a zone and of the blocks that are away -/
structure ZInv (lo hi : Nat) (z : Zn) (away : List Bk) : Prop where
  ok : z.ok
  fits : ∀ b ∈ away, fitsB z.f z.e b.a b.o
  apart : ∀ b ∈ away, ∀ x ∈ z.l, apartB b.a b.o x
  each : away.Pairwise fun b c => apartB b.a b.o c
  cov : ∀ p, (covL z.l p ∨ covL away p) ↔ (lo ≤ p ∧ p < hi)

theorem apart_symm {b c : Bk} (h : apartB b.a b.o c) : apartB c.a c.o b := by
  unfold apartB Bk.fin at *
  omega

theorem ZInv.take {lo hi : Nat} {z : Zn} {away : List Bk} (h : ZInv lo hi z away) {order at_ : Nat} {z' : Zn} (ht : Taken z order z' at_) (t : Nat) : ZInv lo hi z' (away ++ [⟨at_, order, t⟩]) := by
  obtain ⟨c, hc, hca, hco⟩ := ht.inside
  have hcov : ∀ p, inB at_ order p → covL z.l p := fun p hp => (ht.cov p).1 (.inr hp)
  have hcov2 : ∀ p, covL z'.l p → covL z.l p := fun p hp => (ht.cov p).1 (.inl hp)
  have hd : ∀ b ∈ away, ∀ p, inB b.a b.o p → ¬ covL z.l p := fun b hb p hp ⟨x, hx, hxp⟩ => disj_of_apart (h.apart b hb x hx) p hp hxp
  have hff : z'.f = z.f := ht.f
  have hee : z'.e = z.e := ht.e
  refine ⟨ht.ok, fun b hb => ?_, fun b hb x hx => ?_, ?_, fun p => ?_⟩
  · rw [hff, hee]
    rw [List.mem_append, List.mem_singleton] at hb
    rcases hb with hb | rfl
    · exact h.fits b hb
    · exact ht.fit
  · rw [List.mem_append, List.mem_singleton] at hb
    rcases hb with hb | rfl
    · exact apart_of_disj fun p hp hxp => hd b hb p hp (hcov2 p ⟨x, hx, hxp⟩)
    · exact ht.apart x hx
  · rw [List.pairwise_append]
    refine ⟨h.each, by simp, fun b hb c hc => ?_⟩
    rw [List.mem_singleton] at hc
    subst hc
    exact apart_of_disj fun p hp hcp => hd b hb p hp (hcov p hcp)
  · have h1 := h.cov p
    have h2 := ht.cov p
    have h3 : covL (away ++ [⟨at_, order, t⟩]) p ↔ (covL away p ∨ inB at_ order p) := by
      unfold covL
      constructor
      · rintro ⟨b, hb, hp⟩
        rw [List.mem_append, List.mem_singleton] at hb
        rcases hb with hb | rfl
        · exact .inl ⟨b, hb, hp⟩
        · exact .inr hp
      · rintro (⟨b, hb, hp⟩ | hp)
        · exact ⟨b, by simp [hb], hp⟩
        · exact ⟨⟨at_, order, t⟩, by simp, hp⟩
    rw [h3]
    constructor
    · rintro (h | h | h)
      · exact h1.1 (.inl (h2.1 (.inl h)))
      · exact h1.1 (.inr h)
      · exact h1.1 (.inl (h2.1 (.inr h)))
    · intro h
      rcases h1.2 h with h | h
      · rcases h2.2 h with h | h
        · exact .inl h
        · exact .inr (.inr h)
      · exact .inr (.inl h)

theorem ZInv.back {lo hi : Nat} {z : Zn} {away : List Bk} (h : ZInv lo hi z away) {k : Nat} (hk : k < away.length) : ZInv lo hi (z.back away[k].a away[k].o) (away.eraseIdx k) := by
  have hm : away[k] ∈ away := List.getElem_mem hk
  obtain ⟨g1, g2⟩ := z.back_ok h.ok (h.fits _ hm) (h.apart _ hm)
  have hmem : ∀ y, y ∈ away.eraseIdx k → y ∈ away ∧ apartB y.a y.o away[k] := fun y hy => by
    obtain ⟨j, hj, hne, rfl⟩ := List.mem_eraseIdx_iff_getElem.1 hy
    refine ⟨List.getElem_mem hj, ?_⟩
    rcases Nat.lt_or_ge j k with hlt | hge
    · exact List.pairwise_iff_getElem.1 h.each j k hj hk hlt
    · exact apart_symm (List.pairwise_iff_getElem.1 h.each k j hk hj (by omega))
  refine ⟨g1, fun b hb => h.fits b (hmem b hb).1, fun b hb x hx => ?_, h.each.sublist (List.eraseIdx_sublist _ _), fun p => ?_⟩
  · refine apart_of_disj fun p hp hxp => ?_
    rcases (g2 p).1 ⟨x, hx, hxp⟩ with ⟨y, hy, hyp⟩ | hyp
    · exact disj_of_apart (h.apart b (hmem b hb).1 y hy) p hp hyp
    · exact disj_of_apart (hmem b hb).2 p hp hyp
  · rw [g2 p, ← h.cov p]
    constructor
    · rintro ((h | h) | ⟨b, hb, hp⟩)
      · exact .inl h
      · exact .inr ⟨_, hm, h⟩
      · exact .inr ⟨b, (hmem b hb).1, hp⟩
    · rintro (h | ⟨b, hb, hp⟩)
      · exact .inl (.inl h)
      · obtain ⟨j, hj, rfl⟩ := List.getElem_of_mem hb
        by_cases hje : j = k
        · subst hje; exact .inl (.inr hp)
        · exact .inr ⟨_, List.mem_eraseIdx_iff_getElem.2 ⟨j, hj, hje, rfl⟩, hp⟩

/-! ## The zone that the laws begin with -/
def giveTo (z : Zn) (p : Nat) : Nat → Zn
  | 0 => z
  | n + 1 => (giveTo z p n).back (p + n) 0
def zone0 : Zn := ⟨16, 112, [], List.replicate 12 1⟩
def zone1 : Zn := giveTo zone0 18 90

theorem giveTo_ok {z : Zn} {p : Nat} (h : z.ok) (hl : z.l = []) (hp : z.f ≤ p) : ∀ n, p + n ≤ z.e → (giveTo z p n).ok ∧ (giveTo z p n).f = z.f ∧ (giveTo z p n).e = z.e ∧ ∀ q, covL (giveTo z p n).l q ↔ (p ≤ q ∧ q < p + n)
  | 0, _ => ⟨h, rfl, rfl, fun q => by
      show covL z.l q ↔ _
      rw [hl]
      constructor
      · rintro ⟨b, hb, _⟩; simp at hb
      · intro h; omega⟩
  | n + 1, hn => by
    obtain ⟨g1, g2, g3, g4⟩ := giveTo_ok h hl hp n (by omega)
    have hfit : fitsB (giveTo z p n).f (giveTo z p n).e (p + n) 0 := by rw [g2, g3]; exact ⟨by omega, by omega, by omega, by simp [Nat.mod_one]⟩
    have hap : ∀ x ∈ (giveTo z p n).l, apartB (p + n) 0 x := fun x hx => apart_of_disj fun q hq hxq => by
      have := (g4 q).1 ⟨x, hx, hxq⟩
      unfold inB at hq
      simp only [Nat.pow_zero] at hq
      omega
    obtain ⟨k1, k2⟩ := Zn.back_ok g1 hfit hap
    refine ⟨k1, g2, g3, fun q => ?_⟩
    show covL ((giveTo z p n).back (p + n) 0).l q ↔ _
    rw [k2, g4]
    unfold inB
    simp only [Nat.pow_zero]
    omega
theorem giveTo_step {z : Zn} {p : Nat} (h : z.ok) (hl : z.l = []) (hp : z.f ≤ p) {n : Nat} (hn : p + (n + 1) ≤ z.e) : fitsB (giveTo z p n).f (giveTo z p n).e (p + n) 0 ∧ ∀ x ∈ (giveTo z p n).l, apartB (p + n) 0 x := by
  obtain ⟨g1, g2, g3, g4⟩ := giveTo_ok h hl hp n (by omega)
  refine ⟨by rw [g2, g3]; exact ⟨by omega, by omega, by omega, by simp [Nat.mod_one]⟩, fun x hx => apart_of_disj fun q hq hxq => ?_⟩
  have := (g4 q).1 ⟨x, hx, hxq⟩
  unfold inB at hq
  simp only [Nat.pow_zero] at hq
  omega
theorem zone0_ok : zone0.ok := by decide +kernel
theorem zinv1 : ZInv 18 108 zone1 [] := by
  obtain ⟨g1, g2, g3, g4⟩ := giveTo_ok (p := 18) zone0_ok rfl (by decide) 90 (by decide)
  refine ⟨g1, by simp, by simp, by simp, fun p => ?_⟩
  have := g4 p
  constructor
  · rintro (h | ⟨b, hb, _⟩)
    · have := this.1 h; omega
    · simp at hb
  · intro h
    exact .inl (this.2 (by omega))
theorem zone1_is : zone1 = ⟨16, 112, [⟨18, 1, 1⟩, ⟨20, 2, 1⟩, ⟨24, 3, 1⟩, ⟨32, 4, 1⟩, ⟨48, 4, 1⟩, ⟨64, 4, 1⟩, ⟨80, 4, 1⟩, ⟨96, 3, 1⟩, ⟨104, 2, 1⟩], List.replicate 12 1⟩ := by decide +kernel

/-- one free block for each free page and order: the list has no more than 96 blocks -/
theorem OkL.length_le {f e : Nat} : ∀ {l : List Bk}, OkL f e l → (∀ b ∈ l, b.a < e) → l.length ≤ e
  | l, h, hb => by
    have hr := h.rise
    have : ∀ (l : List Bk) (n : Nat), Rise l → (∀ b ∈ l, n ≤ b.a ∧ b.a < e) → n ≤ e → l.length + n ≤ e := by
      intro l
      induction l with
      | nil => intro n _ _ hn; simp; exact hn
      | cons x l ih =>
        intro n hr hb hn
        have h1 := hb x (by simp)
        have hp := List.pairwise_cons.1 hr
        have := ih (x.a + 1) hp.2 (fun y hy => ⟨hp.1 y hy, (hb y (by simp [hy])).2⟩) (by omega)
        simp only [List.length_cons]
        omega
    have := this l 0 hr (fun b h => ⟨by omega, hb b h⟩) (by omega)
    omega
end Go.Proofs.YtjljcifpcljlaaaDoor
/- Contract of picked. -/
namespace Go.Proofs.YtjljcifpcljlaaaDoor
open Go.RowKit

/-- what 'picked' computes -/
def pk (n many : Int) : Int := (if n < 0 then -(n + 1) else n) % many

theorem pk_nonneg (n many : Int) (h : 1 ≤ many) : 0 ≤ pk n many := Int.emod_nonneg _ (by omega)
theorem pk_lt (n many : Int) (h : 1 ≤ many) : pk n many < many := Int.emod_lt_of_pos _ (by omega)

theorem picked_any (n many : Int) (w : World) (hn1 : -9223372036854775808 ≤ n) (hn2 : n ≤ 9223372036854775807) (h1 : 1 ≤ many) (h2 : many ≤ 1000000) :
    Calls Tryd.prog 17 #[.int .i64 n, .int .i64 many] w fun e w' => e = .returned (.int .i64 (pk n many)) ∧ w = w' := by
  by_cases hneg : n < 0
  · go_enter Tryd.func17, Tryd.ntmps17
    go_wp2
    go_ret
    refine ⟨ret_int ?_, rfl⟩
    show -(n + 1).tmod many = _
    rw [pk, if_pos hneg, ← Int.neg_tmod, Int.tmod_eq_emod_of_nonneg (by omega)]
  · go_enter Tryd.func17, Tryd.ntmps17
    go_wp2
    go_ret
    refine ⟨ret_int ?_, rfl⟩
    show n % many = _
    rw [pk, if_neg (by omega)]

end Go.Proofs.YtjljcifpcljlaaaDoor
/- The walk's law on the built-in copy into a row that the call owns, at whatever element. No program in sight. -/
namespace Go.Proofs.YtjljcifpcljlaaaDoor
open Go.RowKit

theorem firstCells_row {P : Program} {w : World} (size n : Nat) (sp : Option Addr) (len cap : Nat) (cs : List Value) (hl : cs.length = n * size) (hr : Row w sp cs) :
    (Builtin.firstCells size n (.slice sp len cap)).run P w = .ok cs.toArray w := by
  cases sp with
  | some b =>
    refine run_firstCells_some w size n b len cap cs hl fun j v hj => ?_
    obtain ⟨b', off, e, _, h⟩ := hr j v hj
    obtain rfl : b = ⟨b', off, none⟩ := by simpa using e
    rw [Addr.add_lit]; exact h
  | none =>
    have : cs = [] := by
      cases cs with
      | nil => rfl
      | cons u l => obtain ⟨b, off, e1, _⟩ := hr 0 u rfl; cases e1
    subst this
    simp [Builtin.firstCells]

theorem splice_take (cur xs cs : List Value) (o N : Nat) (h : cur.take N = xs) (hN : N ≤ cur.length) (hf : o + cs.length ≤ N) :
    (cur.take o ++ cs ++ cur.drop (o + cs.length)).take N = xs.take o ++ cs ++ xs.drop (o + cs.length) := by
  subst h
  have hl : (cur.take o ++ cs).length = o + cs.length := by rw [List.length_append, List.length_take]; omega
  rw [List.take_append, List.take_of_length_le (by omega), hl, List.take_take, Nat.min_eq_left (by omega), List.drop_take]

theorem wpList_cp {P : Program} {w : World} {ops : Array Oper} {rest : List Oper} {o : Oper} {a : Act} {Q : Exit → Act → World → Prop} (hgd : o.guard = none) (d s : Operand) (dT sT : TypeId)
    (ho : o.op = .call { callee := .builtin .copy, args := #[d, s], argTypes := #[dT, sT] }) (e : TypeId) (hu : P.underlying dT = some (.slice e)) (size : Nat) (hsz : (P.info? e).map (·.size) = some size)
    (dp sp : Option Addr) (dLen dCap sLen sCap : Nat) (hd : a.eval d = .slice dp dLen dCap) (hs : a.eval s = .slice sp sLen sCap)
    (cs : List Value) (hn : cs.length = Nat.min sLen dLen * size) (hcs : Row w sp cs) (h1 : ∀ u ∈ cs, u.oneCell' = true)
    (base N co p : Nat) (ao : Option Addr) (xs : List Value) (hown : w.ownsRow base e size (.slice ao N co) N xs) (hp : 0 < cs.length → dp = ao.map (·.add (p * size))) (hdn : dp = none → cs = []) (hfit : p * size + cs.length ≤ N * size)
    (h : ∀ w', w'.ownsRow base e size (.slice ao N co) N (xs.take (p * size) ++ cs ++ xs.drop (p * size + cs.length)) → w.grownBy w' (Value.ownBlock (.slice ao N co)) → wpList P ops Q rest (a.put o.dst (goInt (Nat.min sLen dLen : Nat))) w') :
    wpList P ops Q (o :: rest) a w := by
  refine wpList_plain hgd fun K hK => ?_
  have key : ∃ w', (Builtin.copy_ #[dT, sT] o.type #[.slice dp dLen dCap, .slice sp sLen sCap]).run P w = .ok (goInt (Nat.min sLen dLen : Nat)) w' ∧ w'.ownsRow base e size (.slice ao N co) N (xs.take (p * size) ++ cs ++ xs.drop (p * size + cs.length)) ∧ w.grownBy w' (Value.ownBlock (.slice ao N co)) := by
    cases hq : P.info? e with
    | none => simp [hq] at hsz
    | some i =>
      have hi : i.size = size := by simpa [hq] using hsz
      have hf := firstCells_row (P := P) size (Nat.min sLen dLen) sp sLen sCap cs hn hcs
      by_cases hc0 : 0 < cs.length
      · obtain ⟨g, cap, cur, hv, hbg, hg, hnc, hcm, hcsz, htk⟩ : ∃ g cap cur, Value.slice ao N co = .slice (some ⟨g, 0, none⟩) N cap ∧ base ≤ g ∧ w.heap[g]? = some (.cells cur e (0, 0)) ∧ N ≤ cap ∧ cap ≤ maxLen ∧ cur.size = cap * size ∧ cur.toList.take (N * size) = xs := by
          rcases hown.2 with ⟨_, h0⟩ | h
          · rw [h0, Nat.zero_mul] at hfit; omega
          · exact h
        obtain ⟨rfl, rfl⟩ : ao = some ⟨g, 0, none⟩ ∧ co = cap := by simpa using hv
        have hdp := hp hc0
        simp only [Option.map_some, Addr.add_lit, Nat.zero_add] at hdp
        subst hdp
        have hNc : N * size ≤ cur.size := by rw [hcsz]; exact Nat.mul_le_mul_right _ hnc
        have hst := run_storeCells_at P g (p * size) e cs 0 cur w hg (by omega) h1
        refine ⟨w.setRow g (cur.toList.take (p * size) ++ cs ++ cur.toList.drop (p * size + cs.length)).toArray, ?_, ?_, ?_⟩
        · simp only [Nat.add_zero] at hst
          simp [Builtin.copy_, run_underlying hu, Builtin.lenOf, sizeOf, typeInfo, hq, hi, hf, hst]
        · refine ⟨?_, .inr ⟨g, co, _, rfl, hbg, setRow_heap w g cur _ e _ hg, hnc, hcm, ?_, ?_⟩⟩
          · have := hown.1
            simp only [List.length_append, List.length_take, List.length_drop]; omega
          · simp only [List.size_toArray, List.length_append, List.length_take, List.length_drop, Array.length_toList]; omega
          · exact splice_take _ _ _ _ _ htk (by simpa using hNc) hfit
        · exact ⟨rfl, rfl, rfl, by simp [World.setRow], fun k _ hk => setRow_other w g k _ (fun e => hk (by simp [Value.ownBlock, e]))⟩
      · have hc : cs = [] := List.eq_nil_of_length_eq_zero (by omega)
        subst hc
        refine ⟨w, ?_, by simpa using hown, ⟨rfl, rfl, rfl, Nat.le_refl _, fun _ _ _ => rfl⟩⟩
        cases dp with
        | none => simp [Builtin.copy_, run_underlying hu, Builtin.lenOf, sizeOf, typeInfo, hq, hi, hf]
        | some ad => simp [Builtin.copy_, run_underlying hu, Builtin.lenOf, sizeOf, typeInfo, hq, hi, hf, storeCells]
  obtain ⟨w', hr, h2, h3⟩ := key
  unfold Oper.wp execOp
  simp only [ho, resolve, invoke, builtin, Sem.run_bind, Sem.run_pure, Result.andThen_ok, List.map_toArray, List.map_cons, List.map_nil, hd, hs, hr]
  exact hK _ _ (h w' h2 h3)
end Go.Proofs.YtjljcifpcljlaaaDoor
/- Owned rows: prefixes, spare cells, 'clear' of spare cells, 'append' of zeros. No program in sight. -/
namespace Go.Proofs.YtjljcifpcljlaaaDoor
open Go.RowKit

theorem own_prefix {w : World} {base : Nat} {e : TypeId} {size : Nat} {a : Option Addr} {n c : Nat} {xs : List Value} (h : w.ownsRow base e size (.slice a n c) n xs) {i : Nat} (hi : i ≤ n) : w.ownsRow base e size (.slice a i c) i (xs.take (i * size)) := by
  have hm : i * size ≤ n * size := Nat.mul_le_mul_right _ hi
  refine ⟨by rw [List.length_take, h.1]; omega, ?_⟩
  rcases h.2 with ⟨h', h2⟩ | ⟨g, cap, cur, h', hb, hg, hn, hc, hs, ht⟩
  · obtain ⟨rfl, rfl⟩ : a = none ∧ c = 0 := by simp at h'; exact ⟨h'.1, h'.2.2⟩
    obtain rfl : i = 0 := by omega
    exact .inl ⟨rfl, rfl⟩
  · obtain ⟨rfl, rfl⟩ : a = some ⟨g, 0, none⟩ ∧ c = cap := by simpa using h'
    exact .inr ⟨g, c, cur, rfl, hb, hg, by omega, hc, hs, by rw [← ht, List.take_take, Nat.min_eq_left hm]⟩

/-- the spare cells too -/
theorem own_room {w : World} {base : Nat} {e : TypeId} {size : Nat} {a : Option Addr} {n c : Nat} {xs : List Value} (h : w.ownsRow base e size (.slice a n c) n xs) {m : Nat} (hm : n ≤ m) (hc : m ≤ c) : ∃ ys : List Value, ys.length = (m - n) * size ∧ w.ownsRow base e size (.slice a m c) m (xs ++ ys) := by
  rcases h.2 with ⟨h', h2⟩ | ⟨g, cap, cur, h', hb, hg, hn, hcm, hs, ht⟩
  · obtain ⟨rfl, rfl⟩ : a = none ∧ c = 0 := by simp at h'; exact ⟨h'.1, h'.2.2⟩
    obtain rfl : m = 0 := by omega
    obtain rfl : n = 0 := by omega
    exact ⟨[], by simp, by simpa using h⟩
  · obtain ⟨rfl, rfl⟩ : a = some ⟨g, 0, none⟩ ∧ c = cap := by simpa using h'
    have h1 : m * size ≤ c * size := Nat.mul_le_mul_right _ hc
    have h2 : n * size ≤ m * size := Nat.mul_le_mul_right _ hm
    have hl : (cur.toList.take (m * size)).length = m * size := by rw [List.length_take, Array.length_toList, hs]; omega
    refine ⟨(cur.toList.take (m * size)).drop (n * size), by rw [List.length_drop, hl, Nat.sub_mul], ?_, .inr ⟨g, c, cur, rfl, hb, hg, hc, hcm, hs, ?_⟩⟩
    · rw [List.length_append, h.1, List.length_drop, hl]; omega
    · rw [← ht]
      have : cur.toList.take (n * size) = (cur.toList.take (m * size)).take (n * size) := by rw [List.take_take, Nat.min_eq_left h2]
      rw [this, List.take_append_drop]

/-- 'clear' of cells behind an owned row's elements -/
theorem wpList_clr {P : Program} {w : World} {ops : Array Oper} {rest : List Oper} {o : Oper} {a : Act} {Q : Exit → Act → World → Prop} (hgd : o.guard = none) (s : Operand) (sT : TypeId)
    (ho : o.op = .call { callee := .builtin .clear, args := #[s], argTypes := #[sT] }) (e : TypeId) (hu : P.underlying sT = some (.slice e)) (size : Nat) (z : Value) (hz : ∀ w, (zeroValue e).run P w = .ok z w) (hzs : z.cells.size = size) (hz1 : ∀ u ∈ z.cells, u.oneCell' = true)
    (base n k c : Nat) (cc : Nat) (ao : Option Addr) (xs : List Value) (hs : a.eval s = .slice (cutA ao n c size) k cc) (hown : w.ownsRow base e size (.slice ao n c) n xs) (hfit : n + k ≤ c)
    (h : ∀ w', w'.ownsRow base e size (.slice ao n c) n xs → w.grownBy w' (Value.ownBlock (.slice ao n c)) → wpList P ops Q rest (a.put o.dst (.tuple #[])) w') :
    wpList P ops Q (o :: rest) a w := by
  refine wpList_plain hgd fun K hK => ?_
  have key : ∃ w', (Builtin.clear_ #[sT] o.type #[.slice (cutA ao n c size) k cc]).run P w = .ok (.tuple #[]) w' ∧ w'.ownsRow base e size (.slice ao n c) n xs ∧ w.grownBy w' (Value.ownBlock (.slice ao n c)) := by
    rcases Nat.eq_zero_or_pos k with rfl | hk
    · refine ⟨w, ?_, hown, ⟨rfl, rfl, rfl, Nat.le_refl _, fun _ _ _ => rfl⟩⟩
      cases cutA ao n c size <;> simp [Builtin.clear_, run_underlying hu]
    · rcases hown.2 with ⟨h', h2⟩ | ⟨g, cap, cur, h', hb, hg, hn, hcm, hsz, ht⟩
      · obtain ⟨rfl, rfl⟩ : ao = none ∧ c = 0 := by simp at h'; exact ⟨h'.1, h'.2.2⟩
        omega
      · obtain ⟨rfl, rfl⟩ : ao = some ⟨g, 0, none⟩ ∧ c = cap := by simpa using h'
        have hcut : cutA (some ⟨g, 0, none⟩) n c size = some ⟨g, n * size, none⟩ := by
          unfold cutA
          rw [if_neg (by omega)]
          simp [Addr.add_lit]
        have hzl : (Builtin.zeroCells z.cells k).toList.length = k * size := by rw [← hzs]; simp [Builtin.zeroCells]
        have hz1' : ∀ u ∈ (Builtin.zeroCells z.cells k).toList, u.oneCell' = true := by
          intro u hu
          simp only [Builtin.zeroCells, Array.toList_map, List.mem_map, Array.toList_range, List.mem_range] at hu
          obtain ⟨i, hi, rfl⟩ := hu
          have hpos : 0 < z.cells.size := by
            rcases Nat.eq_zero_or_pos z.cells.size with h0 | h0
            · rw [h0, Nat.mul_zero] at hi; omega
            · exact h0
          have hlt : i % z.cells.size < z.cells.size := Nat.mod_lt _ hpos
          rw [getElem!_pos z.cells (i % z.cells.size) hlt]
          exact hz1 _ (Array.getElem_mem _)
        have hnk : n * size + k * size ≤ c * size := by rw [← Nat.add_mul]; exact Nat.mul_le_mul_right _ hfit
        have hst := run_storeCells_at P g (n * size) e (Builtin.zeroCells z.cells k).toList 0 cur w hg (by rw [hzl]; omega) hz1'
        refine ⟨w.setRow g (cur.toList.take (n * size) ++ (Builtin.zeroCells z.cells k).toList ++ cur.toList.drop (n * size + (Builtin.zeroCells z.cells k).toList.length)).toArray, ?_, ?_, ?_⟩
        · obtain ⟨m, rfl⟩ : ∃ m, k = m + 1 := ⟨k - 1, by omega⟩
          simp only [Nat.add_zero] at hst
          simp [Builtin.clear_, run_underlying hu, hz, hcut, hst]
        · refine ⟨hown.1, .inr ⟨g, c, _, rfl, hb, setRow_heap w g cur _ e _ hg, hn, hcm, ?_, ?_⟩⟩
          · simp only [List.size_toArray, List.length_append, List.length_take, List.length_drop, Array.length_toList, hzl]; omega
          · have hl : (cur.toList.take (n * size)).length = n * size := by rw [List.length_take, Array.length_toList]; omega
            rw [List.append_assoc]
            rw [List.take_left' hl]; exact ht
        · exact ⟨rfl, rfl, rfl, by simp [World.setRow], fun k _ hk => setRow_other w g k _ (fun e => hk (by simp [Value.ownBlock, e]))⟩
  obtain ⟨w', hr, h2, h3⟩ := key
  unfold Oper.wp execOp
  simp only [ho, resolve, invoke, builtin, Sem.run_bind, Sem.run_pure, Result.andThen_ok, List.map_toArray, List.map_cons, List.map_nil, hs, hr]
  exact hK _ _ (h w' h2 h3)
end Go.Proofs.YtjljcifpcljlaaaDoor
/- Rows of structs: elements of k cells each, one behind the other. No program in sight. -/
namespace Go.Proofs.YtjljcifpcljlaaaDoor
open Go.RowKit
variable {α : Type}

/-- the cells of a list of structs -/
def flat (enc : α → List Value) (l : List α) : List Value := l.flatMap enc

theorem flat_length {enc : α → List Value} {k : Nat} (hk : ∀ x, (enc x).length = k) (l : List α) : (flat enc l).length = l.length * k := by
  unfold flat
  induction l with
  | nil => simp
  | cons x l ih => rw [List.flatMap_cons, List.length_append, hk, ih, List.length_cons, Nat.succ_mul, Nat.add_comm]

theorem flat_append (enc : α → List Value) (l m : List α) : flat enc (l ++ m) = flat enc l ++ flat enc m := by simp [flat]
theorem flat_nil (enc : α → List Value) : flat enc [] = [] := rfl
theorem flat_cons (enc : α → List Value) (x : α) (l : List α) : flat enc (x :: l) = enc x ++ flat enc l := by simp [flat]
theorem flat_one (enc : α → List Value) (x : α) : flat enc [x] = enc x := by simp [flat]

theorem flat_take {enc : α → List Value} {k : Nat} (hk : ∀ x, (enc x).length = k) (l : List α) (n : Nat) : (flat enc l).take (n * k) = flat enc (l.take n) := by
  by_cases h : n ≤ l.length
  · conv => lhs; rw [← List.take_append_drop n l, flat_append]
    rw [List.take_left' (by rw [flat_length hk, List.length_take, Nat.min_eq_left h])]
  · rw [List.take_of_length_le (show l.length ≤ n by omega), List.take_of_length_le (by rw [flat_length hk]; exact Nat.mul_le_mul_right _ (by omega))]
theorem flat_drop {enc : α → List Value} {k : Nat} (hk : ∀ x, (enc x).length = k) (l : List α) (n : Nat) : (flat enc l).drop (n * k) = flat enc (l.drop n) := by
  by_cases h : n ≤ l.length
  · conv => lhs; rw [← List.take_append_drop n l, flat_append]
    rw [List.drop_left' (by rw [flat_length hk, List.length_take, Nat.min_eq_left h])]
  · rw [List.drop_eq_nil_of_le (show l.length ≤ n by omega), List.drop_eq_nil_of_le (by rw [flat_length hk]; exact Nat.mul_le_mul_right _ (by omega))]; rfl

theorem flat_get {enc : α → List Value} {k : Nat} (hk : ∀ x, (enc x).length = k) (l : List α) (j : Nat) (hj : j < l.length) (i : Nat) (hi : i < k) : (flat enc l)[j * k + i]? = (enc l[j])[i]? := by
  rw [← List.getElem?_drop, flat_drop hk, List.drop_eq_getElem_cons hj, flat_cons, List.getElem?_append_left (by rw [hk]; exact hi)]

theorem flat_set {enc : α → List Value} {k : Nat} (hk : ∀ x, (enc x).length = k) (l : List α) (j : Nat) (hj : j < l.length) (x : α) : (flat enc l).take (j * k) ++ enc x ++ (flat enc l).drop ((j + 1) * k) = flat enc (l.set j x) := by
  rw [flat_take hk, flat_drop hk, List.set_eq_take_append_cons_drop, if_pos hj, flat_append, flat_cons, List.append_assoc]

/-- an element's cells -/
theorem row_elem {enc : α → List Value} {k : Nat} (hk : ∀ x, (enc x).length = k) (hk0 : 0 < k) {w : World} {a : Option Addr} {l : List α} (h : Row w a (flat enc l)) {j : Nat} (hj : j < l.length) :
    ∃ b off, a = some ⟨b, off, none⟩ ∧ b < w.heap.size ∧ ∀ i v, (enc l[j])[i]? = some v → w.cell? ⟨b, off + j * k + i, none⟩ = some v := by
  have h0 : (flat enc l)[j * k + 0]? = some ((enc l[j])[0]'(by rw [hk]; exact hk0)) := by
    rw [flat_get hk l j hj 0 hk0, List.getElem?_eq_getElem]
  obtain ⟨b, off, e, hb, _⟩ := h _ _ h0
  refine ⟨b, off, e, hb, fun i v hi => ?_⟩
  have hik : i < k := by have := (List.getElem?_eq_some_iff.1 hi).1; rw [hk] at this; exact this
  obtain ⟨b', off', e', _, hc⟩ := h (j * k + i) v (by rw [flat_get hk l j hj i hik]; exact hi)
  rw [e] at e'
  obtain ⟨rfl, rfl⟩ : b = b' ∧ off = off' := by simpa using e'
  rw [Nat.add_assoc]; exact hc

/-- an element loaded whole -/
theorem load_elem {P : Program} {enc : α → List Value} {k : Nat} (hk : ∀ x, (enc x).length = k) {w : World} {b off j : Nat} {x : α} (h : ∀ i v, (enc x)[i]? = some v → w.cell? ⟨b, off + j * k + i, none⟩ = some v) :
    Sem.run P (loadCellsFrom ⟨b, off + j * k, none⟩ 0 k #[]) w = .ok (enc x).toArray w := by
  have := run_loadCells_list (P := P) (w := w) ⟨b, off + j * k, none⟩ (enc x) (fun i v hi => by rw [Addr.add_lit]; exact h i v hi)
  rw [hk] at this
  simpa [loadCells] using this

/-- an element of an owned row is written -/
theorem own_elem {enc : α → List Value} {k : Nat} (hk : ∀ x, (enc x).length = k) (hk0 : 0 < k) {w : World} {base : Nat} {e : TypeId} {a : Option Addr} {n c : Nat} {l : List α} (h : w.ownsRow base e k (.slice a n c) n (flat enc l)) {j : Nat} (hj : j < l.length) :
    ∃ g, a = some ⟨g, 0, none⟩ ∧ base ≤ g ∧ g < w.heap.size ∧ (∀ i v, (enc l[j])[i]? = some v → w.cell? ⟨g, j * k + i, none⟩ = some v) ∧ ∀ i, w.frozen? ⟨g, i, none⟩ = false := by
  obtain ⟨b, off, e1, hb, hc⟩ := row_elem hk hk0 (own_row h) hj
  rcases h.2 with ⟨h', h2⟩ | ⟨g, cap, cur, h', hbg, hg, _⟩
  · have h1 := h.1; rw [h2, Nat.zero_mul, flat_length hk] at h1
    have : 0 < l.length * k := Nat.mul_pos (by omega) hk0
    omega
  · obtain ⟨rfl, rfl⟩ : a = some ⟨g, 0, none⟩ ∧ c = cap := by simpa using h'
    obtain ⟨rfl, rfl⟩ : g = b ∧ 0 = off := by simpa using e1
    refine ⟨g, rfl, hbg, hb, fun i v hi => by have := hc i v hi; rw [Nat.zero_add] at this; exact this, fun i => World.ownsRow.frozenAt h i⟩

theorem own_flat_len {enc : α → List Value} {k : Nat} (hk : ∀ x, (enc x).length = k) (hk0 : 0 < k) {w : World} {base : Nat} {e : TypeId} {v : Value} {n : Nat} {l : List α} (h : w.ownsRow base e k v n (flat enc l)) : l.length = n := by
  have h1 := h.1
  rw [flat_length hk] at h1
  exact Nat.eq_of_mul_eq_mul_right hk0 h1
end Go.Proofs.YtjljcifpcljlaaaDoor
/- Regions that draw their order, whose operations only read old memory and whose callees lay new blocks alone: one walk in the order of the text, at the class 'w with new blocks behind it'. No program in sight. -/
namespace Go.Proofs.YtjljcifpcljlaaaDoor
open Go.RowKit
open Classical in
/-- x, where x is w with new blocks; else w itself. -/
noncomputable def ext (w x : World) : World := if Below w.heap.size w x then x else w

theorem ext_below (w x : World) : Below w.heap.size w (ext w x) := by
  unfold ext
  split
  · assumption
  · exact Below.refl _ _
theorem ext_of {w x : World} (h : Below w.heap.size w x) : ext w x = x := by unfold ext; rw [if_pos h]

@[go_sem] theorem cell_ext {w x : World} {b o : Nat} {s : Option Nat} (h : b < w.heap.size) : (ext w x).cell? ⟨b, o, s⟩ = w.cell? ⟨b, o, s⟩ := (ext_below w x).cell (p := ⟨b, o, s⟩) h
@[go_sem] theorem frozen_ext {w x : World} {b o : Nat} {s : Option Nat} (h : b < w.heap.size) : (ext w x).frozen? ⟨b, o, s⟩ = w.frozen? ⟨b, o, s⟩ := (ext_below w x).frozen (p := ⟨b, o, s⟩) h

theorem wp_region_ext_lit {P : Program} {id : Nat} {Q : Exit → Act → World → Prop} {a : Act} {w : World} {l : List Oper} (hm : P.follows .mixedOrders = true) (hB : Region.lexB .any l.toArray = true)
    (h : wpQuiet P l.toArray (fun w' => ∃ x, w' = ext w x) (fun a' => ∀ w', (∃ x, w' = ext w x) → Q .normal a' w') l a) : (Code.region id l.toArray true).wp P Q a w :=
  wp_region_quiet (C := fun w' => ∃ x, w' = ext w x) hm hB ⟨w.drew, (ext_of (Below.refl _ _).drew).symm⟩ (by simpa using h)

theorem Calls.ext_of {P : Program} {f : FuncId} {args : Array Value} {w x : World} {v : Value}
    (h : Calls P f args (ext w x) fun e w' => e = .returned v ∧ Below (ext w x).heap.size (ext w x) w') : Calls P f args (ext w x) fun e w'' => e = .returned v ∧ ∃ y, w'' = ext w y :=
  h.mono fun _ w' ⟨he, hb⟩ => ⟨he, w', (Go.Proofs.YtjljcifpcljlaaaDoor.ext_of ((ext_below w x).trans (hb.mono (ext_below w x).size))).symm⟩
theorem Calls.ext_same {P : Program} {f : FuncId} {args : Array Value} {w x : World} {v : Value}
    (h : Calls P f args (ext w x) fun e w' => e = .returned v ∧ ext w x = w') : Calls P f args (ext w x) fun e w'' => e = .returned v ∧ ∃ y, w'' = ext w y :=
  h.mono fun _ _ ⟨he, hb⟩ => ⟨he, x, hb.symm⟩
theorem Calls.ext_drew {P : Program} {f : FuncId} {args : Array Value} {w x : World} {v : Value}
    (h : Calls P f args (ext w x) fun e w' => e = .returned v ∧ ∃ m, w' = (ext w x).drewN m) : Calls P f args (ext w x) fun e w'' => e = .returned v ∧ ∃ y, w'' = ext w y :=
  Calls.ext_of (h.mono fun _ _ ⟨he, m, hb⟩ => ⟨he, by rw [hb]; exact below_drewN (Below.refl _ _) m⟩)

theorem keepB {B : Nat} {a W W' : World} (h2 : Below W.heap.size W W') (h1 : Below B a W) (hB : B ≤ W.heap.size) : Below B a W' := h1.trans (h2.mono hB)
/-- world after world -/
theorem Below.step {w w1 w2 : World} (h1 : Below w.heap.size w w1) (h2 : Below w1.heap.size w1 w2) : Below w.heap.size w w2 := h1.trans (h2.mono h1.size)

/-! ## Boxes: blocks that the call itself has laid, known whole -/
theorem box_new (w : World) (vs : Array Value) (t : TypeId) (o : Nat) : (w.alloc (.cells vs t)).cell? ⟨w.heap.size, o, none⟩ = vs[o]? := cell_of_row _ _ _ _ _ _ (heap_alloc_new w _)
theorem box_frz (w : World) (vs : Array Value) (t : TypeId) (o : Nat) : (w.alloc (.cells vs t)).frozen? ⟨w.heap.size, o, none⟩ = false := by
  unfold World.frozen?
  rw [heap_alloc_new]
  simp
/-- a box that the call has just laid, behind a callee -/
theorem box_call {w w1 : World} {vs : Array Value} {t : TypeId} (h : Below (w.alloc (.cells vs t)).heap.size (w.alloc (.cells vs t)) w1) (o : Nat) : w1.cell? ⟨w.heap.size, o, none⟩ = vs[o]? := by
  rw [h.cell (p := ⟨w.heap.size, o, none⟩) (by simp)]; exact box_new w vs t o
theorem box_size {w w1 : World} {vs : Array Value} {t : TypeId} (h : Below (w.alloc (.cells vs t)).heap.size (w.alloc (.cells vs t)) w1) : w.heap.size < w1.heap.size := by
  have := h.size; simp at this; omega
theorem frz_call {w w1 : World} {vs : Array Value} {t : TypeId} (h : Below (w.alloc (.cells vs t)).heap.size (w.alloc (.cells vs t)) w1) (o : Nat) : w1.frozen? ⟨w.heap.size, o, none⟩ = false := by
  rw [h.frozen (p := ⟨w.heap.size, o, none⟩) (by simp)]; exact box_frz w vs t o
/-- a box behind one callee more -/
theorem box_step {w1 w2 : World} {b : Nat} {vs : Array Value} (h : ∀ o, w1.cell? ⟨b, o, none⟩ = vs[o]?) (hlt : b < w1.heap.size) (hb : Below w1.heap.size w1 w2) (o : Nat) : w2.cell? ⟨b, o, none⟩ = vs[o]? := by
  rw [hb.cell (p := ⟨b, o, none⟩) hlt]; exact h o
theorem frz_step {w1 w2 : World} {b : Nat} (h : ∀ o, w1.frozen? ⟨b, o, none⟩ = false) (hlt : b < w1.heap.size) (hb : Below w1.heap.size w1 w2) (o : Nat) : w2.frozen? ⟨b, o, none⟩ = false := by
  rw [hb.frozen (p := ⟨b, o, none⟩) hlt]; exact h o
theorem below_alloc (w : World) (o : Obj) : Below w.heap.size w (w.alloc o) := (Below.refl _ _).alloc (Nat.le_refl _) _

/-- a cell of a box is written -/
theorem box_set {w : World} {b : Nat} {vs : Array Value} (h : ∀ o, w.cell? ⟨b, o, none⟩ = vs[o]?) (i : Nat) (u : Value) (o : Nat) : (w.setCell ⟨b, i, none⟩ u).cell? ⟨b, o, none⟩ = (vs.setIfInBounds i u)[o]? := by
  have h0 := h o
  unfold World.cell? World.setCell at *
  simp only [Array.getElem?_modify, if_true] at *
  cases hb : w.heap[b]? with
  | none => rw [hb] at h0; simp only [Option.map_none] at *; rw [Array.getElem?_setIfInBounds]; split
            · rename_i e; subst e
              split
              · rename_i hlt; rw [Array.getElem?_eq_getElem hlt] at h0; cases h0
              · rfl
            · exact h0
  | some ob =>
    rw [hb] at h0
    cases ob with
    | cells c t fr =>
      simp only [Option.map_some, Option.isSome_none, Bool.false_eq_true, if_false] at *
      rw [Array.getElem?_setIfInBounds, Array.getElem?_setIfInBounds, h0]
      have hsz : i = o → (i < c.size ↔ i < vs.size) := fun e => by
        subst e
        constructor
        · intro hl; rw [Array.getElem?_eq_getElem hl] at h0
          exact (Array.getElem?_eq_some_iff.1 h0.symm).1
        · intro hl; rw [Array.getElem?_eq_getElem hl] at h0
          exact (Array.getElem?_eq_some_iff.1 h0).1
      by_cases e : i = o
      · rw [if_pos e, if_pos e]
        by_cases hl : i < c.size
        · rw [if_pos hl, if_pos ((hsz e).1 hl)]
        · rw [if_neg hl, if_neg (fun h => hl ((hsz e).2 h))]
      · rw [if_neg e, if_neg e]
    | _ => simp only [Option.map_some] at *; rw [Array.getElem?_setIfInBounds]; split
           · rename_i e; subst e
             split
             · rename_i hlt; rw [Array.getElem?_eq_getElem hlt] at h0; cases h0
             · rfl
           · exact h0
theorem frz_set {w : World} {b : Nat} (h : ∀ o, w.frozen? ⟨b, o, none⟩ = false) (a : Addr) (u : Value) (o : Nat) : (w.setCell a u).frozen? ⟨b, o, none⟩ = false := by
  rw [World.frozen?_setCell]; exact h o
/-- a box beside a written cell -/
theorem box_set_other {W : World} {b c : Nat} {A : Array Value} (h : ∀ o, W.cell? ⟨b, o, none⟩ = A[o]?) (hne : b ≠ c) (i : Nat) (u : Value) (o : Nat) : (W.setCell ⟨c, i, none⟩ u).cell? ⟨b, o, none⟩ = A[o]? := by
  have hx : (⟨c, i, none⟩ : Addr) ≠ ⟨b, o, none⟩ := fun e => hne (by simpa using (congrArg Addr.block e).symm)
  exact (World.cell?_setCell_other _ _ _ _ hx).trans (h o)
theorem own_ne {w : World} {base : Nat} {e : TypeId} {size : Nat} {v : Value} {n : Nat} {xs : List Value} (h : w.ownsRow base e size v n xs) {b : Nat} (hb : b < base ∨ w.heap.size ≤ b) : v.ownBlock ≠ some b := fun e => by
  have := h.lt b e; omega
theorem own_set {w : World} {base : Nat} {e : TypeId} {size : Nat} {v : Value} {n : Nat} {xs : List Value} (h : w.ownsRow base e size v n xs) {b i : Nat} (hb : v.ownBlock ≠ some b) (u : Value) : (w.setCell ⟨b, i, none⟩ u).ownsRow base e size v n xs :=
  ownsRow_setCell_other h hb u

theorem boxes1 (w : World) (A : Array Value) (tA : TypeId) :
    (∀ o, (w.alloc (.cells A tA)).cell? ⟨w.heap.size, o, none⟩ = A[o]?) ∧ (∀ o, (w.alloc (.cells A tA)).frozen? ⟨w.heap.size, o, none⟩ = false) ∧
    w.heap.size < (w.alloc (.cells A tA)).heap.size ∧ Below w.heap.size w (w.alloc (.cells A tA)) :=
  ⟨box_new w A tA, box_frz w A tA, by simp, below_alloc _ _⟩
theorem boxes2 (w : World) (A : Array Value) (tA : TypeId) (B : Array Value) (tB : TypeId) :
    (∀ o, ((w.alloc (.cells A tA)).alloc (.cells B tB)).cell? ⟨w.heap.size, o, none⟩ = A[o]?) ∧ (∀ o, ((w.alloc (.cells A tA)).alloc (.cells B tB)).cell? ⟨w.heap.size + 1, o, none⟩ = B[o]?) ∧
    (∀ o, ((w.alloc (.cells A tA)).alloc (.cells B tB)).frozen? ⟨w.heap.size, o, none⟩ = false) ∧ (∀ o, ((w.alloc (.cells A tA)).alloc (.cells B tB)).frozen? ⟨w.heap.size + 1, o, none⟩ = false) ∧
    w.heap.size + 1 < ((w.alloc (.cells A tA)).alloc (.cells B tB)).heap.size ∧ Below w.heap.size w ((w.alloc (.cells A tA)).alloc (.cells B tB)) := by
  have h := boxes1 (w.alloc (.cells A tA)) B tB
  have hs : (w.alloc (.cells A tA)).heap.size = w.heap.size + 1 := by simp
  rw [hs] at h
  obtain ⟨h1, h2, h3, h4⟩ := h
  rw [← hs] at h4
  exact ⟨box_step (box_new w A tA) (by simp) h4, h1, frz_step (box_frz w A tA) (by simp) h4, h2, h3, Below.step (below_alloc _ _) h4⟩
theorem boxes3 (w : World) (A : Array Value) (tA : TypeId) (B : Array Value) (tB : TypeId) (C : Array Value) (tC : TypeId) :
    (∀ o, (((w.alloc (.cells A tA)).alloc (.cells B tB)).alloc (.cells C tC)).cell? ⟨w.heap.size, o, none⟩ = A[o]?) ∧ (∀ o, (((w.alloc (.cells A tA)).alloc (.cells B tB)).alloc (.cells C tC)).cell? ⟨w.heap.size + 1, o, none⟩ = B[o]?) ∧ (∀ o, (((w.alloc (.cells A tA)).alloc (.cells B tB)).alloc (.cells C tC)).cell? ⟨w.heap.size + 1 + 1, o, none⟩ = C[o]?) ∧
    (∀ o, (((w.alloc (.cells A tA)).alloc (.cells B tB)).alloc (.cells C tC)).frozen? ⟨w.heap.size, o, none⟩ = false) ∧ (∀ o, (((w.alloc (.cells A tA)).alloc (.cells B tB)).alloc (.cells C tC)).frozen? ⟨w.heap.size + 1, o, none⟩ = false) ∧ (∀ o, (((w.alloc (.cells A tA)).alloc (.cells B tB)).alloc (.cells C tC)).frozen? ⟨w.heap.size + 1 + 1, o, none⟩ = false) ∧
    w.heap.size + 2 < (((w.alloc (.cells A tA)).alloc (.cells B tB)).alloc (.cells C tC)).heap.size ∧ Below w.heap.size w (((w.alloc (.cells A tA)).alloc (.cells B tB)).alloc (.cells C tC)) := by
  obtain ⟨h1, h2, h3, h4, h5, h6⟩ := boxes2 w A tA B tB
  have h := boxes1 ((w.alloc (.cells A tA)).alloc (.cells B tB)) C tC
  have hs : ((w.alloc (.cells A tA)).alloc (.cells B tB)).heap.size = w.heap.size + 1 + 1 := by simp
  rw [hs] at h
  obtain ⟨k1, k2, k3, k4⟩ := h
  rw [← hs] at k4
  exact ⟨box_step h1 (by omega) k4, box_step h2 h5 k4, k1, frz_step h3 (by omega) k4, frz_step h4 h5 k4, k2, k3, Below.step h6 k4⟩
end Go.Proofs.YtjljcifpcljlaaaDoor
/- Contracts of package buddy: end, fits, find. -/
namespace Go.Proofs.YtjljcifpcljlaaaDoor
open Go.RowKit
set_option linter.unusedVariables false

def encBk (b : Bk) : List Value := [vI b.a, vI b.o, vI b.t]
theorem encBk_length (b : Bk) : (encBk b).length = 3 := rfl
theorem encBk_cells {w : World} {g o : Nat} {r : Bk} (hc : ∀ i v, (encBk r)[i]? = some v → w.cell? ⟨g, o + i, none⟩ = some v) : w.cell? ⟨g, o, none⟩ = some (.int .i64 r.a) ∧ w.cell? ⟨g, o + 1, none⟩ = some (.int .i64 r.o) ∧ w.cell? ⟨g, o + 2, none⟩ = some (.int .i64 r.t) := ⟨hc 0 _ rfl, hc 1 _ rfl, hc 2 _ rfl⟩
theorem info_bk : (Tryd.prog.info? 40).map (fun i => (i.zero, i.size, i.bytes)) = some (some (.agg #[.int .i64 0, .int .i64 0, .int .i64 0]), 3, 24) := by kernel_rfl
theorem encBk_one (l : List Bk) : ∀ u ∈ flat encBk l, u.oneCell' = true := by
  intro u hu
  obtain ⟨r, _, hr⟩ := List.mem_flatMap.1 hu
  simp only [encBk, List.mem_cons, List.not_mem_nil, or_false] at hr
  rcases hr with rfl | rfl | rfl <;> rfl

theorem shl_bk {o : Nat} (h : o ≤ 4) : wrap64 (2 ^ o) = ((2 ^ o : Nat) : Int) := by
  obtain rfl | rfl | rfl | rfl | rfl : o = 0 ∨ o = 1 ∨ o = 2 ∨ o = 3 ∨ o = 4 := by omega
  all_goals decide +kernel
theorem pow_bk {o : Nat} (h : o ≤ 4) : 1 ≤ 2 ^ o ∧ 2 ^ o ≤ 16 := by rcases pow_le4 h with h | h | h | h | h <;> omega

theorem end_bk (b : Bk) (w : World) (ho : b.o ≤ 4) (ha : b.a ≤ 1000) :
    Calls Tryd.prog 59 #[.agg #[.int .i64 b.a, .int .i64 b.o, .int .i64 b.t]] w fun e w' => e = .returned (.int .i64 (b.fin : Int)) ∧ Below w.heap.size w w' := by
  have hs := shl_bk ho
  have hp := pow_bk ho
  unfold Bk.fin
  generalize 2 ^ b.o = s at *
  go_enter Tryd.func59, Tryd.ntmps59
  go_wp2_with fail
  go_quiet (fail)
  go_wp2
  go_ret
  refine ⟨ret_int (by simp), Below.step (below_alloc _ _) (below_drewN (Below.refl _ _) _)⟩

theorem fits_yes (f e : Nat) (a1 a2 : Option Addr) (n1 n2 c1 c2 : Nat) (b : Bk) (w : World) (h : fitsB f e b.a b.o) (he : e ≤ 256) :
    Calls Tryd.prog 58 #[.agg #[.int .i64 f, .int .i64 e, .slice a1 n1 c1, .slice a2 n2 c2], .agg #[.int .i64 b.a, .int .i64 b.o, .int .i64 b.t]] w fun e w' => e = .returned (.bool true) ∧ Below w.heap.size w w' := by
  obtain ⟨h1, h2, h3, h4⟩ := h
  have hs := shl_bk h1
  have hp := pow_bk h1
  have hm : (b.a : Int) % ((2 ^ b.o : Nat) : Int) = 0 := by rw [← Int.natCast_emod, h4]; rfl
  have d1 : decide ((b.o : Int) ≤ 4) = true := decide_eq_true (by omega)
  have d2 : decide (f ≤ b.a) = true := decide_eq_true h2
  have d3 : decide (b.a < e) = true := decide_eq_true h3
  generalize 2 ^ b.o = s at *
  go_enter Tryd.func58, Tryd.ntmps58
  go_wp2_with fail
  go_quiet (fail)
  go_wp2
  go_ret
  exact ⟨rfl, Below.step (Below.step (below_alloc _ _) (below_alloc _ _)) (below_drewN (Below.refl _ _) _)⟩

/-- a page beside the zone -/
theorem fits_no (f e p : Nat) (a1 a2 : Option Addr) (n1 n2 c1 c2 : Nat) (w : World) (h : p < f ∨ e ≤ p) (he : e ≤ 256) (hf : f ≤ 256) (hp : p ≤ 1000) :
    Calls Tryd.prog 58 #[.agg #[.int .i64 f, .int .i64 e, .slice a1 n1 c1, .slice a2 n2 c2], .agg #[.int .i64 p, .int .i64 0, .int .i64 0]] w fun e w' => e = .returned (.bool false) ∧ Below w.heap.size w w' := by
  by_cases h1 : p < f
  · have d1 : decide (f ≤ p) = false := decide_eq_false (by omega)
    go_enter Tryd.func58, Tryd.ntmps58
    go_wp2_with fail
    go_quiet (fail)
    go_wp2
    go_ret
    exact ⟨rfl, Below.step (Below.step (below_alloc _ _) (below_alloc _ _)) (below_drewN (Below.refl _ _) _)⟩
  · have d1 : decide (f ≤ p) = true := decide_eq_true (by omega)
    have d2 : decide (p < e) = false := decide_eq_false (by omega)
    go_enter Tryd.func58, Tryd.ntmps58
    go_wp2_with fail
    go_quiet (fail)
    go_wp2
    go_ret
    exact ⟨rfl, Below.step (Below.step (below_alloc _ _) (below_alloc _ _)) (below_drewN (Below.refl _ _) _)⟩

theorem cmp_bk (b : Bk) (p : Nat) (w : World) (ha : b.a ≤ 1000) (hp : p ≤ 1000) :
    Calls Tryd.prog 86 #[.agg #[.int .i64 b.a, .int .i64 b.o, .int .i64 b.t], .int .i64 p] w fun e w' => e = .returned (.int .i64 ((b.a : Int) - p)) ∧ Below w.heap.size w w' := by
  go_enter Tryd.func86, Tryd.ntmps86
  go_wp2
  go_ret
  exact ⟨rfl, below_alloc _ _⟩

theorem lb_iff {l : List Bk} (h : Rise l) {a k : Nat} (hk : k < l.length) : k < lb l a ↔ l[k].a < a := by
  constructor
  · intro hlt
    exact lb_below _ (List.mem_take_iff_getElem.2 ⟨k, by omega, rfl⟩)
  · intro hlt
    rcases Nat.lt_or_ge k (lb l a) with h1 | h1
    · exact h1
    · have := lb_above h (a := a) l[k] (List.mem_drop_iff_getElem.2 ⟨k - lb l a, by omega, by congr 1; omega⟩)
      omega
/-- is there a block at this place? -/
def hasB (l : List Bk) (a : Nat) : Bool := l.any fun b => decide (b.a = a)
theorem hasB_at {l : List Bk} (h : Rise l) {a : Nat} (hk : lb l a < l.length) : hasB l a = decide (l[lb l a].a = a) := by
  unfold hasB
  cases hd : decide (l[lb l a].a = a) with
  | true => rw [List.any_eq_true]; exact ⟨_, List.getElem_mem hk, hd⟩
  | false =>
    rw [List.any_eq_false]
    intro b hb he
    have he := of_decide_eq_true he
    have := lb_hit h hb
    rw [he, List.getElem?_eq_getElem hk] at this
    have hbb : l[lb l a] = b := by simpa using this
    exact of_decide_eq_false hd (by rw [hbb]; exact he)
theorem hasB_end {l : List Bk} (h : Rise l) {a : Nat} (hk : l.length ≤ lb l a) : hasB l a = false := by
  unfold hasB
  rw [List.any_eq_false]
  intro b hb he
  have he := of_decide_eq_true he
  have := lb_hit h hb
  rw [he, List.getElem?_eq_none hk] at this
  cases this

set_option maxRecDepth 100000 in
theorem search_bk (a : Option Addr) (n cap : Nat) (l : List Bk) (p : Nat) (w : World) (hn : l.length = n) (hl : n ≤ 1000) (hr : Row w a (flat encBk l)) (hrise : Rise l) (ha : ∀ b ∈ l, b.a ≤ 1000) (hp : p ≤ 1000) :
    Calls Tryd.prog 66 #[.slice a n cap, .int .i64 p, .func (.func 86) #[] #[]] w fun e w' => e = .returned (.tuple #[.int .i64 (lb l p : Int), .bool (hasB l p)]) ∧ Below w.heap.size w w' := by
  subst hn
  have hle := lb_le l p
  have eg : ∀ args w, (callFunc 86 args).run Tryd.prog w = .ok (.enter 86 args) w := enters_of Tryd.func86 (by kernel_rfl) rfl
  go_enter Tryd.func66, Tryd.ntmps66
  go_wp2
  go_loopw [9, 10, 11] (fun s9 s10 _ wr => ∃ i j : Nat, i ≤ lb l p ∧ lb l p ≤ j ∧ j ≤ l.length ∧ s9 = .int .i64 i ∧ s10 = .int .i64 j ∧ Below w.heap.size w wr) (fun s9 s10 _ _ => (intOf s10).toNat - (intOf s9).toNat)
  case atStart => exact ⟨0, l.length, Nat.zero_le _, hle, Nat.le_refl _, rfl, rfl, Below.refl _ _⟩
  case round =>
    obtain ⟨i, j, h1, h2, h3, rfl, rfl, hb3⟩ := hrel
    by_cases hlt : i < j
    · have hhl : (i + j) / 2 < l.length := by omega
      have hiff := Hid.mk (lb_iff hrise (a := p) hhl)
      obtain ⟨b, off, rfl, hb, hc⟩ := row_elem encBk_length (by decide) (hr.below hb3) hhl
      obtain ⟨hc0, hc1, hc2⟩ := encBk_cells hc
      have hal := ha _ (List.getElem_mem hhl)
      clear hr hc
      generalize l[(i + j) / 2] = y at *
      go_wp2_with fail
      refine (cmp_bk y p _ hal hp).mono ?_
      rintro e w1 ⟨rfl, hb1⟩
      have hb4 := Below.step hb3 hb1
      clear hc0 hc1 hc2
      by_cases hlt2 : y.a < p
      · have h4 := hiff.out.2 hlt2
        have h5 : (y.a : Int) - p < 0 := by omega
        go_wp2
        go_roundw
        case rel => exact ⟨(i + j) / 2 + 1, j, by omega, h2, h3, by go_num, rfl, hb4⟩
        case measure => simp [intOf]; omega
      · have h4 : ¬ (i + j) / 2 < lb l p := fun h => hlt2 (hiff.out.1 h)
        have h5 : ¬ (y.a : Int) - p < 0 := by omega
        go_wp2
        go_roundw
        case rel => exact ⟨i, (i + j) / 2, h1, by omega, by omega, rfl, by go_num, hb4⟩
        case measure => simp [intOf]; omega
    · obtain rfl : i = lb l p := by omega
      have hkk : (lb l p : Int) ≤ l.length := by omega
      by_cases hk : lb l p < l.length
      · obtain ⟨b, off, rfl, hb, hc⟩ := row_elem encBk_length (by decide) (hr.below hb3) hk
        obtain ⟨hc0, hc1, hc2⟩ := encBk_cells hc
        have hal := ha _ (List.getElem_mem hk)
        have hat := Hid.mk (hasB_at hrise (a := p) hk)
        have hk2 : (lb l p : Int) < l.length := by omega
        clear hr hc
        generalize l[lb l p] = y at *
        generalize hK0 : lb l p = K at *
        have HK := Hid.mk hK0
        clear hK0
        go_wp2_with fail
        refine (cmp_bk y p _ hal hp).mono ?_
        rintro e w1 ⟨rfl, hb1⟩
        have hb4 := Below.step hb3 hb1
        clear hc0 hc1 hc2
        by_cases hy : y.a = p
        · have h5 : ((y.a : Int) - p == 0) = true := by rw [beq_iff_eq]; omega
          go_wp2
          go_ret2
          refine ⟨?_, hb4⟩
          rw [hat.out, HK.out, decide_eq_true hy]; rfl
        · have h5 : ((y.a : Int) - p == 0) = false := by rw [beq_eq_false_iff_ne]; omega
          go_wp2
          go_ret2
          refine ⟨?_, hb4⟩
          rw [hat.out, HK.out, decide_eq_false hy]; rfl
      · have hat := Hid.mk (hasB_end hrise (a := p) (by omega))
        have hk2 : ¬ (lb l p : Int) < l.length := by omega
        clear hr
        generalize hK0 : lb l p = K at *
        have HK := Hid.mk hK0
        clear hK0
        go_wp2
        go_ret2
        refine ⟨?_, hb3⟩
        rw [hat.out, HK.out]; rfl
end Go.Proofs.YtjljcifpcljlaaaDoor
/- Contracts of package buddy: find, Copy, and the library's Clone, IndexFunc, ContainsFunc at Block and int. -/
namespace Go.Proofs.YtjljcifpcljlaaaDoor
open Go.RowKit
set_option linter.unusedVariables false

/-! ## Types of page groups -/
def encT (t : Nat) : List Value := [vI t]
theorem encT_length (t : Nat) : (encT t).length = 1 := rfl
theorem encT_cells {w : World} {g o : Nat} {r : Nat} (hc : ∀ i v, (encT r)[i]? = some v → w.cell? ⟨g, o + i, none⟩ = some v) : w.cell? ⟨g, o, none⟩ = some (.int .i64 r) := hc 0 _ rfl
theorem info_int : (Tryd.prog.info? 3).map (fun i => (i.zero, i.size, i.bytes)) = some (some (.int .i64 0), 1, 8) := by kernel_rfl
theorem encT_one (l : List Nat) : ∀ u ∈ flat encT l, u.oneCell' = true := by
  intro u hu
  obtain ⟨r, _, hr⟩ := List.mem_flatMap.1 hu
  simp only [encT, List.mem_cons, List.not_mem_nil, or_false] at hr
  subst hr; rfl

def findI {α : Type} (p : α → Bool) (xs : List α) : Int := match xs.findIdx? p with | some i => (i : Int) | none => -1
theorem findI_hit {α : Type} {p : α → Bool} {xs : List α} {k : Nat} (hk : k < xs.length) (h : p xs[k] = true) (hn : ∀ x ∈ xs.take k, p x = false) : findI p xs = k := by
  have e : xs.findIdx? p = some k := by
    rw [List.findIdx?_eq_some_iff_getElem]
    refine ⟨hk, h, fun j hj => ?_⟩
    have := hn (xs[j]'(by omega)) (by rw [List.mem_take_iff_getElem]; exact ⟨j, by omega, rfl⟩)
    simp [this]
  simp [findI, e]
theorem findI_miss {α : Type} {p : α → Bool} {xs : List α} (hn : ∀ x ∈ xs, p x = false) : findI p xs = -1 := by
  have e : xs.findIdx? p = none := by rw [List.findIdx?_eq_none_iff]; exact hn
  simp [findI, e]
theorem findI_nonneg {α : Type} (p : α → Bool) (xs : List α) : decide (0 ≤ findI p xs) = xs.any p := by
  unfold findI
  cases h : xs.findIdx? p with
  | none => rw [List.findIdx?_eq_none_iff] at h; symm; simpa using h
  | some i => rw [List.findIdx?_eq_some_iff_getElem] at h; obtain ⟨hi, hp, _⟩ := h; symm; simp only [Int.natCast_nonneg, decide_true, List.any_eq_true]; exact ⟨_, List.getElem_mem hi, hp⟩

/-- slices.Clone at api.Block -/
theorem cloneBk (a : Option Addr) (n cap : Nat) (xs : List Bk) (w : World) (hn : xs.length = n) (hl : n * 24 ≤ 140737488355328) (hr : Row w a (flat encBk xs)) :
    Calls Tryd.prog 62 #[.slice a n cap] w fun e w' => ∃ a' c', e = .returned (.slice a' n c') ∧ w'.ownsRow w.heap.size 40 3 (.slice a' n c') n (flat encBk xs) ∧ Below w.heap.size w w' := by
  have q22 : ∀ (w : World) (a : Option Addr) (n c n' c' : Nat), (binOp .eql 32 (.slice a n c) (.slice none n' c')).run Tryd.prog w = .ok (.bool a.isNone) w := fun w a n c n' c' => Lib.run_eql_slice_nil w _ _ a n c n' c' Tryd.underlying32
  subst hn
  cases a with
  | none =>
    have hx : xs = [] := by
      cases xs with
      | nil => rfl
      | cons u l => obtain ⟨b, off, e1, _⟩ := row_elem encBk_length (by decide) hr (j := 0) (by simp); cases e1
    subst hx
    go_enter Tryd.func62, Tryd.ntmps62
    go_wp2
    go_ret
    exact ⟨none, 0, rfl, World.ownsRow_nil _ _ _ _, Below.refl _ _⟩
  | some ad =>
    go_enter Tryd.func62, Tryd.ntmps62
    go_wp2_with (at_builtin; refine wpList_app rfl _ _ 32 rfl w.heap.size 40 (.agg #[.int .i64 0, .int .i64 0, .int .i64 0]) 3 24 Tryd.underlying32 info_bk rfl (by decide) (by decide) _ _ _ _ rfl (World.ownsRow_made w #[] 0 (Nat.le_refl _) (Nat.zero_le _) (by simp)) (some ad) xs.length cap (flat encBk xs) rfl ?q1 ?q2 ?q3 ?q4 ?q5 ?_)
    case q1 => exact flat_length encBk_length xs
    case q2 => exact hr.below (below_alloc _ _)
    case q3 => exact encBk_one xs
    case q4 => rw [Nat.zero_add]; exact hl
    case q5 => simp
    intro a' c' w1 hown hgrow
    go_wp2
    go_ret
    exact ⟨a', c', rfl, hown, (below_alloc w _).grown hgrow (by simp) (by intro k hk; simp [Value.ownBlock] at hk; omega)⟩

/-- slices.Clone at int -/
theorem cloneT (a : Option Addr) (n cap : Nat) (xs : List Nat) (w : World) (hn : xs.length = n) (hl : n * 8 ≤ 140737488355328) (hr : Row w a (flat encT xs)) :
    Calls Tryd.prog 51 #[.slice a n cap] w fun e w' => ∃ a' c', e = .returned (.slice a' n c') ∧ w'.ownsRow w.heap.size 3 1 (.slice a' n c') n (flat encT xs) ∧ Below w.heap.size w w' := by
  have q22 : ∀ (w : World) (a : Option Addr) (n c n' c' : Nat), (binOp .eql 30 (.slice a n c) (.slice none n' c')).run Tryd.prog w = .ok (.bool a.isNone) w := fun w a n c n' c' => Lib.run_eql_slice_nil w _ _ a n c n' c' Tryd.underlying30
  subst hn
  cases a with
  | none =>
    have hx : xs = [] := by
      cases xs with
      | nil => rfl
      | cons u l => obtain ⟨b, off, e1, _⟩ := row_elem encT_length (by decide) hr (j := 0) (by simp); cases e1
    subst hx
    go_enter Tryd.func51, Tryd.ntmps51
    go_wp2
    go_ret
    exact ⟨none, 0, rfl, World.ownsRow_nil _ _ _ _, Below.refl _ _⟩
  | some ad =>
    go_enter Tryd.func51, Tryd.ntmps51
    go_wp2_with (at_builtin; refine wpList_app rfl _ _ 30 rfl w.heap.size 3 (.int .i64 0) 1 8 Tryd.underlying30 info_int rfl (by decide) (by decide) _ _ _ _ rfl (World.ownsRow_made w #[] 0 (Nat.le_refl _) (Nat.zero_le _) (by simp)) (some ad) xs.length cap (flat encT xs) rfl ?q1 ?q2 ?q3 ?q4 ?q5 ?_)
    case q1 => exact flat_length encT_length xs
    case q2 => exact hr.below (below_alloc _ _)
    case q3 => exact encT_one xs
    case q4 => rw [Nat.zero_add]; exact hl
    case q5 => simp
    intro a' c' w1 hown hgrow
    go_wp2
    go_ret
    exact ⟨a', c', rfl, hown, (below_alloc w _).grown hgrow (by simp) (by intro k hk; simp [Value.ownBlock] at hk; omega)⟩

/-- slices.IndexFunc at api.Block, with a predicate that may lay blocks of its own -/
theorem indexFuncBk (a : Option Addr) (n cap : Nat) (l : List Bk) (g : Nat) (lb : Array Value) (p : Bk → Bool) (w : World) (hn : l.length = n) (hl : n ≤ 9223372036854775807) (hr : Row w a (flat encBk l)) (eg : ∀ args w, (callFunc g args).run Tryd.prog w = .ok (.enter g args) w)
    (hp : ∀ W, Below w.heap.size w W → ∀ x ∈ l, Calls Tryd.prog g (#[.agg (encBk x).toArray] ++ lb) W fun e w' => e = .returned (.bool (p x)) ∧ Below W.heap.size W w') :
    Calls Tryd.prog 45 #[.slice a n cap, .func (.func g) #[] lb] w fun e w' => e = .returned (.int .i64 (findI p l)) ∧ Below w.heap.size w w' := by
  subst hn
  go_enter Tryd.func45, Tryd.ntmps45
  go_wp2
  go_loopw [5, 8] (fun _ s8 wr => ∃ k : Nat, k ≤ l.length ∧ s8 = .int .i64 k ∧ Hid (∀ x ∈ l.take k, p x = false) ∧ Below w.heap.size w wr) (fun _ s8 _ => l.length - (intOf s8).toNat)
  case atStart => exact ⟨0, Nat.zero_le _, rfl, by simp [Hid], Below.refl _ _⟩
  case round =>
    obtain ⟨k, hk, rfl, hnot, hbw⟩ := hrel
    by_cases hlt : k < l.length
    · obtain ⟨b, off, rfl, hb, hc⟩ := row_elem encBk_length (by decide) (hr.below hbw) hlt
      obtain ⟨hc0, hc1, hc2⟩ := encBk_cells hc
      skip
      have hcall := hp wr hbw l[k] (List.getElem_mem hlt)
      clear hr hp hc
      cases hv : p l[k] with
      | true =>
        have HH := Hid.mk (findI_hit hlt hv hnot.out)
        rw [hv] at hcall
        generalize l[k] = y at *
        go_wp2_with (go_at_fn g; refine hcall.mono ?_; rintro e w' ⟨rfl, hb'⟩)
        go_ret
        exact ⟨ret_int HH.out.symm, Below.step hbw hb'⟩
      | false =>
        rw [hv] at hcall
        have HH : Hid (∀ x ∈ l.take (k + 1), p x = false) := fun x hx => by
          rw [List.take_succ_eq_append_getElem hlt, List.mem_append, List.mem_singleton] at hx
          rcases hx with hx | rfl
          · exact hnot.out x hx
          · exact hv
        generalize l[k] = y at *
        go_wp2_with (go_at_fn g; refine hcall.mono ?_; rintro e w' ⟨rfl, hb'⟩)
        go_roundw
        case rel => exact ⟨k + 1, by omega, by go_num, HH.out, Below.step hbw hb'⟩
        case measure => simp [intOf]; omega
    · obtain rfl : k = l.length := by omega
      go_wp2
      go_ret
      exact ⟨ret_int (findI_miss (by simpa [Hid] using hnot)).symm, hbw⟩

/-- slices.ContainsFunc at api.Block -/
theorem containsFuncBk (a : Option Addr) (n cap : Nat) (l : List Bk) (g : Nat) (lb : Array Value) (p : Bk → Bool) (w : World) (hn : l.length = n) (hl : n ≤ 9223372036854775807) (hr : Row w a (flat encBk l)) (eg : ∀ args w, (callFunc g args).run Tryd.prog w = .ok (.enter g args) w)
    (hp : ∀ W, Below w.heap.size w W → ∀ x ∈ l, Calls Tryd.prog g (#[.agg (encBk x).toArray] ++ lb) W fun e w' => e = .returned (.bool (p x)) ∧ Below W.heap.size W w') :
    Calls Tryd.prog 20 #[.slice a n cap, .func (.func g) #[] lb] w fun e w' => e = .returned (.bool (l.any p)) ∧ Below w.heap.size w w' := by
  go_enter Tryd.func20, Tryd.ntmps20
  go_wp2_with (go_at_call 45; refine (indexFuncBk _ _ _ l _ _ p _ hn hl hr eg hp).mono ?_; rintro e w' ⟨rfl, hb'⟩)
  go_ret
  exact ⟨ret_bool (findI_nonneg p l), hb'⟩

/-- slices.IndexFunc at int, with a predicate that may lay blocks of its own -/
theorem indexFuncT (a : Option Addr) (n cap : Nat) (l : List Nat) (g : Nat) (lb : Array Value) (p : Nat → Bool) (w : World) (hn : l.length = n) (hl : n ≤ 9223372036854775807) (hr : Row w a (flat encT l)) (eg : ∀ args w, (callFunc g args).run Tryd.prog w = .ok (.enter g args) w)
    (hp : ∀ W, Below w.heap.size w W → ∀ x ∈ l, Calls Tryd.prog g (#[.int .i64 (x : Int)] ++ lb) W fun e w' => e = .returned (.bool (p x)) ∧ Below W.heap.size W w') :
    Calls Tryd.prog 60 #[.slice a n cap, .func (.func g) #[] lb] w fun e w' => e = .returned (.int .i64 (findI p l)) ∧ Below w.heap.size w w' := by
  subst hn
  go_enter Tryd.func60, Tryd.ntmps60
  go_wp2
  go_loopw [5, 8] (fun _ s8 wr => ∃ k : Nat, k ≤ l.length ∧ s8 = .int .i64 k ∧ Hid (∀ x ∈ l.take k, p x = false) ∧ Below w.heap.size w wr) (fun _ s8 _ => l.length - (intOf s8).toNat)
  case atStart => exact ⟨0, Nat.zero_le _, rfl, by simp [Hid], Below.refl _ _⟩
  case round =>
    obtain ⟨k, hk, rfl, hnot, hbw⟩ := hrel
    by_cases hlt : k < l.length
    · obtain ⟨b, off, rfl, hb, hc⟩ := row_elem encT_length (by decide) (hr.below hbw) hlt
      obtain hc0 := encT_cells hc
      rw [Nat.mul_one] at hc0
      have hcall := hp wr hbw l[k] (List.getElem_mem hlt)
      clear hr hp hc
      cases hv : p l[k] with
      | true =>
        have HH := Hid.mk (findI_hit hlt hv hnot.out)
        rw [hv] at hcall
        generalize l[k] = y at *
        go_wp2_with (go_at_fn g; refine hcall.mono ?_; rintro e w' ⟨rfl, hb'⟩)
        go_ret
        exact ⟨ret_int HH.out.symm, Below.step hbw hb'⟩
      | false =>
        rw [hv] at hcall
        have HH : Hid (∀ x ∈ l.take (k + 1), p x = false) := fun x hx => by
          rw [List.take_succ_eq_append_getElem hlt, List.mem_append, List.mem_singleton] at hx
          rcases hx with hx | rfl
          · exact hnot.out x hx
          · exact hv
        generalize l[k] = y at *
        go_wp2_with (go_at_fn g; refine hcall.mono ?_; rintro e w' ⟨rfl, hb'⟩)
        go_roundw
        case rel => exact ⟨k + 1, by omega, by go_num, HH.out, Below.step hbw hb'⟩
        case measure => simp [intOf]; omega
    · obtain rfl : k = l.length := by omega
      go_wp2
      go_ret
      exact ⟨ret_int (findI_miss (by simpa [Hid] using hnot)).symm, hbw⟩

/-- slices.ContainsFunc at int -/
theorem containsFuncT (a : Option Addr) (n cap : Nat) (l : List Nat) (g : Nat) (lb : Array Value) (p : Nat → Bool) (w : World) (hn : l.length = n) (hl : n ≤ 9223372036854775807) (hr : Row w a (flat encT l)) (eg : ∀ args w, (callFunc g args).run Tryd.prog w = .ok (.enter g args) w)
    (hp : ∀ W, Below w.heap.size w W → ∀ x ∈ l, Calls Tryd.prog g (#[.int .i64 (x : Int)] ++ lb) W fun e w' => e = .returned (.bool (p x)) ∧ Below W.heap.size W w') :
    Calls Tryd.prog 34 #[.slice a n cap, .func (.func g) #[] lb] w fun e w' => e = .returned (.bool (l.any p)) ∧ Below w.heap.size w w' := by
  go_enter Tryd.func34, Tryd.ntmps34
  go_wp2_with (go_at_call 60; refine (indexFuncT _ _ _ l _ _ p _ hn hl hr eg hp).mono ?_; rintro e w' ⟨rfl, hb'⟩)
  go_ret
  exact ⟨ret_bool (findI_nonneg p l), hb'⟩


/-! ## Zones in memory -/
structure ZAt (w : World) (a1 a2 : Option Addr) (n1 n2 : Nat) (z : Zn) : Prop where
  l1 : z.l.length = n1
  l2 : z.y.length = n2
  r1 : Row w a1 (flat encBk z.l)
  r2 : Row w a2 (flat encT z.y)
theorem ZAt.below {w w' : World} {a1 a2 : Option Addr} {n1 n2 : Nat} {z : Zn} (h : ZAt w a1 a2 n1 n2 z) (hb : Below w.heap.size w w') : ZAt w' a1 a2 n1 n2 z := ⟨h.l1, h.l2, h.r1.below hb, h.r2.below hb⟩
structure ZOwn (w : World) (base : Nat) (a1 a2 : Option Addr) (n1 n2 c1 c2 : Nat) (z : Zn) : Prop where
  l1 : z.l.length = n1
  l2 : z.y.length = n2
  o1 : w.ownsRow base 40 3 (.slice a1 n1 c1) n1 (flat encBk z.l)
  o2 : w.ownsRow base 3 1 (.slice a2 n2 c2) n2 (flat encT z.y)
section
variable {w : World} {bs : Nat} {a1 a2 : Option Addr} {n1 n2 c1 c2 : Nat} {z : Zn}
theorem ZOwn.at (h : ZOwn w bs a1 a2 n1 n2 c1 c2 z) : ZAt w a1 a2 n1 n2 z := ⟨h.l1, h.l2, own_row h.o1, own_row h.o2⟩
theorem ZOwn.below {w' : World} (h : ZOwn w bs a1 a2 n1 n2 c1 c2 z) (hb : Below w.heap.size w w') : ZOwn w' bs a1 a2 n1 n2 c1 c2 z := ⟨h.l1, h.l2, own_below h.o1 hb (Nat.le_refl _), own_below h.o2 hb (Nat.le_refl _)⟩
theorem ZOwn.base {base' : Nat} (h : ZOwn w bs a1 a2 n1 n2 c1 c2 z) (hb : base' ≤ bs) : ZOwn w base' a1 a2 n1 n2 c1 c2 z := ⟨h.l1, h.l2, own_base h.o1 hb, own_base h.o2 hb⟩
theorem ZOwn.set (h : ZOwn w bs a1 a2 n1 n2 c1 c2 z) {g : Nat} (hg : (Value.slice a1 n1 c1).ownBlock ≠ some g ∧ (Value.slice a2 n2 c2).ownBlock ≠ some g) (i : Nat) (u : Value) : ZOwn (w.setCell ⟨g, i, none⟩ u) bs a1 a2 n1 n2 c1 c2 z := ⟨h.l1, h.l2, own_set h.o1 hg.1 u, own_set h.o2 hg.2 u⟩
theorem ZOwn.ne (h : ZOwn w bs a1 a2 n1 n2 c1 c2 z) {g : Nat} (hg : g < bs ∨ w.heap.size ≤ g) : (Value.slice a1 n1 c1).ownBlock ≠ some g ∧ (Value.slice a2 n2 c2).ownBlock ≠ some g := ⟨own_ne h.o1 hg, own_ne h.o2 hg⟩
end

theorem find_ok (a1 a2 : Option Addr) (n1 n2 c1 c2 : Nat) (f e : Nat) (z : Zn) (p : Nat) (w : World) (hat : ZAt w a1 a2 n1 n2 z) (hl : n1 ≤ 1000) (hrise : Rise z.l) (ha : ∀ b ∈ z.l, b.a ≤ 1000) (hp : p ≤ 1000) :
    Calls Tryd.prog 79 #[.agg #[.int .i64 f, .int .i64 e, .slice a1 n1 c1, .slice a2 n2 c2], .int .i64 p] w fun e w' => e = .returned (.tuple #[.int .i64 (lb z.l p : Int), .bool (hasB z.l p)]) ∧ Below w.heap.size w w' := by
  have hb := below_alloc w (.cells #[.int .i64 (f : Int), .int .i64 (e : Int), .slice a1 n1 c1, .slice a2 n2 c2] 55)
  have hr := (hat.below hb).r1
  have l1 := hat.l1
  clear hat
  go_enter Tryd.func79, Tryd.ntmps79
  go_wp2_with fail
  refine (search_bk _ _ _ z.l p _ l1 hl hr hrise ha hp).mono ?_
  rintro e w' ⟨rfl, hb'⟩
  go_wp2
  go_ret2
  exact ⟨rfl, Below.step hb hb'⟩
end Go.Proofs.YtjljcifpcljlaaaDoor
/- Contracts of package buddy: Copy. -/
namespace Go.Proofs.YtjljcifpcljlaaaDoor
open Go.RowKit
set_option linter.unusedVariables false

set_option maxHeartbeats 2000000 in
set_option maxRecDepth 100000 in
theorem copy_ok (a1 a2 : Option Addr) (n1 n2 c1 c2 : Nat) (f e : Nat) (z : Zn) (w : World) (hat : ZAt w a1 a2 n1 n2 z) (hl1 : n1 ≤ 1000) (hl2 : n2 ≤ 1000) :
    Calls Tryd.prog 63 #[.agg #[.int .i64 f, .int .i64 e, .slice a1 n1 c1, .slice a2 n2 c2]] w fun ev w' => ∃ a1' a2' c1' c2', ev = .returned (.agg #[.int .i64 f, .int .i64 e, .slice a1' n1 c1', .slice a2' n2 c2']) ∧ ZOwn w' w.heap.size a1' a2' n1 n2 c1' c2' z ∧ Below w.heap.size w w' := by
  obtain ⟨K0, K1, F0, F1, hsz, hbw⟩ := boxes2 w #[.int .i64 (f : Int), .int .i64 (e : Int), .slice a1 n1 c1, .slice a2 n2 c2] 55 #[.int .i64 0, .int .i64 0, .slice none 0 0, .slice none 0 0] 55
  obtain ⟨l1, l2, q1, q2⟩ := hat.below hbw
  clear hat
  go_enter Tryd.func63, Tryd.ntmps63
  go_wp2_with fail
  generalize (w.alloc (.cells #[.int .i64 (f : Int), .int .i64 (e : Int), .slice a1 n1 c1, .slice a2 n2 c2] 55)).alloc (.cells #[.int .i64 0, .int .i64 0, .slice none 0 0, .slice none 0 0] 55) = w0 at *
  go_region_with (first | (go_at_call 62; refine (cloneBk _ _ _ z.l _ l1 (by omega) (q1.below (by first | exact Below.drew hb0k | exact hb0k | exact (Below.refl _ _).drew))).mono ?_; rintro ev wm ⟨am, cm, rfl, hom, hbm⟩; first | (have Km := box_step (w1 := wk) Kk Sk hbm; have Fm := frz_step (w1 := wk) Fk Sk hbm; have Sm : w.heap.size < wm.heap.size := Nat.lt_of_lt_of_le Sk hbm.size; have hb0m : Below w0.heap.size w0 wm := Below.step hb0k hbm) | (have Km := box_step (w1 := wk.drew) (fun o => Kk o) Sk hbm; have Fm := frz_step (w1 := wk.drew) (fun o => Fk o) Sk hbm; have Sm : w.heap.size < wm.heap.size := Nat.lt_of_lt_of_le Sk hbm.size; have hb0m : Below w0.heap.size w0 wm := Below.step (Below.drew hb0k) hbm) | (have Km := box_step (w1 := w0.drew) (fun o => K0 o) (show w.heap.size < w0.heap.size by omega) hbm; have Fm := frz_step (w1 := w0.drew) (fun o => F0 o) (show w.heap.size < w0.heap.size by omega) hbm; have Sm : w.heap.size < wm.heap.size := Nat.lt_of_lt_of_le (show w.heap.size < w0.heap.size by omega) hbm.size; have hb0m : Below w0.heap.size w0 wm := Below.step ((Below.refl _ _).drew) hbm)) | (go_at_call 51; refine (cloneT _ _ _ z.y _ l2 (by omega) (q2.below (by first | exact Below.drew hb0m | exact hb0m | exact (Below.refl _ _).drew))).mono ?_; rintro ev wk ⟨ak, ck, rfl, hok, hbk⟩; first | (have Kk := box_step (w1 := wm) Km Sm hbk; have Fk := frz_step (w1 := wm) Fm Sm hbk; have Sk : w.heap.size < wk.heap.size := Nat.lt_of_lt_of_le Sm hbk.size; have hb0k : Below w0.heap.size w0 wk := Below.step hb0m hbk) | (have Kk := box_step (w1 := wm.drew) (fun o => Km o) Sm hbk; have Fk := frz_step (w1 := wm.drew) (fun o => Fm o) Sm hbk; have Sk : w.heap.size < wk.heap.size := Nat.lt_of_lt_of_le Sm hbk.size; have hb0k : Below w0.heap.size w0 wk := Below.step (Below.drew hb0m) hbk) | (have Kk := box_step (w1 := w0.drew) (fun o => K0 o) (show w.heap.size < w0.heap.size by omega) hbk; have Fk := frz_step (w1 := w0.drew) (fun o => F0 o) (show w.heap.size < w0.heap.size by omega) hbk; have Sk : w.heap.size < wk.heap.size := Nat.lt_of_lt_of_le (show w.heap.size < w0.heap.size by omega) hbk.size; have hb0k : Below w0.heap.size w0 wk := Below.step ((Below.refl _ _).drew) hbk)))
  all_goals first
    | (
      have OF := own_below hom hbk (Nat.le_refl _)
      have K1k := box_step K1 (by omega) hb0k
      have F1k := frz_step F1 (by omega) hb0k
      have hz0 : w.heap.size + 1 < w0.drew.heap.size := hsz
      have hzm : w0.drew.heap.size ≤ wm.heap.size := hbm.size
      have nm1 := own_ne hom (b := w.heap.size) (.inl (by omega))
      have nm2 := own_ne hom (b := w.heap.size + 1) (.inl (by omega))
      have nk1 := own_ne hok (b := w.heap.size) (.inl (by omega))
      have nk2 := own_ne hok (b := w.heap.size + 1) (.inl (by omega))
      have HZ := Hid.mk ((show ZOwn wk w.heap.size am ak n1 n2 cm ck z from ⟨l1, l2, own_base OF (by omega), own_base hok (by omega)⟩).set (g := w.heap.size) ⟨nm1, nk1⟩ 2 (.slice am n1 cm) |>.set (g := w.heap.size) ⟨nm1, nk1⟩ 3 (.slice ak n2 ck))
      have hbw3 := Below.setCell (Below.setCell (Below.step hbw hb0k) (show w.heap.size ≤ (⟨w.heap.size, 2, none⟩ : Addr).block from Nat.le_refl _) (.slice am n1 cm)) (show w.heap.size ≤ (⟨w.heap.size, 3, none⟩ : Addr).block from Nat.le_refl _) (.slice ak n2 ck)
      have KX := box_set (box_set Kk 2 (.slice am n1 cm)) 3 (.slice ak n2 ck)
      have K1x := box_set_other (box_set_other K1k (c := w.heap.size) (by omega) 2 (.slice am n1 cm)) (c := w.heap.size) (by omega) 3 (.slice ak n2 ck)
      have F1x := frz_set (frz_set F1k ⟨w.heap.size, 2, none⟩ (.slice am n1 cm)) ⟨w.heap.size, 3, none⟩ (.slice ak n2 ck)
      clear K0 K1 F0 F1 Km Fm OF hom hok q1 q2 Kk Fk K1k F1k
      generalize (wk.setCell ⟨w.heap.size, 2, none⟩ (.slice am n1 cm)).setCell ⟨w.heap.size, 3, none⟩ (.slice ak n2 ck) = wx at *
      change ∀ o, wx.cell? ⟨w.heap.size, o, none⟩ = (#[.int .i64 (f : Int), .int .i64 (e : Int), .slice am n1 cm, .slice ak n2 ck] : Array Value)[o]? at KX
      go_wp2
      refine bodyPost_ret (v := .agg #[.int .i64 f, .int .i64 e, .slice am n1 cm, .slice ak n2 ck]) (by simp [results, Tryd.results63, go_sem, K1x]) rfl ⟨am, ak, cm, ck, rfl, ?_, ?_⟩
      · exact (((HZ.out.set ⟨nm2, nk2⟩ _ _).set ⟨nm2, nk2⟩ _ _).set ⟨nm2, nk2⟩ _ _).set ⟨nm2, nk2⟩ _ _
      · exact Below.setCell (Below.setCell (Below.setCell (Below.setCell hbw3 (by simp only; omega) _) (by simp only; omega) _) (by simp only; omega) _) (by simp only; omega) _

      )
    | (
      have OF := own_below hok hbm (Nat.le_refl _)
      have K1k := box_step K1 (by omega) hb0m
      have F1k := frz_step F1 (by omega) hb0m
      have hz0 : w.heap.size + 1 < w0.drew.heap.size := hsz
      have hzm : w0.drew.heap.size ≤ wk.heap.size := hbk.size
      have nm1 := own_ne hom (b := w.heap.size) (.inl (by omega))
      have nm2 := own_ne hom (b := w.heap.size + 1) (.inl (by omega))
      have nk1 := own_ne hok (b := w.heap.size) (.inl (by omega))
      have nk2 := own_ne hok (b := w.heap.size + 1) (.inl (by omega))
      have HZ := Hid.mk ((show ZOwn wm w.heap.size am ak n1 n2 cm ck z from ⟨l1, l2, own_base hom (by omega), own_base OF (by omega)⟩).set (g := w.heap.size) ⟨nm1, nk1⟩ 2 (.slice am n1 cm) |>.set (g := w.heap.size) ⟨nm1, nk1⟩ 3 (.slice ak n2 ck))
      have hbw3 := Below.setCell (Below.setCell (Below.step hbw hb0m) (show w.heap.size ≤ (⟨w.heap.size, 2, none⟩ : Addr).block from Nat.le_refl _) (.slice am n1 cm)) (show w.heap.size ≤ (⟨w.heap.size, 3, none⟩ : Addr).block from Nat.le_refl _) (.slice ak n2 ck)
      have KX := box_set (box_set Km 2 (.slice am n1 cm)) 3 (.slice ak n2 ck)
      have K1x := box_set_other (box_set_other K1k (c := w.heap.size) (by omega) 2 (.slice am n1 cm)) (c := w.heap.size) (by omega) 3 (.slice ak n2 ck)
      have F1x := frz_set (frz_set F1k ⟨w.heap.size, 2, none⟩ (.slice am n1 cm)) ⟨w.heap.size, 3, none⟩ (.slice ak n2 ck)
      clear K0 K1 F0 F1 Km Fm OF hom hok q1 q2 Kk Fk K1k F1k
      generalize (wm.setCell ⟨w.heap.size, 2, none⟩ (.slice am n1 cm)).setCell ⟨w.heap.size, 3, none⟩ (.slice ak n2 ck) = wx at *
      change ∀ o, wx.cell? ⟨w.heap.size, o, none⟩ = (#[.int .i64 (f : Int), .int .i64 (e : Int), .slice am n1 cm, .slice ak n2 ck] : Array Value)[o]? at KX
      go_wp2
      refine bodyPost_ret (v := .agg #[.int .i64 f, .int .i64 e, .slice am n1 cm, .slice ak n2 ck]) (by simp [results, Tryd.results63, go_sem, K1x]) rfl ⟨am, ak, cm, ck, rfl, ?_, ?_⟩
      · exact (((HZ.out.set ⟨nm2, nk2⟩ _ _).set ⟨nm2, nk2⟩ _ _).set ⟨nm2, nk2⟩ _ _).set ⟨nm2, nk2⟩ _ _
      · exact Below.setCell (Below.setCell (Below.setCell (Below.setCell hbw3 (by simp only; omega) _) (by simp only; omega) _) (by simp only; omega) _) (by simp only; omega) _

      )
end Go.Proofs.YtjljcifpcljlaaaDoor
/- 'append' onto an owned row with room; owned rows beside one that grows. No program in sight. -/
namespace Go.Proofs.YtjljcifpcljlaaaDoor
open Go.RowKit

/-- 'append' onto an owned row that has room: in place -/
theorem wpList_appr {P : Program} {w : World} {ops : Array Oper} {rest : List Oper} {o : Oper} {a : Act} {Q : Exit → Act → World → Prop} (hgd : o.guard = none) (s x : Operand) (t : TypeId)
    (ho : o.op = .call { callee := .builtin .append, args := #[s, x], argTypes := #[t, t] })
    (base : Nat) (e : TypeId) (z : Value) (size bytes : Nat) (ht : P.underlying t = some (.slice e)) (hinfo : (P.info? e).map (fun i => (i.zero, i.size, i.bytes)) = some (some z, size, bytes)) (hsz : 0 < size)
    (as_ : Option Addr) (n cs : Nat) (xs : List Value) (hs : a.eval s = .slice as_ n cs) (hown : w.ownsRow base e size (.slice as_ n cs) n xs)
    (ax : Option Addr) (m cx : Nat) (news : List Value) (hx : a.eval x = .slice ax m cx) (hl : news.length = m * size) (hnews : Row w ax news) (h1 : ∀ u ∈ news, u.oneCell' = true)
    (hroom : n + m ≤ cs)
    (h : ∀ w', w'.ownsRow base e size (.slice as_ (n + m) cs) (n + m) (xs ++ news) → w.grownBy w' (Value.ownBlock (.slice as_ n cs)) → wpList P ops Q rest (a.put o.dst (.slice as_ (n + m) cs)) w') :
    wpList P ops Q (o :: rest) a w := by
  obtain ⟨i, hi, hz, hsize, hby⟩ := info_parts hinfo
  subst hsize
  refine wpList_plain hgd fun K hK => ?_
  have hlen : (xs ++ news).length = (n + m) * i.size := by rw [List.length_append, hown.1, hl, Nat.add_mul]
  have key : ∃ w', (Builtin.append_ #[t, t] o.type #[.slice as_ n cs, .slice ax m cx]).run P w = .ok (.slice as_ (n + m) cs) w' ∧ w'.ownsRow base e i.size (.slice as_ (n + m) cs) (n + m) (xs ++ news) ∧ w.grownBy w' (Value.ownBlock (.slice as_ n cs)) := by
    rcases Nat.eq_zero_or_pos m with rfl | hm
    · obtain rfl : news = [] := List.eq_nil_of_length_eq_zero (by simpa using hl)
      refine ⟨w, ?_, by simpa using hown, ⟨rfl, rfl, rfl, Nat.le_refl _, fun _ _ _ => rfl⟩⟩
      have hf := firstCells_row (P := P) i.size 0 ax 0 cx [] (by simp) (Row.nil w ax)
      cases as_ with
      | none =>
        rcases hown.2 with ⟨hv, rfl⟩ | ⟨g, cap, cur, hv, _⟩
        · obtain rfl : cs = 0 := by simp at hv; exact hv
          cases ax <;> simp [Builtin.append_, run_underlying ht, sizeOf, typeInfo, hi, Builtin.lenOf, Builtin.firstCells, loadCells, loadCellsFrom]
        · simp at hv
      | some ad =>
        have hn : n ≤ cs := by omega
        cases ax <;> simp [Builtin.append_, run_underlying ht, sizeOf, typeInfo, hi, Builtin.lenOf, Builtin.firstCells, loadCells, loadCellsFrom, hn, storeCells]
    · have hnz : news ≠ [] := by
        intro e; subst e
        have := Nat.mul_pos hm hsz
        simp at hl; omega
      obtain ⟨ad, rfl⟩ : ∃ ad, ax = some ad := by
        cases news with
        | nil => exact absurd rfl hnz
        | cons u l => obtain ⟨b, off, e1, _⟩ := hnews 0 u rfl; exact ⟨_, e1⟩
      rcases hown.2 with ⟨hv, rfl⟩ | ⟨g, cap, cur, hv, hbg, hg, hnc, hcm, hcs, htake⟩
      · obtain ⟨rfl, rfl⟩ : as_ = none ∧ cs = 0 := by simp at hv; exact hv
        omega
      · obtain ⟨rfl, rfl⟩ : as_ = some ⟨g, 0, none⟩ ∧ cs = cap := by simpa using hv
        have hfit : n * i.size + news.length ≤ cur.size := by rw [hl, hcs, ← Nat.add_mul]; exact Nat.mul_le_mul_right _ hroom
        have hr := run_append_room (P := P) w t o.type e i ht hi g n cs cur hg ad m cx news hl (fun j u hj => by
          obtain ⟨b, off, e1, _, h5⟩ := hnews j u hj
          obtain rfl : ad = ⟨b, off, none⟩ := by simpa using e1
          rw [Addr.add_lit]; exact h5) h1 hroom hfit
        refine ⟨_, hr, ⟨hlen, .inr ⟨g, cs, _, rfl, hbg, setRow_heap w g cur _ e _ hg, hroom, hcm, ?_, ?_⟩⟩, ⟨rfl, rfl, rfl, by simp [World.setRow], fun k _ hk => setRow_other w g k _ (fun e => hk (by simp [Value.ownBlock, e]))⟩⟩
        · simp only [List.size_toArray, List.length_append, List.length_take, List.length_drop, Array.length_toList]
          omega
        · rw [htake, ← hlen]
          exact List.take_left
  obtain ⟨w', hr, h2, h3⟩ := key
  unfold Oper.wp execOp
  simp only [ho, resolve, invoke, builtin, Sem.run_bind, Sem.run_pure, Result.andThen_ok, List.map_toArray, List.map_cons, List.map_nil, hs, hx, hr]
  exact hK _ _ (h w' h2 h3)

/-- an owned row behind the growth of another -/
theorem own_grown {w w' : World} {base : Nat} {e : TypeId} {size : Nat} {v : Value} {n : Nat} {xs : List Value} (h : w.ownsRow base e size v n xs) {row : Option Nat} (hg : w.grownBy w' row) (hne : ∀ k, v.ownBlock = some k → row ≠ some k) : w'.ownsRow base e size v n xs := by
  refine ⟨h.1, ?_⟩
  rcases h.2 with h' | ⟨g, cap, cur, h1, h2, hgg, rest⟩
  · exact .inl h'
  · refine .inr ⟨g, cap, cur, h1, h2, ?_, rest⟩
    rw [hg.block g (Array.getElem?_eq_some_iff.1 hgg).1 (fun e => hne g (by rw [h1]; rfl) e.symm)]
    exact hgg

/-- 'clear' of cells behind an owned row's elements, as a run -/
theorem run_clr {P : Program} {w : World} (sT ty : TypeId) (e : TypeId) (hu : P.underlying sT = some (.slice e)) (size : Nat) (z : Value) (hz : ∀ w, (zeroValue e).run P w = .ok z w) (hzs : z.cells.size = size) (hz1 : ∀ u ∈ z.cells, u.oneCell' = true)
    (base n k c : Nat) (cc : Nat) (ao : Option Addr) (xs : List Value) (hown : w.ownsRow base e size (.slice ao n c) n xs) (hfit : n + k ≤ c) :
    ∃ w', (Builtin.clear_ #[sT] ty #[.slice (cutA ao n c size) k cc]).run P w = .ok (.tuple #[]) w' ∧ w'.ownsRow base e size (.slice ao n c) n xs ∧ w.grownBy w' (Value.ownBlock (.slice ao n c)) := by
  rcases Nat.eq_zero_or_pos k with rfl | hk
  · refine ⟨w, ?_, hown, ⟨rfl, rfl, rfl, Nat.le_refl _, fun _ _ _ => rfl⟩⟩
    cases cutA ao n c size <;> simp [Builtin.clear_, run_underlying hu]
  · rcases hown.2 with ⟨h', h2⟩ | ⟨g, cap, cur, h', hb, hg, hn, hcm, hsz, ht⟩
    · obtain ⟨rfl, rfl⟩ : ao = none ∧ c = 0 := by simp at h'; exact ⟨h'.1, h'.2.2⟩
      omega
    · obtain ⟨rfl, rfl⟩ : ao = some ⟨g, 0, none⟩ ∧ c = cap := by simpa using h'
      have hcut : cutA (some ⟨g, 0, none⟩) n c size = some ⟨g, n * size, none⟩ := by
        unfold cutA
        rw [if_neg (by omega)]
        simp [Addr.add_lit]
      have hzl : (Builtin.zeroCells z.cells k).toList.length = k * size := by rw [← hzs]; simp [Builtin.zeroCells]
      have hz1' : ∀ u ∈ (Builtin.zeroCells z.cells k).toList, u.oneCell' = true := by
        intro u hu
        simp only [Builtin.zeroCells, Array.toList_map, List.mem_map, Array.toList_range, List.mem_range] at hu
        obtain ⟨i, hi, rfl⟩ := hu
        have hpos : 0 < z.cells.size := by
          rcases Nat.eq_zero_or_pos z.cells.size with h0 | h0
          · rw [h0, Nat.mul_zero] at hi; omega
          · exact h0
        have hlt : i % z.cells.size < z.cells.size := Nat.mod_lt _ hpos
        rw [getElem!_pos z.cells (i % z.cells.size) hlt]
        exact hz1 _ (Array.getElem_mem _)
      have hnk : n * size + k * size ≤ c * size := by rw [← Nat.add_mul]; exact Nat.mul_le_mul_right _ hfit
      have hst := run_storeCells_at P g (n * size) e (Builtin.zeroCells z.cells k).toList 0 cur w hg (by rw [hzl]; omega) hz1'
      refine ⟨w.setRow g (cur.toList.take (n * size) ++ (Builtin.zeroCells z.cells k).toList ++ cur.toList.drop (n * size + (Builtin.zeroCells z.cells k).toList.length)).toArray, ?_, ?_, ?_⟩
      · obtain ⟨m, rfl⟩ : ∃ m, k = m + 1 := ⟨k - 1, by omega⟩
        simp only [Nat.add_zero] at hst
        simp [Builtin.clear_, run_underlying hu, hz, hcut, hst]
      · refine ⟨hown.1, .inr ⟨g, c, _, rfl, hb, setRow_heap w g cur _ e _ hg, hn, hcm, ?_, ?_⟩⟩
        · simp only [List.size_toArray, List.length_append, List.length_take, List.length_drop, Array.length_toList, hzl]; omega
        · have hl : (cur.toList.take (n * size)).length = n * size := by rw [List.length_take, Array.length_toList]; omega
          rw [List.append_assoc]
          rw [List.take_left' hl]; exact ht
      · exact ⟨rfl, rfl, rfl, by simp [World.setRow], fun k _ hk => setRow_other w g k _ (fun e => hk (by simp [Value.ownBlock, e]))⟩

/-- 'copy' into an owned row, as a run -/
theorem run_cp {P : Program} {w : World} (dT sT ty : TypeId) (e : TypeId) (hu : P.underlying dT = some (.slice e)) (size : Nat) (hsz : (P.info? e).map (·.size) = some size)
    (dp sp : Option Addr) (dLen dCap sLen sCap : Nat)
    (cs : List Value) (hn : cs.length = Nat.min sLen dLen * size) (hcs : Row w sp cs) (h1 : ∀ u ∈ cs, u.oneCell' = true)
    (base N co p : Nat) (ao : Option Addr) (xs : List Value) (hown : w.ownsRow base e size (.slice ao N co) N xs) (hp : 0 < cs.length → dp = ao.map (·.add (p * size))) (hdn : dp = none → cs = []) (hfit : p * size + cs.length ≤ N * size) :
    ∃ w', (Builtin.copy_ #[dT, sT] ty #[.slice dp dLen dCap, .slice sp sLen sCap]).run P w = .ok (goInt (Nat.min sLen dLen : Nat)) w' ∧ w'.ownsRow base e size (.slice ao N co) N (xs.take (p * size) ++ cs ++ xs.drop (p * size + cs.length)) ∧ w.grownBy w' (Value.ownBlock (.slice ao N co)) := by
  cases hq : P.info? e with
  | none => simp [hq] at hsz
  | some i =>
    have hi : i.size = size := by simpa [hq] using hsz
    have hf := firstCells_row (P := P) size (Nat.min sLen dLen) sp sLen sCap cs hn hcs
    by_cases hc0 : 0 < cs.length
    · obtain ⟨g, cap, cur, hv, hbg, hg, hnc, hcm, hcsz, htk⟩ : ∃ g cap cur, Value.slice ao N co = .slice (some ⟨g, 0, none⟩) N cap ∧ base ≤ g ∧ w.heap[g]? = some (.cells cur e (0, 0)) ∧ N ≤ cap ∧ cap ≤ maxLen ∧ cur.size = cap * size ∧ cur.toList.take (N * size) = xs := by
        rcases hown.2 with ⟨_, h0⟩ | h
        · rw [h0, Nat.zero_mul] at hfit; omega
        · exact h
      obtain ⟨rfl, rfl⟩ : ao = some ⟨g, 0, none⟩ ∧ co = cap := by simpa using hv
      have hdp := hp hc0
      simp only [Option.map_some, Addr.add_lit, Nat.zero_add] at hdp
      subst hdp
      have hNc : N * size ≤ cur.size := by rw [hcsz]; exact Nat.mul_le_mul_right _ hnc
      have hst := run_storeCells_at P g (p * size) e cs 0 cur w hg (by omega) h1
      refine ⟨w.setRow g (cur.toList.take (p * size) ++ cs ++ cur.toList.drop (p * size + cs.length)).toArray, ?_, ?_, ?_⟩
      · simp only [Nat.add_zero] at hst
        simp [Builtin.copy_, run_underlying hu, Builtin.lenOf, sizeOf, typeInfo, hq, hi, hf, hst]
      · refine ⟨?_, .inr ⟨g, co, _, rfl, hbg, setRow_heap w g cur _ e _ hg, hnc, hcm, ?_, ?_⟩⟩
        · have := hown.1
          simp only [List.length_append, List.length_take, List.length_drop]; omega
        · simp only [List.size_toArray, List.length_append, List.length_take, List.length_drop, Array.length_toList]; omega
        · exact splice_take _ _ _ _ _ htk (by simpa using hNc) hfit
      · exact ⟨rfl, rfl, rfl, by simp [World.setRow], fun k _ hk => setRow_other w g k _ (fun e => hk (by simp [Value.ownBlock, e]))⟩
    · have hc : cs = [] := List.eq_nil_of_length_eq_zero (by omega)
      subst hc
      refine ⟨w, ?_, by simpa using hown, ⟨rfl, rfl, rfl, Nat.le_refl _, fun _ _ _ => rfl⟩⟩
      cases dp with
      | none => simp [Builtin.copy_, run_underlying hu, Builtin.lenOf, sizeOf, typeInfo, hq, hi, hf]
      | some ad => simp [Builtin.copy_, run_underlying hu, Builtin.lenOf, sizeOf, typeInfo, hq, hi, hf, storeCells]
end Go.Proofs.YtjljcifpcljlaaaDoor
/- Contract of slices.Delete at Block, one element. -/
namespace Go.Proofs.YtjljcifpcljlaaaDoor
open Go.RowKit
set_option linter.unusedVariables false
attribute [local go_sem ↓] sliced_cut

theorem zero_bk (w : World) : (zeroValue 40).run Tryd.prog w = .ok (.agg #[.int .i64 0, .int .i64 0, .int .i64 0]) w := by
  obtain ⟨i, hi, hz, hs, hb⟩ := info_parts info_bk
  simp [zeroValue, typeInfo, hi, hz]

set_option maxRecDepth 100000 in
theorem delete_bk (base : Nat) (a : Option Addr) (n c : Nat) (l : List Bk) (i : Nat) (w : World) (hown : w.ownsRow base 40 3 (.slice a n c) n (flat encBk l)) (hi : i < n) (hn : n ≤ 1000) (hbase : base ≤ w.heap.size) :
    Calls Tryd.prog 32 #[.slice a n c, .int .i64 i, .int .i64 (i + 1)] w fun ev w' => ev = .returned (.slice a (n - 1) c) ∧ w'.ownsRow base 40 3 (.slice a (n - 1) c) (n - 1) (flat encBk (l.eraseIdx i)) ∧ w.grownBy w' (Value.ownBlock (.slice a n c)) := by
  have hln : l.length = n := own_flat_len encBk_length (by decide) hown
  have hnc := own_cap hown
  have hcm : c ≤ 9223372036854775807 := by
    rcases hown.2 with ⟨h', h2⟩ | ⟨g, cap, cur, h', _, _, _, hcm, _⟩
    · simp at h'; omega
    · have : c = cap := by simp at h'; exact h'.2
      unfold maxLen at hcm; omega
  have HO := Hid.mk hown
  clear hown
  have b0 : (i : Int) ≤ n := by omega
  have b1 : (i : Int) + 1 ≤ n := by omega
  have b2 : (i : Int) ≤ c := by omega
  have b3 : (i : Int) + 1 ≤ c := by omega
  have b4 : (n : Int) ≤ c := by omega
  have b5 : (0 : Int) ≤ (i : Int) + 1 := by omega
  have b6 : ((i : Int) + 1).toNat = i + 1 := by omega
  go_enter Tryd.func32, Tryd.ntmps32
  go_wp2_with fail
  go_still_tail 6, (by kernel_rfl)
  change wpList _ _ _ _ _ w.drew
  have HO2 := own_below HO.out ((Below.refl w.heap.size w).drew) (Nat.le_refl _)
  have hrow := (own_row HO2).cut (i + 1) c 3 ((n - (i + 1)) * 3) (by omega)
  have hfl := flat_length encBk_length l
  rw [List.take_of_length_le (by rw [List.length_drop, hfl]; omega), flat_drop encBk_length] at hrow
  have hpre := own_prefix HO2 (show i ≤ n by omega)
  rw [flat_take encBk_length] at hpre
  have HG : Hid (∀ w', w.drew.grownBy w' (Value.ownBlock (.slice a i c)) → w.grownBy w' (Value.ownBlock (.slice a n c))) := fun w' h => ⟨h.os, h.tape, h.output, h.size, fun k hk hne => h.block k hk (by cases a with | none => simp [Value.ownBlock] | some x => simpa [Value.ownBlock] using hne)⟩
  have hdw : w.drew.heap.size = w.heap.size := rfl
  clear HO2
  generalize w.drew = w1 at *
  refine wpList_appr rfl _ _ 32 rfl base 40 (.agg #[.int .i64 0, .int .i64 0, .int .i64 0]) 3 24 Tryd.underlying32 info_bk (by decide) a i c _ rfl hpre (cutA a (i + 1) c 3) (n - (i + 1)) (c - (i + 1)) (flat encBk (l.drop (i + 1))) rfl (by rw [flat_length encBk_length, List.length_drop, hln]) hrow (encBk_one _) (by omega) ?_
  intro w2 hown2 hg2
  have hG2 := HG.out w2 hg2
  rw [← flat_append, ← List.eraseIdx_eq_take_drop_succ] at hown2
  have e1 : i + (n - (i + 1)) = n - 1 := by omega
  rw [e1] at hown2 ⊢
  have HO3 := Hid.mk hown2
  have b7 : (n : Int) - 1 ≤ n := by omega
  have b8 : ((n - 1 : Nat) : Int) ≤ n := by omega
  have b9 : n - (n - 1) = 1 := by omega
  clear hown2 hg2 hrow hpre HO hfl
  obtain ⟨w3, hclr, hown3, hg3⟩ := run_clr (P := Tryd.prog) 32 0 40 Tryd.underlying32 3 (.agg #[.int .i64 0, .int .i64 0, .int .i64 0]) zero_bk rfl (by decide) base (n - 1) 1 c (c - (n - 1)) a _ HO3.out (by omega)
  have HO4 := Hid.mk hown3
  have HG4 : Hid (w.grownBy w3 (Value.ownBlock (.slice a n c))) := ⟨hg3.os.trans hG2.os, hg3.tape.trans hG2.tape, hg3.output.trans hG2.output, Nat.le_trans hG2.size hg3.size, fun k hk hne => (hg3.block k (Nat.lt_of_lt_of_le hk hG2.size) (by cases a with | none => simp [Value.ownBlock] | some x => simpa [Value.ownBlock] using hne)).trans (hG2.block k hk hne)⟩
  clear hown3 HO3 hG2 hg3
  go_wp2
  go_ret
  exact ⟨rfl, HO4.out, HG4.out⟩
end Go.Proofs.YtjljcifpcljlaaaDoor
/- Contract of slices.Insert at Block, one element. -/
namespace Go.Proofs.YtjljcifpcljlaaaDoor
open Go.RowKit
set_option linter.unusedVariables false
attribute [local go_sem ↓] sliced_cut

/-- 'append' of zeros onto an owned row that has no room: a new row -/
theorem run_app0 {P : Program} {w : World} (t tn ty e : TypeId) (ht : P.underlying t = some (.slice e)) (htn : P.underlying tn = some (.int .i64)) (z : Value) (size bytes : Nat) (hinfo : (P.info? e).map (fun i => (i.zero, i.size, i.bytes)) = some (some z, size, bytes)) (hzs : z.cells.size = size) (hsz : 0 < size)
    (as_ : Option Addr) (n cs : Nat) (xs : List Value) (base : Nat) (hown : w.ownsRow base e size (.slice as_ n cs) n xs) (k : Nat) (hk : 0 < k) (hg : cs < n + k) (hbytes : (n + k) * bytes ≤ 140737488355328) (hbp : 0 < bytes) :
    ∃ G zs w', (Builtin.append_ #[t, tn] ty #[.slice as_ n cs, .int .i64 k]).run P w = .ok (.slice (some ⟨w.heap.size, 0, none⟩) (n + k) G) w' ∧ zs.length = k * size ∧ w'.ownsRow w.heap.size e size (.slice (some ⟨w.heap.size, 0, none⟩) (n + k) G) (n + k) (xs ++ zs) ∧ w.grownBy w' none := by
  obtain ⟨i, hi, hz, hsize, hby⟩ := info_parts hinfo
  subst hsize
  subst hby
  have h63 : n + k ≤ maxLen := by
    have : n + k ≤ (n + k) * i.bytes := Nat.le_mul_of_pos_right _ hbp
    simp only [maxLen]; omega
  have hold : (Builtin.firstCells i.size n (.slice as_ n cs)).run P w.drew = .ok xs.toArray w.drew := firstCells_row i.size n as_ n cs xs hown.1 (own_row (own_below hown ((Below.refl w.heap.size w).drew) (Nat.le_refl _)))
  have h := Lib.run_append_grow_zeros (P := P) w t tn ty e i z .i64 .i64 ht htn hi hz as_ n cs xs hold k hk hsz hg (by unfold maxLen at h63; omega) (by have := Nat.mul_le_mul_right i.bytes (show k ≤ n + k by omega); omega) (growslice_fits hg hbytes)
  have hge := grownCap_ge w (n + k) cs e
  have hcm : grownCap w (n + k) cs e ≤ maxLen := grownCap_le_maxLen w (n + k) cs e h63
  refine ⟨_, (Builtin.zeroCells z.cells k).toList, _, h, ?_, ⟨?_, .inr ⟨w.heap.size, _, _, rfl, Nat.le_refl _, heap_alloc_new w.drew _, hge, hcm, ?_, ?_⟩⟩, ⟨rfl, rfl, rfl, by simp, fun j hj _ => heap_alloc_old w.drew _ hj⟩⟩
  · rw [Array.length_toList, size_zeroCells, hzs]
  · rw [List.length_append, hown.1, Array.length_toList, size_zeroCells, hzs, Nat.add_mul]
  · simp only [Array.size_append, List.size_toArray, size_zeroCells, hzs, hown.1, ← Nat.add_mul]
    congr 1
    omega
  · have hl : (xs ++ (Builtin.zeroCells z.cells k).toList).length = (n + k) * i.size := by rw [List.length_append, hown.1, Array.length_toList, size_zeroCells, hzs, Nat.add_mul]
    simp only [Array.toList_append]
    rw [← hl]
    exact List.take_left

theorem wpList_app_run {P : Program} {w : World} {ops : Array Oper} {rest : List Oper} {o : Oper} {a : Act} {Q : Exit → Act → World → Prop} (hgd : o.guard = none) (s x : Operand) (t tn : TypeId)
    (ho : o.op = .call { callee := .builtin .append, args := #[s, x], argTypes := #[t, tn] }) (v u : Value) (hs : a.eval s = v) (hx : a.eval x = u) {v' : Value} {w' : World}
    (hr : (Builtin.append_ #[t, tn] o.type #[v, u]).run P w = .ok v' w') (h : wpList P ops Q rest (a.put o.dst v') w') : wpList P ops Q (o :: rest) a w := by
  refine wpList_plain hgd fun K hK => ?_
  unfold Oper.wp execOp
  simp only [ho, resolve, invoke, builtin, Sem.run_bind, Sem.run_pure, Result.andThen_ok, List.map_toArray, List.map_cons, List.map_nil, hs, hx, hr]
  exact hK _ _ h

set_option maxRecDepth 100000 in
theorem insert_end (base : Nat) (a : Option Addr) (n c g : Nat) (l : List Bk) (b : Bk) (w : World) (hown : w.ownsRow base 40 3 (.slice a n c) n (flat encBk l)) (hn : n ≤ 1000) (hbase : base ≤ w.heap.size) (hv : Row w (some ⟨g, 0, none⟩) (encBk b)) :
    Calls Tryd.prog 44 #[.slice a n c, .int .i64 n, .slice (some ⟨g, 0, none⟩) 1 1] w fun ev w' => ∃ a' c', ev = .returned (.slice a' (n + 1) c') ∧ w'.ownsRow base 40 3 (.slice a' (n + 1) c') (n + 1) (flat encBk (l ++ [b])) ∧ w.grownBy w' (Value.ownBlock (.slice a n c)) := by
  have hnc := own_cap hown
  have HO := Hid.mk hown
  clear hown
  have b2 : (n : Int) ≤ c := by omega
  go_enter Tryd.func44, Tryd.ntmps44
  go_wp2_with (at_builtin; refine wpList_app rfl _ _ 32 rfl base 40 (.agg #[.int .i64 0, .int .i64 0, .int .i64 0]) 3 24 Tryd.underlying32 info_bk rfl (by decide) (by decide) _ _ _ _ rfl HO.out (some ⟨g, 0, none⟩) 1 1 (encBk b) rfl rfl hv (by simp [encBk, vI, Value.oneCell']) (by omega) hbase ?_)
  intro a' c' w1 hown1 hg
  rw [show flat encBk l ++ encBk b = flat encBk (l ++ [b]) from by rw [flat_append, flat_one]] at hown1
  have HO1 := Hid.mk hown1
  clear hown1 HO
  go_wp2
  go_ret
  exact ⟨a', c', rfl, HO1.out, hg⟩

set_option maxRecDepth 100000 in
theorem insert_grow (base : Nat) (a : Option Addr) (n c g i : Nat) (l : List Bk) (b : Bk) (w : World) (hown : w.ownsRow base 40 3 (.slice a n c) n (flat encBk l)) (hi : i < n) (hn : n ≤ 1000) (hc : c < n + 1) (hbase : base ≤ w.heap.size) (hv : Row w (some ⟨g, 0, none⟩) (encBk b)) :
    Calls Tryd.prog 44 #[.slice a n c, .int .i64 i, .slice (some ⟨g, 0, none⟩) 1 1] w fun ev w' => ∃ a' c', ev = .returned (.slice a' (n + 1) c') ∧ w'.ownsRow base 40 3 (.slice a' (n + 1) c') (n + 1) (flat encBk (l.take i ++ b :: l.drop i)) ∧ w.grownBy w' (Value.ownBlock (.slice a n c)) := by
  have hnc := own_cap hown
  have hln : l.length = n := own_flat_len encBk_length (by decide) hown
  have hfl := flat_length encBk_length l
  obtain ⟨G, zs, w1, hrz, hzl, hown1, hg1⟩ := run_app0 (P := Tryd.prog) 32 3 32 40 Tryd.underlying32 Tryd.underlying3 (.agg #[.int .i64 0, .int .i64 0, .int .i64 0]) 3 24 info_bk rfl (by decide) a i c _ base (own_prefix hown (show i ≤ n by omega)) (n + 1 - i) (by omega) (by omega) (by omega) (by omega)
  rw [show i + (n + 1 - i) = n + 1 by omega] at hrz hown1
  rw [show ((n + 1 - i : Nat) : Int) = (n : Int) + 1 - (i : Int) by omega] at hrz
  rw [flat_take encBk_length] at hown1
  have HR := Hid.mk (own_row hown)
  have hGn := own_cap hown1
  have HO1 := Hid.mk hown1
  have HG1 := Hid.mk hg1
  have hbw := Hid.mk ((Below.refl w.heap.size w).grown hg1 (Nat.le_refl _) (by simp))
  have b0 : (i : Int) ≤ n := by omega
  have b2 : (i : Int) ≤ c := by omega
  have b3 : ¬ (i : Int) = n := by omega
  have b4 : (c : Int) < (n : Int) + 1 := by omega
  have b5 : (i : Int) ≤ (n : Int) + 1 := by omega
  have b6 : ((n + 1 : Nat) : Int) ≤ G := by omega
  have hsz : (Tryd.prog.info? 40).map (·.size) = some 3 := by kernel_rfl
  have hv1 := hv.mono hbw.out (Nat.le_refl _)
  have htl : (flat encBk (l.take i)).length = i * 3 := by rw [flat_length encBk_length, List.length_take]; omega
  have hcut1 : cutA (some ⟨w.heap.size, 0, none⟩) i G 3 = (some ⟨w.heap.size, 0, none⟩ : Option Addr).map (·.add (i * 3)) := by unfold cutA; rw [if_neg (by omega)]
  have hcut2 : cutA (some ⟨w.heap.size, 0, none⟩) (i + 1) G 3 = (some ⟨w.heap.size, 0, none⟩ : Option Addr).map (·.add ((i + 1) * 3)) := by unfold cutA; rw [if_neg (by omega)]
  obtain ⟨w2, hcp1, hown2, hg2⟩ := run_cp (P := Tryd.prog) 32 32 3 40 Tryd.underlying32 3 hsz (cutA (some ⟨w.heap.size, 0, none⟩) i G 3) (some ⟨g, 0, none⟩) (n + 1 - i) (G - i) 1 1 (encBk b) (by rw [show Nat.min 1 (n + 1 - i) = 1 from Nat.min_eq_left (by omega)]; rfl) hv1 (by simp [encBk, vI, Value.oneCell']) w.heap.size (n + 1) G i (some ⟨w.heap.size, 0, none⟩) _ HO1.out (fun _ => hcut1) (fun h => by rw [hcut1] at h; simp at h) (by rw [encBk_length]; omega)
  rw [encBk_length, List.take_left' htl, ← Nat.succ_mul] at hown2
  have hdrop : (flat encBk (l.take i) ++ zs).drop ((i + 1) * 3) = zs.drop 3 := by rw [List.drop_append, List.drop_eq_nil_of_le (by omega), htl, List.nil_append]; congr 1; omega
  rw [Nat.succ_eq_add_one, hdrop] at hown2
  have hbw2 := (hbw.out.grown hg2 hbw.out.size (by intro k hk; simp [Value.ownBlock] at hk; omega)).drew
  have hown2d := own_below hown2 ((Below.refl w2.heap.size w2).drew) (Nat.le_refl _)
  have hrow := ((own_row hown).mono hbw2 (Nat.le_refl _)).cut i c 3 ((n - i) * 3) (by omega)
  rw [List.take_of_length_le (by rw [List.length_drop, hfl]; omega), flat_drop encBk_length] at hrow
  have hdl : (flat encBk (l.drop i)).length = (n - i) * 3 := by rw [flat_length encBk_length, List.length_drop, hln]
  obtain ⟨w3, hcp2, hown3, hg3⟩ := run_cp (P := Tryd.prog) (w := w2.drew) 32 32 3 40 Tryd.underlying32 3 hsz (cutA (some ⟨w.heap.size, 0, none⟩) (i + 1) G 3) (cutA a i c 3) (n - i) (G - (i + 1)) (n - i) (c - i) (flat encBk (l.drop i)) (by rw [hdl, show Nat.min (n - i) (n - i) = n - i from Nat.min_self _]) hrow (encBk_one _) w.heap.size (n + 1) G (i + 1) (some ⟨w.heap.size, 0, none⟩) _ hown2d (fun _ => hcut2) (fun h => by rw [hcut2] at h; simp at h) (by rw [hdl]; omega)
  rw [show (flat encBk (l.take i) ++ encBk b ++ zs.drop 3).take ((i + 1) * 3) = flat encBk (l.take i) ++ encBk b from List.take_left' (by rw [List.length_append, htl, encBk_length]; omega), hdl, show (flat encBk (l.take i) ++ encBk b ++ zs.drop 3).drop ((i + 1) * 3 + (n - i) * 3) = [] from List.drop_eq_nil_of_le (by simp only [List.length_append, htl, encBk_length, List.length_drop, hzl]; omega), List.append_nil, ← flat_one encBk b, ← flat_append, ← flat_append, List.append_assoc, List.singleton_append] at hown3
  have HO3 := Hid.mk (own_base hown3 hbase)
  have HG3 : Hid (w.grownBy w3 (Value.ownBlock (.slice a n c))) := by
    have h1 := HG1.out
    refine ⟨hg3.os.trans (hg2.os.trans h1.os), hg3.tape.trans (hg2.tape.trans h1.tape), hg3.output.trans (hg2.output.trans h1.output), Nat.le_trans h1.size (Nat.le_trans hg2.size hg3.size), fun k hk hne => ?_⟩
    have e1 : some k ≠ Value.ownBlock (.slice (some ⟨w.heap.size, 0, none⟩) (n + 1) G) := by simp [Value.ownBlock]; omega
    exact (hg3.block k (Nat.lt_of_lt_of_le hk (Nat.le_trans h1.size hg2.size)) e1).trans ((hg2.block k (Nat.lt_of_lt_of_le hk h1.size) e1).trans (h1.block k hk (by simp)))
  have b7 : ((i : Int) + 1) ≤ G := by omega
  have s1 : IntKind.i64.wrap ((i : Int) + 1) = (i : Int) + 1 := IntWalk.i64_in _ (by omega)
  have b8 : 0 ≤ (i : Int) + 1 := by omega
  have b9 : ((i : Int) + 1).toNat = i + 1 := by omega
  have b10 : (i : Int) + 1 ≤ (n : Int) + 1 := by omega
  clear hown hown2 hown2d hown3 hg1 hg2 hg3 hown1 hrow hv1 hbw2 HO1 HR HG1 hdrop hcut1 hcut2
  go_enter Tryd.func44, Tryd.ntmps44
  go_wp2_with (at_builtin; refine wpList_app_run rfl _ _ 32 3 rfl _ _ rfl rfl hrz ?_)
  go_still_tail 8, (by kernel_rfl)
  change wpList _ _ _ _ _ w2.drew
  generalize w2.drew = w2d at *
  go_wp2
  go_ret
  exact ⟨_, _, rfl, HO3.out, HG3.out⟩
end Go.Proofs.YtjljcifpcljlaaaDoor
