/- Base, Base2: texts of this claim, joined. -/
import Derived.Test.YtkcaheebaicinaaGreatDoorRows
import Derived.WalkKit
import Derived.LoopTactic
import Derived.Laws.CopyRow
/- What a slice's cells hold (Row), what a call owns (ownsRow), and the walk's laws on append and make in these words. No program in sight. -/
namespace Go.Proofs.YtkcaheebaicinaaGreatDoor
open Go.RowKit

/-- A slice's cells: from its address on stand the values of a list. -/
def Row (w : World) (a : Option Addr) (cs : List Value) : Prop :=
  ∀ j v, cs[j]? = some v → ∃ b off, a = some ⟨b, off, none⟩ ∧ b < w.heap.size ∧ w.cell? ⟨b, off + j, none⟩ = some v

theorem Row.nil (w : World) (a : Option Addr) : Row w a [] := fun j v h => by simp at h

theorem Row.mono {w w' : World} {B : Nat} {a : Option Addr} {cs : List Value} (h : Row w a cs) (hb : Below B w w') (hB : w.heap.size ≤ B) : Row w' a cs := by
  intro j v hj
  obtain ⟨b, off, e, h1, h2⟩ := h j v hj
  exact ⟨b, off, e, Nat.lt_of_lt_of_le h1 hb.size, by rw [hb.cell (p := ⟨b, off + j, none⟩) (by simp; omega)]; exact h2⟩

theorem Row.below {w w' : World} {a : Option Addr} {cs : List Value} (h : Row w a cs) (hb : Below w.heap.size w w') : Row w' a cs := h.mono hb (Nat.le_refl _)

/-- A row that lies in old memory, read behind whatever the call has done to memory of its own. -/
theorem Row.take {w : World} {a : Option Addr} {cs : List Value} (h : Row w a cs) (k : Nat) : Row w a (cs.take k) := by
  intro j v hj
  rw [List.getElem?_take] at hj
  split at hj
  · exact h j v hj
  · cases hj

theorem row_new1 (w : World) (v : Value) (t : TypeId) : Row (w.alloc (.cells #[v] t)) (some ⟨w.heap.size, 0, none⟩) [v] := by
  intro j u hj
  have h0 : j = 0 := by
    rcases j with _ | j
    · rfl
    · simp at hj
  subst h0
  obtain rfl : v = u := by simpa using hj
  exact ⟨w.heap.size, 0, rfl, by simp, by rw [cell_of_row _ _ _ _ _ _ (heap_alloc_new w _)]; rfl⟩

theorem ret_int {k : IntKind} {a b : Int} (h : a = b) : Ending.returned (.int k a) = .returned (.int k b) := by rw [h]
theorem ret_bool {a b : Bool} (h : a = b) : Ending.returned (.bool a) = .returned (.bool b) := by rw [h]

def vI (x : Int) : Value := .int .i64 x

theorem own_slice {w : World} {base : Nat} {e : TypeId} {size : Nat} {v : Value} {n : Nat} {xs : List Value} (h : w.ownsRow base e size v n xs) : ∃ a c, v = .slice a n c := by
  rcases h.2 with ⟨h, h2⟩ | ⟨g, cap, cur, h, _⟩
  · exact ⟨none, 0, by rw [h, h2]⟩
  · exact ⟨_, _, h⟩

theorem own_row {w : World} {base : Nat} {e : TypeId} {size : Nat} {a : Option Addr} {c n : Nat} {xs : List Value} (h : w.ownsRow base e size (.slice a n c) n xs) : Row w a xs := by
  intro j v hj
  rcases h.2 with ⟨h', h2⟩ | ⟨g, cap, cur, h', hb, hg, _⟩
  · have : xs = [] := List.eq_nil_of_length_eq_zero (by rw [h.1, h2, Nat.zero_mul])
    simp [this] at hj
  · obtain ⟨rfl, rfl⟩ : a = some ⟨g, 0, none⟩ ∧ c = cap := by simpa using h'
    refine ⟨g, 0, rfl, (Array.getElem?_eq_some_iff.1 hg).1, ?_⟩
    have hl : j < n * size := by rw [← h.1]; exact (List.getElem?_eq_some_iff.1 hj).1
    rw [Nat.zero_add, World.ownsRow.cellAt h j hl]; exact hj

theorem own_at {w : World} {base : Nat} {e : TypeId} {size : Nat} {a : Option Addr} {c n : Nat} {xs : List Value} (h : w.ownsRow base e size (.slice a n c) n xs) (k : Nat) (hk : k < xs.length) :
    ∃ g, a = some ⟨g, 0, none⟩ ∧ base ≤ g ∧ g < w.heap.size ∧ w.cell? ⟨g, k, none⟩ = some xs[k] ∧ w.frozen? ⟨g, k, none⟩ = false := by
  rcases h.2 with ⟨h', h2⟩ | ⟨g, cap, cur, h', hb, hg, _⟩
  · have : xs = [] := List.eq_nil_of_length_eq_zero (by rw [h.1, h2, Nat.zero_mul])
    simp [this] at hk
  · obtain ⟨rfl, rfl⟩ : a = some ⟨g, 0, none⟩ ∧ c = cap := by simpa using h'
    exact ⟨g, rfl, hb, (Array.getElem?_eq_some_iff.1 hg).1, by rw [World.ownsRow.cellAt h k (by rw [← h.1]; exact hk)]; simp [hk], World.ownsRow.frozenAt h k⟩

theorem own_cap {w : World} {base : Nat} {e : TypeId} {size : Nat} {a : Option Addr} {c n : Nat} {xs : List Value} (h : w.ownsRow base e size (.slice a n c) n xs) : n ≤ c := by
  rcases h.2 with ⟨h', h2⟩ | ⟨g, cap, cur, h', hb, hg, hc, _⟩
  · omega
  · obtain ⟨rfl, rfl⟩ : a = some ⟨g, 0, none⟩ ∧ c = cap := by simpa using h'
    exact hc

/-- some value, no matter which: for a store -/
theorem own_cell {w : World} {base : Nat} {e : TypeId} {size : Nat} {a : Option Addr} {c n : Nat} {xs : List Value} (h : w.ownsRow base e size (.slice a n c) n xs) (k : Nat) (hk : k < xs.length) :
    ∃ g v, a = some ⟨g, 0, none⟩ ∧ base ≤ g ∧ g < w.heap.size ∧ w.cell? ⟨g, k, none⟩ = some v ∧ w.frozen? ⟨g, k, none⟩ = false := by
  obtain ⟨g, h1, h2, h3, h4, h5⟩ := own_at h k hk
  exact ⟨g, _, h1, h2, h3, h4, h5⟩

theorem Hid.mk {p : Prop} (h : p) : Hid p := h

/-- An owned row stays as it is while nothing of its own block is written. -/
theorem own_below {w w' : World} {B base : Nat} {e : TypeId} {size : Nat} {v : Value} {n : Nat} {xs : List Value} (h : w.ownsRow base e size v n xs) (hb : Below B w w') (hB : w.heap.size ≤ B) : w'.ownsRow base e size v n xs := by
  refine ⟨h.1, ?_⟩
  rcases h.2 with h' | ⟨g, cap, cur, h1, h2, hg, rest⟩
  · exact .inl h'
  · refine .inr ⟨g, cap, cur, h1, h2, ?_, rest⟩
    rw [hb.block g (Nat.lt_of_lt_of_le (Array.getElem?_eq_some_iff.1 hg).1 hB)]; exact hg

theorem own_base {w : World} {b b' : Nat} {e : TypeId} {size : Nat} {v : Value} {n : Nat} {xs : List Value} (h : w.ownsRow b e size v n xs) (hb : b' ≤ b) : w.ownsRow b' e size v n xs := by
  refine ⟨h.1, ?_⟩
  rcases h.2 with h' | ⟨g, cap, cur, h1, h2, rest⟩
  · exact .inl h'
  · exact .inr ⟨g, cap, cur, h1, by omega, rest⟩

/-- 'append' onto an owned row, from whatever row (nil too). -/
theorem wpList_app {P : Program} {w : World} {ops : Array Oper} {rest : List Oper} {o : Oper} {a : Act} {Q : Exit → Act → World → Prop} (hgd : o.guard = none) (s x : Operand) (t : TypeId)
    (ho : o.op = .call { callee := .builtin .append, args := #[s, x], argTypes := #[t, t] })
    (base : Nat) (e : TypeId) (z : Value) (size bytes : Nat) (ht : P.underlying t = some (.slice e)) (hinfo : (P.info? e).map (fun i => (i.zero, i.size, i.bytes)) = some (some z, size, bytes))
    (hzs : z.cells.size = size) (hsz : 0 < size) (hbp : 0 < bytes)
    (as_ : Option Addr) (n cs : Nat) (xs : List Value) (hs : a.eval s = .slice as_ n cs) (hown : w.ownsRow base e size (.slice as_ n cs) n xs)
    (ax : Option Addr) (m cx : Nat) (news : List Value) (hx : a.eval x = .slice ax m cx) (hl : news.length = m * size) (hnews : Row w ax news) (h1 : ∀ u ∈ news, u.oneCell' = true)
    (hbytes : (n + m) * bytes ≤ 140737488355328) (hbase : base ≤ w.heap.size)
    (h : ∀ a' c' w', w'.ownsRow base e size (.slice a' (n + m) c') (n + m) (xs ++ news) → w.grownBy w' (Value.ownBlock (.slice as_ n cs)) → wpList P ops Q rest (a.put o.dst (.slice a' (n + m) c')) w') :
    wpList P ops Q (o :: rest) a w := by
  obtain ⟨i, hi, hz, hsize, hby⟩ := info_parts hinfo
  have h63 : n + m ≤ maxLen := by
    have : n + m ≤ (n + m) * bytes := Nat.le_mul_of_pos_right _ hbp
    simp only [maxLen]; omega
  cases ax with
  | some ad =>
    refine wpList_append_own w hgd s x t ho base e i z size bytes ht hi hz hsize hby hzs hsz _ n xs hs hown ad m cx news hx hl ?_ h1 h63 hbytes hbase fun v' w' h2 h3 _ => ?_
    · intro j u hj
      obtain ⟨b, off, e1, _, h5⟩ := hnews j u hj
      obtain rfl : ad = ⟨b, off, none⟩ := by simpa using e1
      rw [Addr.add_lit]; exact h5
    · obtain ⟨a', c', rfl⟩ := own_slice h2
      exact h a' c' w' h2 h3
  | none =>
    have hn0 : news = [] := by
      cases news with
      | nil => rfl
      | cons u l => obtain ⟨b, off, e1, _⟩ := hnews 0 u rfl; cases e1
    subst hn0
    have hm : m = 0 := by
      rcases Nat.eq_zero_or_pos m with h | h
      · exact h
      · have := Nat.mul_pos h hsz; simp only [List.length_nil] at hl; omega
    subst hm
    refine wpList_plain hgd fun K hK => ?_
    have hr : (Builtin.append_ #[t, t] o.type #[.slice as_ n cs, .slice none 0 cx]).run P w = .ok (.slice as_ n cs) w := by
      rcases hown.2 with ⟨hv, rfl⟩ | ⟨g, cap, cur, hv, _, hg, hnc, _⟩
      · rw [hv]; simp [Builtin.append_, run_underlying ht, sizeOf, typeInfo, hi, Builtin.lenOf, Builtin.firstCells]
      · rw [hv]; simp [Builtin.append_, run_underlying ht, sizeOf, typeInfo, hi, Builtin.lenOf, Builtin.firstCells, hnc, storeCells]
    unfold Oper.wp execOp
    simp only [ho, resolve, invoke, builtin, Sem.run_bind, Sem.run_pure, Result.andThen_ok, List.map_toArray, List.map_cons, List.map_nil, hs, hx, hr]
    exact hK _ _ (h as_ cs w (by simpa using hown) ⟨rfl, rfl, rfl, Nat.le_refl _, fun _ _ _ => rfl⟩)

/-- a closed fact on old blocks through 'grownBy' -/
theorem below_grown {B : Nat} {a w w' : World} {v : Value} {base : Nat} {e : TypeId} {size n : Nat} {xs : List Value} (h : Below B a w) (hown : w.ownsRow base e size v n xs) (hg : w.grownBy w' v.ownBlock) (hB : B ≤ base) (hs : B ≤ w.heap.size) : Below B a w' :=
  h.grown hg hs fun k hk => by have := (hown.lt k hk).1; omega

/-! ## Pieces of slices -/
/-- the address of a piece from l on (of a slice of capacity m, elements of s cells) -/
def cutA (a : Option Addr) (l m s : Nat) : Option Addr := if m = l then a else a.map (·.add (l * s))

theorem sliced_cut (a : Option Addr) (l h m s : Nat) : sliced a l h m s = .slice (cutA a l m s) (h - l) (m - l) := rfl

@[simp] theorem cutA_zero (a : Option Addr) (m s : Nat) : cutA a 0 m s = a := by
  unfold cutA
  split
  · rfl
  · cases a <;> simp [Addr.add]

theorem Row.cut {w : World} {a : Option Addr} {xs : List Value} (h : Row w a xs) (l m s j : Nat) (hj : j ≤ (m - l) * s) : Row w (cutA a l m s) ((xs.drop (l * s)).take j) := by
  intro k v hk
  rw [List.getElem?_take] at hk
  split at hk
  · rename_i hkj
    rw [List.getElem?_drop] at hk
    obtain ⟨b, off, rfl, h1, h2⟩ := h _ v hk
    have hml : ¬ m = l := by
      intro e; subst e; simp at hj; omega
    refine ⟨b, off + l * s, ?_, h1, by rw [Nat.add_assoc]; exact h2⟩
    unfold cutA
    rw [if_neg hml]
    show some (Addr.add ⟨b, off, none⟩ (l * s)) = _
    rw [Addr.add_lit]
  · cases hk
end Go.Proofs.YtkcaheebaicinaaGreatDoor
/- The walk's law on the built-in copy into a row that the call owns, at whatever element. No program in sight. -/
namespace Go.Proofs.YtkcaheebaicinaaGreatDoor
open Go.RowKit

theorem firstCells_row {P : Program} {w : World} (size n : Nat) (sp : Option Addr) (len cap : Nat) (cs : List Value) (hl : cs.length = n * size) (hr : Row w sp cs) :
    (Builtin.firstCells size n (.slice sp len cap)).run P w = .ok cs.toArray w := by
  cases sp with
  | some b =>
    refine run_firstCells_some w size n b len cap cs hl fun j v hj => ?_
    obtain ⟨b', off, e, _, h⟩ := hr j v hj
    obtain rfl : b = ⟨b', off, none⟩ := by simpa using e
    rw [Addr.add_lit]; exact h
  | none =>
    have : cs = [] := by
      cases cs with
      | nil => rfl
      | cons u l => obtain ⟨b, off, e1, _⟩ := hr 0 u rfl; cases e1
    subst this
    simp [Builtin.firstCells]

theorem splice_take (cur xs cs : List Value) (o N : Nat) (h : cur.take N = xs) (hN : N ≤ cur.length) (hf : o + cs.length ≤ N) :
    (cur.take o ++ cs ++ cur.drop (o + cs.length)).take N = xs.take o ++ cs ++ xs.drop (o + cs.length) := by
  subst h
  have hl : (cur.take o ++ cs).length = o + cs.length := by rw [List.length_append, List.length_take]; omega
  rw [List.take_append, List.take_of_length_le (by omega), hl, List.take_take, Nat.min_eq_left (by omega), List.drop_take]

theorem wpList_cp {P : Program} {w : World} {ops : Array Oper} {rest : List Oper} {o : Oper} {a : Act} {Q : Exit → Act → World → Prop} (hgd : o.guard = none) (d s : Operand) (dT sT : TypeId)
    (ho : o.op = .call { callee := .builtin .copy, args := #[d, s], argTypes := #[dT, sT] }) (e : TypeId) (hu : P.underlying dT = some (.slice e)) (size : Nat) (hsz : (P.info? e).map (·.size) = some size)
    (dp sp : Option Addr) (dLen dCap sLen sCap : Nat) (hd : a.eval d = .slice dp dLen dCap) (hs : a.eval s = .slice sp sLen sCap)
    (cs : List Value) (hn : cs.length = Nat.min sLen dLen * size) (hcs : Row w sp cs) (h1 : ∀ u ∈ cs, u.oneCell' = true)
    (base N co p : Nat) (ao : Option Addr) (xs : List Value) (hown : w.ownsRow base e size (.slice ao N co) N xs) (hp : 0 < cs.length → dp = ao.map (·.add (p * size))) (hdn : dp = none → cs = []) (hfit : p * size + cs.length ≤ N * size)
    (h : ∀ w', w'.ownsRow base e size (.slice ao N co) N (xs.take (p * size) ++ cs ++ xs.drop (p * size + cs.length)) → w.grownBy w' (Value.ownBlock (.slice ao N co)) → wpList P ops Q rest (a.put o.dst (goInt (Nat.min sLen dLen : Nat))) w') :
    wpList P ops Q (o :: rest) a w := by
  refine wpList_plain hgd fun K hK => ?_
  have key : ∃ w', (Builtin.copy_ #[dT, sT] o.type #[.slice dp dLen dCap, .slice sp sLen sCap]).run P w = .ok (goInt (Nat.min sLen dLen : Nat)) w' ∧ w'.ownsRow base e size (.slice ao N co) N (xs.take (p * size) ++ cs ++ xs.drop (p * size + cs.length)) ∧ w.grownBy w' (Value.ownBlock (.slice ao N co)) := by
    cases hq : P.info? e with
    | none => simp [hq] at hsz
    | some i =>
      have hi : i.size = size := by simpa [hq] using hsz
      have hf := firstCells_row (P := P) size (Nat.min sLen dLen) sp sLen sCap cs hn hcs
      by_cases hc0 : 0 < cs.length
      · obtain ⟨g, cap, cur, hv, hbg, hg, hnc, hcm, hcsz, htk⟩ : ∃ g cap cur, Value.slice ao N co = .slice (some ⟨g, 0, none⟩) N cap ∧ base ≤ g ∧ w.heap[g]? = some (.cells cur e (0, 0)) ∧ N ≤ cap ∧ cap ≤ maxLen ∧ cur.size = cap * size ∧ cur.toList.take (N * size) = xs := by
          rcases hown.2 with ⟨_, h0⟩ | h
          · rw [h0, Nat.zero_mul] at hfit; omega
          · exact h
        obtain ⟨rfl, rfl⟩ : ao = some ⟨g, 0, none⟩ ∧ co = cap := by simpa using hv
        have hdp := hp hc0
        simp only [Option.map_some, Addr.add_lit, Nat.zero_add] at hdp
        subst hdp
        have hNc : N * size ≤ cur.size := by rw [hcsz]; exact Nat.mul_le_mul_right _ hnc
        have hst := run_storeCells_at P g (p * size) e cs 0 cur w hg (by omega) h1
        refine ⟨w.setRow g (cur.toList.take (p * size) ++ cs ++ cur.toList.drop (p * size + cs.length)).toArray, ?_, ?_, ?_⟩
        · simp only [Nat.add_zero] at hst
          simp [Builtin.copy_, run_underlying hu, Builtin.lenOf, sizeOf, typeInfo, hq, hi, hf, hst]
        · refine ⟨?_, .inr ⟨g, co, _, rfl, hbg, setRow_heap w g cur _ e _ hg, hnc, hcm, ?_, ?_⟩⟩
          · have := hown.1
            simp only [List.length_append, List.length_take, List.length_drop]; omega
          · simp only [List.size_toArray, List.length_append, List.length_take, List.length_drop, Array.length_toList]; omega
          · exact splice_take _ _ _ _ _ htk (by simpa using hNc) hfit
        · exact ⟨rfl, rfl, rfl, by simp [World.setRow], fun k _ hk => setRow_other w g k _ (fun e => hk (by simp [Value.ownBlock, e]))⟩
      · have hc : cs = [] := List.eq_nil_of_length_eq_zero (by omega)
        subst hc
        refine ⟨w, ?_, by simpa using hown, ⟨rfl, rfl, rfl, Nat.le_refl _, fun _ _ _ => rfl⟩⟩
        cases dp with
        | none => simp [Builtin.copy_, run_underlying hu, Builtin.lenOf, sizeOf, typeInfo, hq, hi, hf]
        | some ad => simp [Builtin.copy_, run_underlying hu, Builtin.lenOf, sizeOf, typeInfo, hq, hi, hf, storeCells]
  obtain ⟨w', hr, h2, h3⟩ := key
  unfold Oper.wp execOp
  simp only [ho, resolve, invoke, builtin, Sem.run_bind, Sem.run_pure, Result.andThen_ok, List.map_toArray, List.map_cons, List.map_nil, hd, hs, hr]
  exact hK _ _ (h w' h2 h3)
end Go.Proofs.YtkcaheebaicinaaGreatDoor
