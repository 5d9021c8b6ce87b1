/- Pick, Base3, Flat, Ext: texts of this claim, joined. -/
import Derived.Test.YtkcaheebaicinaaGreatDoorSN1
import Derived.Lib.AppendZerosOnto
import Derived.Lib.SliceRun
import Derived.Deep.QuietTactic
import Derived.BigQuiet
import Derived.WalkSmall
/- Contract of picked. -/
namespace Go.Proofs.YtkcaheebaicinaaGreatDoor
open Go.RowKit

/-- what 'picked' computes -/
def pk (n many : Int) : Int := (if n < 0 then -(n + 1) else n) % many

theorem pk_nonneg (n many : Int) (h : 1 ≤ many) : 0 ≤ pk n many := Int.emod_nonneg _ (by omega)
theorem pk_lt (n many : Int) (h : 1 ≤ many) : pk n many < many := Int.emod_lt_of_pos _ (by omega)

theorem picked_any (n many : Int) (w : World) (hn1 : -9223372036854775808 ≤ n) (hn2 : n ≤ 9223372036854775807) (h1 : 1 ≤ many) (h2 : many ≤ 1000000) :
    Calls Tryz.prog 7 #[.int .i64 n, .int .i64 many] w fun e w' => e = .returned (.int .i64 (pk n many)) ∧ w = w' := by
  by_cases hneg : n < 0
  · go_enter Tryz.func7, Tryz.ntmps7
    go_wp2
    go_ret
    refine ⟨ret_int ?_, rfl⟩
    show -(n + 1).tmod many = _
    rw [pk, if_pos hneg, ← Int.neg_tmod, Int.tmod_eq_emod_of_nonneg (by omega)]
  · go_enter Tryz.func7, Tryz.ntmps7
    go_wp2
    go_ret
    refine ⟨ret_int ?_, rfl⟩
    show n % many = _
    rw [pk, if_neg (by omega)]

end Go.Proofs.YtkcaheebaicinaaGreatDoor
/- Owned rows: prefixes, spare cells, 'clear' of spare cells, 'append' of zeros. No program in sight. -/
namespace Go.Proofs.YtkcaheebaicinaaGreatDoor
open Go.RowKit

theorem own_prefix {w : World} {base : Nat} {e : TypeId} {size : Nat} {a : Option Addr} {n c : Nat} {xs : List Value} (h : w.ownsRow base e size (.slice a n c) n xs) {i : Nat} (hi : i ≤ n) : w.ownsRow base e size (.slice a i c) i (xs.take (i * size)) := by
  have hm : i * size ≤ n * size := Nat.mul_le_mul_right _ hi
  refine ⟨by rw [List.length_take, h.1]; omega, ?_⟩
  rcases h.2 with ⟨h', h2⟩ | ⟨g, cap, cur, h', hb, hg, hn, hc, hs, ht⟩
  · obtain ⟨rfl, rfl⟩ : a = none ∧ c = 0 := by simp at h'; exact ⟨h'.1, h'.2.2⟩
    obtain rfl : i = 0 := by omega
    exact .inl ⟨rfl, rfl⟩
  · obtain ⟨rfl, rfl⟩ : a = some ⟨g, 0, none⟩ ∧ c = cap := by simpa using h'
    exact .inr ⟨g, c, cur, rfl, hb, hg, by omega, hc, hs, by rw [← ht, List.take_take, Nat.min_eq_left hm]⟩

/-- the spare cells too -/
theorem own_room {w : World} {base : Nat} {e : TypeId} {size : Nat} {a : Option Addr} {n c : Nat} {xs : List Value} (h : w.ownsRow base e size (.slice a n c) n xs) {m : Nat} (hm : n ≤ m) (hc : m ≤ c) : ∃ ys : List Value, ys.length = (m - n) * size ∧ w.ownsRow base e size (.slice a m c) m (xs ++ ys) := by
  rcases h.2 with ⟨h', h2⟩ | ⟨g, cap, cur, h', hb, hg, hn, hcm, hs, ht⟩
  · obtain ⟨rfl, rfl⟩ : a = none ∧ c = 0 := by simp at h'; exact ⟨h'.1, h'.2.2⟩
    obtain rfl : m = 0 := by omega
    obtain rfl : n = 0 := by omega
    exact ⟨[], by simp, by simpa using h⟩
  · obtain ⟨rfl, rfl⟩ : a = some ⟨g, 0, none⟩ ∧ c = cap := by simpa using h'
    have h1 : m * size ≤ c * size := Nat.mul_le_mul_right _ hc
    have h2 : n * size ≤ m * size := Nat.mul_le_mul_right _ hm
    have hl : (cur.toList.take (m * size)).length = m * size := by rw [List.length_take, Array.length_toList, hs]; omega
    refine ⟨(cur.toList.take (m * size)).drop (n * size), by rw [List.length_drop, hl, Nat.sub_mul], ?_, .inr ⟨g, c, cur, rfl, hb, hg, hc, hcm, hs, ?_⟩⟩
    · rw [List.length_append, h.1, List.length_drop, hl]; omega
    · rw [← ht]
      have : cur.toList.take (n * size) = (cur.toList.take (m * size)).take (n * size) := by rw [List.take_take, Nat.min_eq_left h2]
      rw [this, List.take_append_drop]

/-- 'clear' of cells behind an owned row's elements -/
theorem wpList_clr {P : Program} {w : World} {ops : Array Oper} {rest : List Oper} {o : Oper} {a : Act} {Q : Exit → Act → World → Prop} (hgd : o.guard = none) (s : Operand) (sT : TypeId)
    (ho : o.op = .call { callee := .builtin .clear, args := #[s], argTypes := #[sT] }) (e : TypeId) (hu : P.underlying sT = some (.slice e)) (size : Nat) (z : Value) (hz : ∀ w, (zeroValue e).run P w = .ok z w) (hzs : z.cells.size = size) (hz1 : ∀ u ∈ z.cells, u.oneCell' = true)
    (base n k c : Nat) (cc : Nat) (ao : Option Addr) (xs : List Value) (hs : a.eval s = .slice (cutA ao n c size) k cc) (hown : w.ownsRow base e size (.slice ao n c) n xs) (hfit : n + k ≤ c)
    (h : ∀ w', w'.ownsRow base e size (.slice ao n c) n xs → w.grownBy w' (Value.ownBlock (.slice ao n c)) → wpList P ops Q rest (a.put o.dst (.tuple #[])) w') :
    wpList P ops Q (o :: rest) a w := by
  refine wpList_plain hgd fun K hK => ?_
  have key : ∃ w', (Builtin.clear_ #[sT] o.type #[.slice (cutA ao n c size) k cc]).run P w = .ok (.tuple #[]) w' ∧ w'.ownsRow base e size (.slice ao n c) n xs ∧ w.grownBy w' (Value.ownBlock (.slice ao n c)) := by
    rcases Nat.eq_zero_or_pos k with rfl | hk
    · refine ⟨w, ?_, hown, ⟨rfl, rfl, rfl, Nat.le_refl _, fun _ _ _ => rfl⟩⟩
      cases cutA ao n c size <;> simp [Builtin.clear_, run_underlying hu]
    · rcases hown.2 with ⟨h', h2⟩ | ⟨g, cap, cur, h', hb, hg, hn, hcm, hsz, ht⟩
      · obtain ⟨rfl, rfl⟩ : ao = none ∧ c = 0 := by simp at h'; exact ⟨h'.1, h'.2.2⟩
        omega
      · obtain ⟨rfl, rfl⟩ : ao = some ⟨g, 0, none⟩ ∧ c = cap := by simpa using h'
        have hcut : cutA (some ⟨g, 0, none⟩) n c size = some ⟨g, n * size, none⟩ := by
          unfold cutA
          rw [if_neg (by omega)]
          simp [Addr.add_lit]
        have hzl : (Builtin.zeroCells z.cells k).toList.length = k * size := by rw [← hzs]; simp [Builtin.zeroCells]
        have hz1' : ∀ u ∈ (Builtin.zeroCells z.cells k).toList, u.oneCell' = true := by
          intro u hu
          simp only [Builtin.zeroCells, Array.toList_map, List.mem_map, Array.toList_range, List.mem_range] at hu
          obtain ⟨i, hi, rfl⟩ := hu
          have hpos : 0 < z.cells.size := by
            rcases Nat.eq_zero_or_pos z.cells.size with h0 | h0
            · rw [h0, Nat.mul_zero] at hi; omega
            · exact h0
          have hlt : i % z.cells.size < z.cells.size := Nat.mod_lt _ hpos
          rw [getElem!_pos z.cells (i % z.cells.size) hlt]
          exact hz1 _ (Array.getElem_mem _)
        have hnk : n * size + k * size ≤ c * size := by rw [← Nat.add_mul]; exact Nat.mul_le_mul_right _ hfit
        have hst := run_storeCells_at P g (n * size) e (Builtin.zeroCells z.cells k).toList 0 cur w hg (by rw [hzl]; omega) hz1'
        refine ⟨w.setRow g (cur.toList.take (n * size) ++ (Builtin.zeroCells z.cells k).toList ++ cur.toList.drop (n * size + (Builtin.zeroCells z.cells k).toList.length)).toArray, ?_, ?_, ?_⟩
        · obtain ⟨m, rfl⟩ : ∃ m, k = m + 1 := ⟨k - 1, by omega⟩
          simp only [Nat.add_zero] at hst
          simp [Builtin.clear_, run_underlying hu, hz, hcut, hst]
        · refine ⟨hown.1, .inr ⟨g, c, _, rfl, hb, setRow_heap w g cur _ e _ hg, hn, hcm, ?_, ?_⟩⟩
          · simp only [List.size_toArray, List.length_append, List.length_take, List.length_drop, Array.length_toList, hzl]; omega
          · have hl : (cur.toList.take (n * size)).length = n * size := by rw [List.length_take, Array.length_toList]; omega
            rw [List.append_assoc]
            rw [List.take_left' hl]; exact ht
        · exact ⟨rfl, rfl, rfl, by simp [World.setRow], fun k _ hk => setRow_other w g k _ (fun e => hk (by simp [Value.ownBlock, e]))⟩
  obtain ⟨w', hr, h2, h3⟩ := key
  unfold Oper.wp execOp
  simp only [ho, resolve, invoke, builtin, Sem.run_bind, Sem.run_pure, Result.andThen_ok, List.map_toArray, List.map_cons, List.map_nil, hs, hr]
  exact hK _ _ (h w' h2 h3)
end Go.Proofs.YtkcaheebaicinaaGreatDoor
/- Rows of structs: elements of k cells each, one behind the other. No program in sight. -/
namespace Go.Proofs.YtkcaheebaicinaaGreatDoor
open Go.RowKit
variable {α : Type}

/-- the cells of a list of structs -/
def flat (enc : α → List Value) (l : List α) : List Value := l.flatMap enc

theorem flat_length {enc : α → List Value} {k : Nat} (hk : ∀ x, (enc x).length = k) (l : List α) : (flat enc l).length = l.length * k := by
  unfold flat
  induction l with
  | nil => simp
  | cons x l ih => rw [List.flatMap_cons, List.length_append, hk, ih, List.length_cons, Nat.succ_mul, Nat.add_comm]

theorem flat_append (enc : α → List Value) (l m : List α) : flat enc (l ++ m) = flat enc l ++ flat enc m := by simp [flat]
theorem flat_nil (enc : α → List Value) : flat enc [] = [] := rfl
theorem flat_cons (enc : α → List Value) (x : α) (l : List α) : flat enc (x :: l) = enc x ++ flat enc l := by simp [flat]
theorem flat_one (enc : α → List Value) (x : α) : flat enc [x] = enc x := by simp [flat]

theorem flat_take {enc : α → List Value} {k : Nat} (hk : ∀ x, (enc x).length = k) (l : List α) (n : Nat) : (flat enc l).take (n * k) = flat enc (l.take n) := by
  by_cases h : n ≤ l.length
  · conv => lhs; rw [← List.take_append_drop n l, flat_append]
    rw [List.take_left' (by rw [flat_length hk, List.length_take, Nat.min_eq_left h])]
  · rw [List.take_of_length_le (show l.length ≤ n by omega), List.take_of_length_le (by rw [flat_length hk]; exact Nat.mul_le_mul_right _ (by omega))]
theorem flat_drop {enc : α → List Value} {k : Nat} (hk : ∀ x, (enc x).length = k) (l : List α) (n : Nat) : (flat enc l).drop (n * k) = flat enc (l.drop n) := by
  by_cases h : n ≤ l.length
  · conv => lhs; rw [← List.take_append_drop n l, flat_append]
    rw [List.drop_left' (by rw [flat_length hk, List.length_take, Nat.min_eq_left h])]
  · rw [List.drop_eq_nil_of_le (show l.length ≤ n by omega), List.drop_eq_nil_of_le (by rw [flat_length hk]; exact Nat.mul_le_mul_right _ (by omega))]; rfl

theorem flat_get {enc : α → List Value} {k : Nat} (hk : ∀ x, (enc x).length = k) (l : List α) (j : Nat) (hj : j < l.length) (i : Nat) (hi : i < k) : (flat enc l)[j * k + i]? = (enc l[j])[i]? := by
  rw [← List.getElem?_drop, flat_drop hk, List.drop_eq_getElem_cons hj, flat_cons, List.getElem?_append_left (by rw [hk]; exact hi)]

theorem flat_set {enc : α → List Value} {k : Nat} (hk : ∀ x, (enc x).length = k) (l : List α) (j : Nat) (hj : j < l.length) (x : α) : (flat enc l).take (j * k) ++ enc x ++ (flat enc l).drop ((j + 1) * k) = flat enc (l.set j x) := by
  rw [flat_take hk, flat_drop hk, List.set_eq_take_append_cons_drop, if_pos hj, flat_append, flat_cons, List.append_assoc]

/-- an element's cells -/
theorem row_elem {enc : α → List Value} {k : Nat} (hk : ∀ x, (enc x).length = k) (hk0 : 0 < k) {w : World} {a : Option Addr} {l : List α} (h : Row w a (flat enc l)) {j : Nat} (hj : j < l.length) :
    ∃ b off, a = some ⟨b, off, none⟩ ∧ b < w.heap.size ∧ ∀ i v, (enc l[j])[i]? = some v → w.cell? ⟨b, off + j * k + i, none⟩ = some v := by
  have h0 : (flat enc l)[j * k + 0]? = some ((enc l[j])[0]'(by rw [hk]; exact hk0)) := by
    rw [flat_get hk l j hj 0 hk0, List.getElem?_eq_getElem]
  obtain ⟨b, off, e, hb, _⟩ := h _ _ h0
  refine ⟨b, off, e, hb, fun i v hi => ?_⟩
  have hik : i < k := by have := (List.getElem?_eq_some_iff.1 hi).1; rw [hk] at this; exact this
  obtain ⟨b', off', e', _, hc⟩ := h (j * k + i) v (by rw [flat_get hk l j hj i hik]; exact hi)
  rw [e] at e'
  obtain ⟨rfl, rfl⟩ : b = b' ∧ off = off' := by simpa using e'
  rw [Nat.add_assoc]; exact hc

/-- an element loaded whole -/
theorem load_elem {P : Program} {enc : α → List Value} {k : Nat} (hk : ∀ x, (enc x).length = k) {w : World} {b off j : Nat} {x : α} (h : ∀ i v, (enc x)[i]? = some v → w.cell? ⟨b, off + j * k + i, none⟩ = some v) :
    Sem.run P (loadCellsFrom ⟨b, off + j * k, none⟩ 0 k #[]) w = .ok (enc x).toArray w := by
  have := run_loadCells_list (P := P) (w := w) ⟨b, off + j * k, none⟩ (enc x) (fun i v hi => by rw [Addr.add_lit]; exact h i v hi)
  rw [hk] at this
  simpa [loadCells] using this

/-- an element of an owned row is written -/
theorem own_elem {enc : α → List Value} {k : Nat} (hk : ∀ x, (enc x).length = k) (hk0 : 0 < k) {w : World} {base : Nat} {e : TypeId} {a : Option Addr} {n c : Nat} {l : List α} (h : w.ownsRow base e k (.slice a n c) n (flat enc l)) {j : Nat} (hj : j < l.length) :
    ∃ g, a = some ⟨g, 0, none⟩ ∧ base ≤ g ∧ g < w.heap.size ∧ (∀ i v, (enc l[j])[i]? = some v → w.cell? ⟨g, j * k + i, none⟩ = some v) ∧ ∀ i, w.frozen? ⟨g, i, none⟩ = false := by
  obtain ⟨b, off, e1, hb, hc⟩ := row_elem hk hk0 (own_row h) hj
  rcases h.2 with ⟨h', h2⟩ | ⟨g, cap, cur, h', hbg, hg, _⟩
  · have h1 := h.1; rw [h2, Nat.zero_mul, flat_length hk] at h1
    have : 0 < l.length * k := Nat.mul_pos (by omega) hk0
    omega
  · obtain ⟨rfl, rfl⟩ : a = some ⟨g, 0, none⟩ ∧ c = cap := by simpa using h'
    obtain ⟨rfl, rfl⟩ : g = b ∧ 0 = off := by simpa using e1
    refine ⟨g, rfl, hbg, hb, fun i v hi => by have := hc i v hi; rw [Nat.zero_add] at this; exact this, fun i => World.ownsRow.frozenAt h i⟩

theorem own_flat_len {enc : α → List Value} {k : Nat} (hk : ∀ x, (enc x).length = k) (hk0 : 0 < k) {w : World} {base : Nat} {e : TypeId} {v : Value} {n : Nat} {l : List α} (h : w.ownsRow base e k v n (flat enc l)) : l.length = n := by
  have h1 := h.1
  rw [flat_length hk] at h1
  exact Nat.eq_of_mul_eq_mul_right hk0 h1
end Go.Proofs.YtkcaheebaicinaaGreatDoor
/- Regions that draw their order, whose operations only read old memory and whose callees lay new blocks alone: one walk in the order of the text, at the class 'w with new blocks behind it'. No program in sight. -/
namespace Go.Proofs.YtkcaheebaicinaaGreatDoor
open Go.RowKit
open Classical in
/-- x, where x is w with new blocks; else w itself. -/
noncomputable def ext (w x : World) : World := if Below w.heap.size w x then x else w

theorem ext_below (w x : World) : Below w.heap.size w (ext w x) := by
  unfold ext
  split
  · assumption
  · exact Below.refl _ _
theorem ext_of {w x : World} (h : Below w.heap.size w x) : ext w x = x := by unfold ext; rw [if_pos h]

@[go_sem] theorem cell_ext {w x : World} {b o : Nat} {s : Option Nat} (h : b < w.heap.size) : (ext w x).cell? ⟨b, o, s⟩ = w.cell? ⟨b, o, s⟩ := (ext_below w x).cell (p := ⟨b, o, s⟩) h
@[go_sem] theorem frozen_ext {w x : World} {b o : Nat} {s : Option Nat} (h : b < w.heap.size) : (ext w x).frozen? ⟨b, o, s⟩ = w.frozen? ⟨b, o, s⟩ := (ext_below w x).frozen (p := ⟨b, o, s⟩) h

theorem wp_region_ext_lit {P : Program} {id : Nat} {Q : Exit → Act → World → Prop} {a : Act} {w : World} {l : List Oper} (hm : P.follows .mixedOrders = true) (hB : Region.lexB .any l.toArray = true)
    (h : wpQuiet P l.toArray (fun w' => ∃ x, w' = ext w x) (fun a' => ∀ w', (∃ x, w' = ext w x) → Q .normal a' w') l a) : (Code.region id l.toArray true).wp P Q a w :=
  wp_region_quiet (C := fun w' => ∃ x, w' = ext w x) hm hB ⟨w.drew, (ext_of (Below.refl _ _).drew).symm⟩ (by simpa using h)

theorem Calls.ext_of {P : Program} {f : FuncId} {args : Array Value} {w x : World} {v : Value}
    (h : Calls P f args (ext w x) fun e w' => e = .returned v ∧ Below (ext w x).heap.size (ext w x) w') : Calls P f args (ext w x) fun e w'' => e = .returned v ∧ ∃ y, w'' = ext w y :=
  h.mono fun _ w' ⟨he, hb⟩ => ⟨he, w', (Go.Proofs.YtkcaheebaicinaaGreatDoor.ext_of ((ext_below w x).trans (hb.mono (ext_below w x).size))).symm⟩
theorem Calls.ext_same {P : Program} {f : FuncId} {args : Array Value} {w x : World} {v : Value}
    (h : Calls P f args (ext w x) fun e w' => e = .returned v ∧ ext w x = w') : Calls P f args (ext w x) fun e w'' => e = .returned v ∧ ∃ y, w'' = ext w y :=
  h.mono fun _ _ ⟨he, hb⟩ => ⟨he, x, hb.symm⟩
theorem Calls.ext_drew {P : Program} {f : FuncId} {args : Array Value} {w x : World} {v : Value}
    (h : Calls P f args (ext w x) fun e w' => e = .returned v ∧ ∃ m, w' = (ext w x).drewN m) : Calls P f args (ext w x) fun e w'' => e = .returned v ∧ ∃ y, w'' = ext w y :=
  Calls.ext_of (h.mono fun _ _ ⟨he, m, hb⟩ => ⟨he, by rw [hb]; exact below_drewN (Below.refl _ _) m⟩)

theorem keepB {B : Nat} {a W W' : World} (h2 : Below W.heap.size W W') (h1 : Below B a W) (hB : B ≤ W.heap.size) : Below B a W' := h1.trans (h2.mono hB)
/-- world after world -/
theorem Below.step {w w1 w2 : World} (h1 : Below w.heap.size w w1) (h2 : Below w1.heap.size w1 w2) : Below w.heap.size w w2 := h1.trans (h2.mono h1.size)

/-! ## Boxes: blocks that the call itself has laid, known whole -/
theorem box_new (w : World) (vs : Array Value) (t : TypeId) (o : Nat) : (w.alloc (.cells vs t)).cell? ⟨w.heap.size, o, none⟩ = vs[o]? := cell_of_row _ _ _ _ _ _ (heap_alloc_new w _)
theorem box_frz (w : World) (vs : Array Value) (t : TypeId) (o : Nat) : (w.alloc (.cells vs t)).frozen? ⟨w.heap.size, o, none⟩ = false := by
  unfold World.frozen?
  rw [heap_alloc_new]
  simp
/-- a box that the call has just laid, behind a callee -/
theorem box_call {w w1 : World} {vs : Array Value} {t : TypeId} (h : Below (w.alloc (.cells vs t)).heap.size (w.alloc (.cells vs t)) w1) (o : Nat) : w1.cell? ⟨w.heap.size, o, none⟩ = vs[o]? := by
  rw [h.cell (p := ⟨w.heap.size, o, none⟩) (by simp)]; exact box_new w vs t o
theorem box_size {w w1 : World} {vs : Array Value} {t : TypeId} (h : Below (w.alloc (.cells vs t)).heap.size (w.alloc (.cells vs t)) w1) : w.heap.size < w1.heap.size := by
  have := h.size; simp at this; omega
theorem frz_call {w w1 : World} {vs : Array Value} {t : TypeId} (h : Below (w.alloc (.cells vs t)).heap.size (w.alloc (.cells vs t)) w1) (o : Nat) : w1.frozen? ⟨w.heap.size, o, none⟩ = false := by
  rw [h.frozen (p := ⟨w.heap.size, o, none⟩) (by simp)]; exact box_frz w vs t o
/-- a box behind one callee more -/
theorem box_step {w1 w2 : World} {b : Nat} {vs : Array Value} (h : ∀ o, w1.cell? ⟨b, o, none⟩ = vs[o]?) (hlt : b < w1.heap.size) (hb : Below w1.heap.size w1 w2) (o : Nat) : w2.cell? ⟨b, o, none⟩ = vs[o]? := by
  rw [hb.cell (p := ⟨b, o, none⟩) hlt]; exact h o
theorem frz_step {w1 w2 : World} {b : Nat} (h : ∀ o, w1.frozen? ⟨b, o, none⟩ = false) (hlt : b < w1.heap.size) (hb : Below w1.heap.size w1 w2) (o : Nat) : w2.frozen? ⟨b, o, none⟩ = false := by
  rw [hb.frozen (p := ⟨b, o, none⟩) hlt]; exact h o
theorem below_alloc (w : World) (o : Obj) : Below w.heap.size w (w.alloc o) := (Below.refl _ _).alloc (Nat.le_refl _) _

/-- a cell of a box is written -/
theorem box_set {w : World} {b : Nat} {vs : Array Value} (h : ∀ o, w.cell? ⟨b, o, none⟩ = vs[o]?) (i : Nat) (u : Value) (o : Nat) : (w.setCell ⟨b, i, none⟩ u).cell? ⟨b, o, none⟩ = (vs.setIfInBounds i u)[o]? := by
  have h0 := h o
  unfold World.cell? World.setCell at *
  simp only [Array.getElem?_modify, if_true] at *
  cases hb : w.heap[b]? with
  | none => rw [hb] at h0; simp only [Option.map_none] at *; rw [Array.getElem?_setIfInBounds]; split
            · rename_i e; subst e
              split
              · rename_i hlt; rw [Array.getElem?_eq_getElem hlt] at h0; cases h0
              · rfl
            · exact h0
  | some ob =>
    rw [hb] at h0
    cases ob with
    | cells c t fr =>
      simp only [Option.map_some, Option.isSome_none, Bool.false_eq_true, if_false] at *
      rw [Array.getElem?_setIfInBounds, Array.getElem?_setIfInBounds, h0]
      have hsz : i = o → (i < c.size ↔ i < vs.size) := fun e => by
        subst e
        constructor
        · intro hl; rw [Array.getElem?_eq_getElem hl] at h0
          exact (Array.getElem?_eq_some_iff.1 h0.symm).1
        · intro hl; rw [Array.getElem?_eq_getElem hl] at h0
          exact (Array.getElem?_eq_some_iff.1 h0).1
      by_cases e : i = o
      · rw [if_pos e, if_pos e]
        by_cases hl : i < c.size
        · rw [if_pos hl, if_pos ((hsz e).1 hl)]
        · rw [if_neg hl, if_neg (fun h => hl ((hsz e).2 h))]
      · rw [if_neg e, if_neg e]
    | _ => simp only [Option.map_some] at *; rw [Array.getElem?_setIfInBounds]; split
           · rename_i e; subst e
             split
             · rename_i hlt; rw [Array.getElem?_eq_getElem hlt] at h0; cases h0
             · rfl
           · exact h0
theorem frz_set {w : World} {b : Nat} (h : ∀ o, w.frozen? ⟨b, o, none⟩ = false) (a : Addr) (u : Value) (o : Nat) : (w.setCell a u).frozen? ⟨b, o, none⟩ = false := by
  rw [World.frozen?_setCell]; exact h o
/-- a box beside a written cell -/
theorem box_set_other {W : World} {b c : Nat} {A : Array Value} (h : ∀ o, W.cell? ⟨b, o, none⟩ = A[o]?) (hne : b ≠ c) (i : Nat) (u : Value) (o : Nat) : (W.setCell ⟨c, i, none⟩ u).cell? ⟨b, o, none⟩ = A[o]? := by
  have hx : (⟨c, i, none⟩ : Addr) ≠ ⟨b, o, none⟩ := fun e => hne (by simpa using (congrArg Addr.block e).symm)
  exact (World.cell?_setCell_other _ _ _ _ hx).trans (h o)
theorem own_ne {w : World} {base : Nat} {e : TypeId} {size : Nat} {v : Value} {n : Nat} {xs : List Value} (h : w.ownsRow base e size v n xs) {b : Nat} (hb : b < base ∨ w.heap.size ≤ b) : v.ownBlock ≠ some b := fun e => by
  have := h.lt b e; omega
theorem own_set {w : World} {base : Nat} {e : TypeId} {size : Nat} {v : Value} {n : Nat} {xs : List Value} (h : w.ownsRow base e size v n xs) {b i : Nat} (hb : v.ownBlock ≠ some b) (u : Value) : (w.setCell ⟨b, i, none⟩ u).ownsRow base e size v n xs :=
  ownsRow_setCell_other h hb u

theorem boxes1 (w : World) (A : Array Value) (tA : TypeId) :
    (∀ o, (w.alloc (.cells A tA)).cell? ⟨w.heap.size, o, none⟩ = A[o]?) ∧ (∀ o, (w.alloc (.cells A tA)).frozen? ⟨w.heap.size, o, none⟩ = false) ∧
    w.heap.size < (w.alloc (.cells A tA)).heap.size ∧ Below w.heap.size w (w.alloc (.cells A tA)) :=
  ⟨box_new w A tA, box_frz w A tA, by simp, below_alloc _ _⟩
theorem boxes2 (w : World) (A : Array Value) (tA : TypeId) (B : Array Value) (tB : TypeId) :
    (∀ o, ((w.alloc (.cells A tA)).alloc (.cells B tB)).cell? ⟨w.heap.size, o, none⟩ = A[o]?) ∧ (∀ o, ((w.alloc (.cells A tA)).alloc (.cells B tB)).cell? ⟨w.heap.size + 1, o, none⟩ = B[o]?) ∧
    (∀ o, ((w.alloc (.cells A tA)).alloc (.cells B tB)).frozen? ⟨w.heap.size, o, none⟩ = false) ∧ (∀ o, ((w.alloc (.cells A tA)).alloc (.cells B tB)).frozen? ⟨w.heap.size + 1, o, none⟩ = false) ∧
    w.heap.size + 1 < ((w.alloc (.cells A tA)).alloc (.cells B tB)).heap.size ∧ Below w.heap.size w ((w.alloc (.cells A tA)).alloc (.cells B tB)) := by
  have h := boxes1 (w.alloc (.cells A tA)) B tB
  have hs : (w.alloc (.cells A tA)).heap.size = w.heap.size + 1 := by simp
  rw [hs] at h
  obtain ⟨h1, h2, h3, h4⟩ := h
  rw [← hs] at h4
  exact ⟨box_step (box_new w A tA) (by simp) h4, h1, frz_step (box_frz w A tA) (by simp) h4, h2, h3, Below.step (below_alloc _ _) h4⟩
theorem boxes3 (w : World) (A : Array Value) (tA : TypeId) (B : Array Value) (tB : TypeId) (C : Array Value) (tC : TypeId) :
    (∀ o, (((w.alloc (.cells A tA)).alloc (.cells B tB)).alloc (.cells C tC)).cell? ⟨w.heap.size, o, none⟩ = A[o]?) ∧ (∀ o, (((w.alloc (.cells A tA)).alloc (.cells B tB)).alloc (.cells C tC)).cell? ⟨w.heap.size + 1, o, none⟩ = B[o]?) ∧ (∀ o, (((w.alloc (.cells A tA)).alloc (.cells B tB)).alloc (.cells C tC)).cell? ⟨w.heap.size + 1 + 1, o, none⟩ = C[o]?) ∧
    (∀ o, (((w.alloc (.cells A tA)).alloc (.cells B tB)).alloc (.cells C tC)).frozen? ⟨w.heap.size, o, none⟩ = false) ∧ (∀ o, (((w.alloc (.cells A tA)).alloc (.cells B tB)).alloc (.cells C tC)).frozen? ⟨w.heap.size + 1, o, none⟩ = false) ∧ (∀ o, (((w.alloc (.cells A tA)).alloc (.cells B tB)).alloc (.cells C tC)).frozen? ⟨w.heap.size + 1 + 1, o, none⟩ = false) ∧
    w.heap.size + 2 < (((w.alloc (.cells A tA)).alloc (.cells B tB)).alloc (.cells C tC)).heap.size ∧ Below w.heap.size w (((w.alloc (.cells A tA)).alloc (.cells B tB)).alloc (.cells C tC)) := by
  obtain ⟨h1, h2, h3, h4, h5, h6⟩ := boxes2 w A tA B tB
  have h := boxes1 ((w.alloc (.cells A tA)).alloc (.cells B tB)) C tC
  have hs : ((w.alloc (.cells A tA)).alloc (.cells B tB)).heap.size = w.heap.size + 1 + 1 := by simp
  rw [hs] at h
  obtain ⟨k1, k2, k3, k4⟩ := h
  rw [← hs] at k4
  exact ⟨box_step h1 (by omega) k4, box_step h2 h5 k4, k1, frz_step h3 (by omega) k4, frz_step h4 h5 k4, k2, k3, Below.step h6 k4⟩
end Go.Proofs.YtkcaheebaicinaaGreatDoor
