/- Owned rows: prefixes, spare cells, 'clear' of spare cells, 'append' of zeros. No program in sight. -/
import Derived.Test.YtbkajbjhffdlfaaDoorBase2
import Derived.Lib.AppendZerosOnto
import Derived.Lib.SliceRun
namespace Go.Proofs.YtbkajbjhffdlfaaDoor
open Go.RowKit

theorem own_prefix {w : World} {base : Nat} {e : TypeId} {size : Nat} {a : Option Addr} {n c : Nat} {xs : List Value} (h : w.ownsRow base e size (.slice a n c) n xs) {i : Nat} (hi : i ≤ n) : w.ownsRow base e size (.slice a i c) i (xs.take (i * size)) := by
  have hm : i * size ≤ n * size := Nat.mul_le_mul_right _ hi
  refine ⟨by rw [List.length_take, h.1]; omega, ?_⟩
  rcases h.2 with ⟨h', h2⟩ | ⟨g, cap, cur, h', hb, hg, hn, hc, hs, ht⟩
  · obtain ⟨rfl, rfl⟩ : a = none ∧ c = 0 := by simp at h'; exact ⟨h'.1, h'.2.2⟩
    obtain rfl : i = 0 := by omega
    exact .inl ⟨rfl, rfl⟩
  · obtain ⟨rfl, rfl⟩ : a = some ⟨g, 0, none⟩ ∧ c = cap := by simpa using h'
    exact .inr ⟨g, c, cur, rfl, hb, hg, by omega, hc, hs, by rw [← ht, List.take_take, Nat.min_eq_left hm]⟩

/-- the spare cells too -/
theorem own_room {w : World} {base : Nat} {e : TypeId} {size : Nat} {a : Option Addr} {n c : Nat} {xs : List Value} (h : w.ownsRow base e size (.slice a n c) n xs) {m : Nat} (hm : n ≤ m) (hc : m ≤ c) : ∃ ys : List Value, ys.length = (m - n) * size ∧ w.ownsRow base e size (.slice a m c) m (xs ++ ys) := by
  rcases h.2 with ⟨h', h2⟩ | ⟨g, cap, cur, h', hb, hg, hn, hcm, hs, ht⟩
  · obtain ⟨rfl, rfl⟩ : a = none ∧ c = 0 := by simp at h'; exact ⟨h'.1, h'.2.2⟩
    obtain rfl : m = 0 := by omega
    obtain rfl : n = 0 := by omega
    exact ⟨[], by simp, by simpa using h⟩
  · obtain ⟨rfl, rfl⟩ : a = some ⟨g, 0, none⟩ ∧ c = cap := by simpa using h'
    have h1 : m * size ≤ c * size := Nat.mul_le_mul_right _ hc
    have h2 : n * size ≤ m * size := Nat.mul_le_mul_right _ hm
    have hl : (cur.toList.take (m * size)).length = m * size := by rw [List.length_take, Array.length_toList, hs]; omega
    refine ⟨(cur.toList.take (m * size)).drop (n * size), by rw [List.length_drop, hl, Nat.sub_mul], ?_, .inr ⟨g, c, cur, rfl, hb, hg, hc, hcm, hs, ?_⟩⟩
    · rw [List.length_append, h.1, List.length_drop, hl]; omega
    · rw [← ht]
      have : cur.toList.take (n * size) = (cur.toList.take (m * size)).take (n * size) := by rw [List.take_take, Nat.min_eq_left h2]
      rw [this, List.take_append_drop]

/-- 'clear' of cells behind an owned row's elements -/
theorem wpList_clr {P : Program} {w : World} {ops : Array Oper} {rest : List Oper} {o : Oper} {a : Act} {Q : Exit → Act → World → Prop} (hgd : o.guard = none) (s : Operand) (sT : TypeId)
    (ho : o.op = .call { callee := .builtin .clear, args := #[s], argTypes := #[sT] }) (e : TypeId) (hu : P.underlying sT = some (.slice e)) (size : Nat) (z : Value) (hz : ∀ w, (zeroValue e).run P w = .ok z w) (hzs : z.cells.size = size) (hz1 : ∀ u ∈ z.cells, u.oneCell' = true)
    (base n k c : Nat) (cc : Nat) (ao : Option Addr) (xs : List Value) (hs : a.eval s = .slice (cutA ao n c size) k cc) (hown : w.ownsRow base e size (.slice ao n c) n xs) (hfit : n + k ≤ c)
    (h : ∀ w', w'.ownsRow base e size (.slice ao n c) n xs → w.grownBy w' (Value.ownBlock (.slice ao n c)) → wpList P ops Q rest (a.put o.dst (.tuple #[])) w') :
    wpList P ops Q (o :: rest) a w := by
  refine wpList_plain hgd fun K hK => ?_
  have key : ∃ w', (Builtin.clear_ #[sT] o.type #[.slice (cutA ao n c size) k cc]).run P w = .ok (.tuple #[]) w' ∧ w'.ownsRow base e size (.slice ao n c) n xs ∧ w.grownBy w' (Value.ownBlock (.slice ao n c)) := by
    rcases Nat.eq_zero_or_pos k with rfl | hk
    · refine ⟨w, ?_, hown, ⟨rfl, rfl, rfl, Nat.le_refl _, fun _ _ _ => rfl⟩⟩
      cases cutA ao n c size <;> simp [Builtin.clear_, run_underlying hu]
    · rcases hown.2 with ⟨h', h2⟩ | ⟨g, cap, cur, h', hb, hg, hn, hcm, hsz, ht⟩
      · obtain ⟨rfl, rfl⟩ : ao = none ∧ c = 0 := by simp at h'; exact ⟨h'.1, h'.2.2⟩
        omega
      · obtain ⟨rfl, rfl⟩ : ao = some ⟨g, 0, none⟩ ∧ c = cap := by simpa using h'
        have hcut : cutA (some ⟨g, 0, none⟩) n c size = some ⟨g, n * size, none⟩ := by
          unfold cutA
          rw [if_neg (by omega)]
          simp [Addr.add_lit]
        have hzl : (Builtin.zeroCells z.cells k).toList.length = k * size := by rw [← hzs]; simp [Builtin.zeroCells]
        have hz1' : ∀ u ∈ (Builtin.zeroCells z.cells k).toList, u.oneCell' = true := by
          intro u hu
          simp only [Builtin.zeroCells, Array.toList_map, List.mem_map, Array.toList_range, List.mem_range] at hu
          obtain ⟨i, hi, rfl⟩ := hu
          have hpos : 0 < z.cells.size := by
            rcases Nat.eq_zero_or_pos z.cells.size with h0 | h0
            · rw [h0, Nat.mul_zero] at hi; omega
            · exact h0
          have hlt : i % z.cells.size < z.cells.size := Nat.mod_lt _ hpos
          rw [getElem!_pos z.cells (i % z.cells.size) hlt]
          exact hz1 _ (Array.getElem_mem _)
        have hnk : n * size + k * size ≤ c * size := by rw [← Nat.add_mul]; exact Nat.mul_le_mul_right _ hfit
        have hst := run_storeCells_at P g (n * size) e (Builtin.zeroCells z.cells k).toList 0 cur w hg (by rw [hzl]; omega) hz1'
        refine ⟨w.setRow g (cur.toList.take (n * size) ++ (Builtin.zeroCells z.cells k).toList ++ cur.toList.drop (n * size + (Builtin.zeroCells z.cells k).toList.length)).toArray, ?_, ?_, ?_⟩
        · obtain ⟨m, rfl⟩ : ∃ m, k = m + 1 := ⟨k - 1, by omega⟩
          simp only [Nat.add_zero] at hst
          simp [Builtin.clear_, run_underlying hu, hz, hcut, hst]
        · refine ⟨hown.1, .inr ⟨g, c, _, rfl, hb, setRow_heap w g cur _ e _ hg, hn, hcm, ?_, ?_⟩⟩
          · simp only [List.size_toArray, List.length_append, List.length_take, List.length_drop, Array.length_toList, hzl]; omega
          · have hl : (cur.toList.take (n * size)).length = n * size := by rw [List.length_take, Array.length_toList]; omega
            rw [List.append_assoc]
            rw [List.take_left' hl]; exact ht
        · exact ⟨rfl, rfl, rfl, by simp [World.setRow], fun k _ hk => setRow_other w g k _ (fun e => hk (by simp [Value.ownBlock, e]))⟩
  obtain ⟨w', hr, h2, h3⟩ := key
  unfold Oper.wp execOp
  simp only [ho, resolve, invoke, builtin, Sem.run_bind, Sem.run_pure, Result.andThen_ok, List.map_toArray, List.map_cons, List.map_nil, hs, hr]
  exact hK _ _ (h w' h2 h3)
end Go.Proofs.YtbkajbjhffdlfaaDoor
