/- 'append' onto an owned row with room; owned rows beside one that grows. No program in sight. -/
import Derived.Test.YtbkajbjhffdlfaaDoorBase3
namespace Go.Proofs.YtbkajbjhffdlfaaDoor
open Go.RowKit

/-- 'append' onto an owned row that has room: in place -/
theorem wpList_appr {P : Program} {w : World} {ops : Array Oper} {rest : List Oper} {o : Oper} {a : Act} {Q : Exit → Act → World → Prop} (hgd : o.guard = none) (s x : Operand) (t : TypeId)
    (ho : o.op = .call { callee := .builtin .append, args := #[s, x], argTypes := #[t, t] })
    (base : Nat) (e : TypeId) (z : Value) (size bytes : Nat) (ht : P.underlying t = some (.slice e)) (hinfo : (P.info? e).map (fun i => (i.zero, i.size, i.bytes)) = some (some z, size, bytes)) (hsz : 0 < size)
    (as_ : Option Addr) (n cs : Nat) (xs : List Value) (hs : a.eval s = .slice as_ n cs) (hown : w.ownsRow base e size (.slice as_ n cs) n xs)
    (ax : Option Addr) (m cx : Nat) (news : List Value) (hx : a.eval x = .slice ax m cx) (hl : news.length = m * size) (hnews : Row w ax news) (h1 : ∀ u ∈ news, u.oneCell' = true)
    (hroom : n + m ≤ cs)
    (h : ∀ w', w'.ownsRow base e size (.slice as_ (n + m) cs) (n + m) (xs ++ news) → w.grownBy w' (Value.ownBlock (.slice as_ n cs)) → wpList P ops Q rest (a.put o.dst (.slice as_ (n + m) cs)) w') :
    wpList P ops Q (o :: rest) a w := by
  obtain ⟨i, hi, hz, hsize, hby⟩ := info_parts hinfo
  subst hsize
  refine wpList_plain hgd fun K hK => ?_
  have hlen : (xs ++ news).length = (n + m) * i.size := by rw [List.length_append, hown.1, hl, Nat.add_mul]
  have key : ∃ w', (Builtin.append_ #[t, t] o.type #[.slice as_ n cs, .slice ax m cx]).run P w = .ok (.slice as_ (n + m) cs) w' ∧ w'.ownsRow base e i.size (.slice as_ (n + m) cs) (n + m) (xs ++ news) ∧ w.grownBy w' (Value.ownBlock (.slice as_ n cs)) := by
    rcases Nat.eq_zero_or_pos m with rfl | hm
    · obtain rfl : news = [] := List.eq_nil_of_length_eq_zero (by simpa using hl)
      refine ⟨w, ?_, by simpa using hown, ⟨rfl, rfl, rfl, Nat.le_refl _, fun _ _ _ => rfl⟩⟩
      have hf := firstCells_row (P := P) i.size 0 ax 0 cx [] (by simp) (Row.nil w ax)
      cases as_ with
      | none =>
        rcases hown.2 with ⟨hv, rfl⟩ | ⟨g, cap, cur, hv, _⟩
        · obtain rfl : cs = 0 := by simp at hv; exact hv
          cases ax <;> simp [Builtin.append_, run_underlying ht, sizeOf, typeInfo, hi, Builtin.lenOf, Builtin.firstCells, loadCells, loadCellsFrom]
        · simp at hv
      | some ad =>
        have hn : n ≤ cs := by omega
        cases ax <;> simp [Builtin.append_, run_underlying ht, sizeOf, typeInfo, hi, Builtin.lenOf, Builtin.firstCells, loadCells, loadCellsFrom, hn, storeCells]
    · have hnz : news ≠ [] := by
        intro e; subst e
        have := Nat.mul_pos hm hsz
        simp at hl; omega
      obtain ⟨ad, rfl⟩ : ∃ ad, ax = some ad := by
        cases news with
        | nil => exact absurd rfl hnz
        | cons u l => obtain ⟨b, off, e1, _⟩ := hnews 0 u rfl; exact ⟨_, e1⟩
      rcases hown.2 with ⟨hv, rfl⟩ | ⟨g, cap, cur, hv, hbg, hg, hnc, hcm, hcs, htake⟩
      · obtain ⟨rfl, rfl⟩ : as_ = none ∧ cs = 0 := by simp at hv; exact hv
        omega
      · obtain ⟨rfl, rfl⟩ : as_ = some ⟨g, 0, none⟩ ∧ cs = cap := by simpa using hv
        have hfit : n * i.size + news.length ≤ cur.size := by rw [hl, hcs, ← Nat.add_mul]; exact Nat.mul_le_mul_right _ hroom
        have hr := run_append_room (P := P) w t o.type e i ht hi g n cs cur hg ad m cx news hl (fun j u hj => by
          obtain ⟨b, off, e1, _, h5⟩ := hnews j u hj
          obtain rfl : ad = ⟨b, off, none⟩ := by simpa using e1
          rw [Addr.add_lit]; exact h5) h1 hroom hfit
        refine ⟨_, hr, ⟨hlen, .inr ⟨g, cs, _, rfl, hbg, setRow_heap w g cur _ e _ hg, hroom, hcm, ?_, ?_⟩⟩, ⟨rfl, rfl, rfl, by simp [World.setRow], fun k _ hk => setRow_other w g k _ (fun e => hk (by simp [Value.ownBlock, e]))⟩⟩
        · simp only [List.size_toArray, List.length_append, List.length_take, List.length_drop, Array.length_toList]
          omega
        · rw [htake, ← hlen]
          exact List.take_left
  obtain ⟨w', hr, h2, h3⟩ := key
  unfold Oper.wp execOp
  simp only [ho, resolve, invoke, builtin, Sem.run_bind, Sem.run_pure, Result.andThen_ok, List.map_toArray, List.map_cons, List.map_nil, hs, hx, hr]
  exact hK _ _ (h w' h2 h3)

/-- an owned row behind the growth of another -/
theorem own_grown {w w' : World} {base : Nat} {e : TypeId} {size : Nat} {v : Value} {n : Nat} {xs : List Value} (h : w.ownsRow base e size v n xs) {row : Option Nat} (hg : w.grownBy w' row) (hne : ∀ k, v.ownBlock = some k → row ≠ some k) : w'.ownsRow base e size v n xs := by
  refine ⟨h.1, ?_⟩
  rcases h.2 with h' | ⟨g, cap, cur, h1, h2, hgg, rest⟩
  · exact .inl h'
  · refine .inr ⟨g, cap, cur, h1, h2, ?_, rest⟩
    rw [hg.block g (Array.getElem?_eq_some_iff.1 hgg).1 (fun e => hne g (by rw [h1]; rfl) e.symm)]
    exact hgg

/-- 'clear' of cells behind an owned row's elements, as a run -/
theorem run_clr {P : Program} {w : World} (sT ty : TypeId) (e : TypeId) (hu : P.underlying sT = some (.slice e)) (size : Nat) (z : Value) (hz : ∀ w, (zeroValue e).run P w = .ok z w) (hzs : z.cells.size = size) (hz1 : ∀ u ∈ z.cells, u.oneCell' = true)
    (base n k c : Nat) (cc : Nat) (ao : Option Addr) (xs : List Value) (hown : w.ownsRow base e size (.slice ao n c) n xs) (hfit : n + k ≤ c) :
    ∃ w', (Builtin.clear_ #[sT] ty #[.slice (cutA ao n c size) k cc]).run P w = .ok (.tuple #[]) w' ∧ w'.ownsRow base e size (.slice ao n c) n xs ∧ w.grownBy w' (Value.ownBlock (.slice ao n c)) := by
  rcases Nat.eq_zero_or_pos k with rfl | hk
  · refine ⟨w, ?_, hown, ⟨rfl, rfl, rfl, Nat.le_refl _, fun _ _ _ => rfl⟩⟩
    cases cutA ao n c size <;> simp [Builtin.clear_, run_underlying hu]
  · rcases hown.2 with ⟨h', h2⟩ | ⟨g, cap, cur, h', hb, hg, hn, hcm, hsz, ht⟩
    · obtain ⟨rfl, rfl⟩ : ao = none ∧ c = 0 := by simp at h'; exact ⟨h'.1, h'.2.2⟩
      omega
    · obtain ⟨rfl, rfl⟩ : ao = some ⟨g, 0, none⟩ ∧ c = cap := by simpa using h'
      have hcut : cutA (some ⟨g, 0, none⟩) n c size = some ⟨g, n * size, none⟩ := by
        unfold cutA
        rw [if_neg (by omega)]
        simp [Addr.add_lit]
      have hzl : (Builtin.zeroCells z.cells k).toList.length = k * size := by rw [← hzs]; simp [Builtin.zeroCells]
      have hz1' : ∀ u ∈ (Builtin.zeroCells z.cells k).toList, u.oneCell' = true := by
        intro u hu
        simp only [Builtin.zeroCells, Array.toList_map, List.mem_map, Array.toList_range, List.mem_range] at hu
        obtain ⟨i, hi, rfl⟩ := hu
        have hpos : 0 < z.cells.size := by
          rcases Nat.eq_zero_or_pos z.cells.size with h0 | h0
          · rw [h0, Nat.mul_zero] at hi; omega
          · exact h0
        have hlt : i % z.cells.size < z.cells.size := Nat.mod_lt _ hpos
        rw [getElem!_pos z.cells (i % z.cells.size) hlt]
        exact hz1 _ (Array.getElem_mem _)
      have hnk : n * size + k * size ≤ c * size := by rw [← Nat.add_mul]; exact Nat.mul_le_mul_right _ hfit
      have hst := run_storeCells_at P g (n * size) e (Builtin.zeroCells z.cells k).toList 0 cur w hg (by rw [hzl]; omega) hz1'
      refine ⟨w.setRow g (cur.toList.take (n * size) ++ (Builtin.zeroCells z.cells k).toList ++ cur.toList.drop (n * size + (Builtin.zeroCells z.cells k).toList.length)).toArray, ?_, ?_, ?_⟩
      · obtain ⟨m, rfl⟩ : ∃ m, k = m + 1 := ⟨k - 1, by omega⟩
        simp only [Nat.add_zero] at hst
        simp [Builtin.clear_, run_underlying hu, hz, hcut, hst]
      · refine ⟨hown.1, .inr ⟨g, c, _, rfl, hb, setRow_heap w g cur _ e _ hg, hn, hcm, ?_, ?_⟩⟩
        · simp only [List.size_toArray, List.length_append, List.length_take, List.length_drop, Array.length_toList, hzl]; omega
        · have hl : (cur.toList.take (n * size)).length = n * size := by rw [List.length_take, Array.length_toList]; omega
          rw [List.append_assoc]
          rw [List.take_left' hl]; exact ht
      · exact ⟨rfl, rfl, rfl, by simp [World.setRow], fun k _ hk => setRow_other w g k _ (fun e => hk (by simp [Value.ownBlock, e]))⟩

/-- 'copy' into an owned row, as a run -/
theorem run_cp {P : Program} {w : World} (dT sT ty : TypeId) (e : TypeId) (hu : P.underlying dT = some (.slice e)) (size : Nat) (hsz : (P.info? e).map (·.size) = some size)
    (dp sp : Option Addr) (dLen dCap sLen sCap : Nat)
    (cs : List Value) (hn : cs.length = Nat.min sLen dLen * size) (hcs : Row w sp cs) (h1 : ∀ u ∈ cs, u.oneCell' = true)
    (base N co p : Nat) (ao : Option Addr) (xs : List Value) (hown : w.ownsRow base e size (.slice ao N co) N xs) (hp : 0 < cs.length → dp = ao.map (·.add (p * size))) (hdn : dp = none → cs = []) (hfit : p * size + cs.length ≤ N * size) :
    ∃ w', (Builtin.copy_ #[dT, sT] ty #[.slice dp dLen dCap, .slice sp sLen sCap]).run P w = .ok (goInt (Nat.min sLen dLen : Nat)) w' ∧ w'.ownsRow base e size (.slice ao N co) N (xs.take (p * size) ++ cs ++ xs.drop (p * size + cs.length)) ∧ w.grownBy w' (Value.ownBlock (.slice ao N co)) := by
  cases hq : P.info? e with
  | none => simp [hq] at hsz
  | some i =>
    have hi : i.size = size := by simpa [hq] using hsz
    have hf := firstCells_row (P := P) size (Nat.min sLen dLen) sp sLen sCap cs hn hcs
    by_cases hc0 : 0 < cs.length
    · obtain ⟨g, cap, cur, hv, hbg, hg, hnc, hcm, hcsz, htk⟩ : ∃ g cap cur, Value.slice ao N co = .slice (some ⟨g, 0, none⟩) N cap ∧ base ≤ g ∧ w.heap[g]? = some (.cells cur e (0, 0)) ∧ N ≤ cap ∧ cap ≤ maxLen ∧ cur.size = cap * size ∧ cur.toList.take (N * size) = xs := by
        rcases hown.2 with ⟨_, h0⟩ | h
        · rw [h0, Nat.zero_mul] at hfit; omega
        · exact h
      obtain ⟨rfl, rfl⟩ : ao = some ⟨g, 0, none⟩ ∧ co = cap := by simpa using hv
      have hdp := hp hc0
      simp only [Option.map_some, Addr.add_lit, Nat.zero_add] at hdp
      subst hdp
      have hNc : N * size ≤ cur.size := by rw [hcsz]; exact Nat.mul_le_mul_right _ hnc
      have hst := run_storeCells_at P g (p * size) e cs 0 cur w hg (by omega) h1
      refine ⟨w.setRow g (cur.toList.take (p * size) ++ cs ++ cur.toList.drop (p * size + cs.length)).toArray, ?_, ?_, ?_⟩
      · simp only [Nat.add_zero] at hst
        simp [Builtin.copy_, run_underlying hu, Builtin.lenOf, sizeOf, typeInfo, hq, hi, hf, hst]
      · refine ⟨?_, .inr ⟨g, co, _, rfl, hbg, setRow_heap w g cur _ e _ hg, hnc, hcm, ?_, ?_⟩⟩
        · have := hown.1
          simp only [List.length_append, List.length_take, List.length_drop]; omega
        · simp only [List.size_toArray, List.length_append, List.length_take, List.length_drop, Array.length_toList]; omega
        · exact splice_take _ _ _ _ _ htk (by simpa using hNc) hfit
      · exact ⟨rfl, rfl, rfl, by simp [World.setRow], fun k _ hk => setRow_other w g k _ (fun e => hk (by simp [Value.ownBlock, e]))⟩
    · have hc : cs = [] := List.eq_nil_of_length_eq_zero (by omega)
      subst hc
      refine ⟨w, ?_, by simpa using hown, ⟨rfl, rfl, rfl, Nat.le_refl _, fun _ _ _ => rfl⟩⟩
      cases dp with
      | none => simp [Builtin.copy_, run_underlying hu, Builtin.lenOf, sizeOf, typeInfo, hq, hi, hf]
      | some ad => simp [Builtin.copy_, run_underlying hu, Builtin.lenOf, sizeOf, typeInfo, hq, hi, hf, storeCells]
end Go.Proofs.YtbkajbjhffdlfaaDoor
