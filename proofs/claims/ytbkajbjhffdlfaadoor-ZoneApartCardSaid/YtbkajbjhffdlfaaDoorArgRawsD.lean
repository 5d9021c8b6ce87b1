/- A slice of raw numbers that came in: its elements' cells. -/
import Derived.Test.YtbkajbjhffdlfaaDoorRaws
import Derived.Test.YtbkajbjhffdlfaaDoorFrame
namespace Go.Proofs.YtbkajbjhffdlfaaDoor
open Go.RowKit Go.WideShapes Go.ChangeShapes

theorem exists_list {α : Type} (p : Nat → α → Prop) : ∀ n, (∀ i, i < n → ∃ x, p i x) → ∃ l : List α, l.length = n ∧ ∀ i (h : i < l.length), p i l[i]
  | 0, _ => ⟨[], rfl, fun i h => by simp at h⟩
  | n + 1, h => by
    obtain ⟨l, hl, hp⟩ := exists_list p n fun i hi => h i (by omega)
    obtain ⟨x, hx⟩ := h n (by omega)
    refine ⟨l ++ [x], by simp [hl], fun i hi => ?_⟩
    by_cases hi2 : i < l.length
    · rw [List.getElem_append_left hi2]; exact hp i hi2
    · rw [List.getElem_append_right (by omega)]
      have : i = n := by simp at hi; omega
      subst this
      simpa using hx

theorem in64_wf {z : Int} (h : (Lit.int .i64 z).wf = true) : in64 z := bounds_i64 h

theorem raw_cells {H : Type} {enc : TypeId × Value → H} {W : World} {base fuel : Nat} {sp : Nat → Bool} {held : Bool} {cs : List Value} {x : DataW H × List MemPlace}
    (h : DataW.trod enc Tryd.prog W base sp held fuel 55 cs = some x) : ∃ r : Rw, r.wf ∧ cs = encRw r := by
  obtain ⟨xs, n, rfl, rfl, hl, hx, hf⟩ := DataW.trod_struct Tryd.underlying55 h
  have hl4 : cs.length = 4 := by rw [hl]; kernel_rfl
  have hc3 : Tryd.prog.cellsOf 3 = 1 := by kernel_rfl
  have hx4 : xs.length = 4 := hx
  have f0 := hf 0 _ rfl
  have f1 := hf 1 _ rfl
  have f2 := hf 2 _ rfl
  have f3 := hf 3 _ rfl
  rw [List.getElem?_eq_getElem (by omega)] at f0 f1 f2 f3
  obtain ⟨n0, e0, _, w0⟩ := DataW.trod_int Tryd.underlying3 f0
  obtain ⟨n1, e1, _, w1⟩ := DataW.trod_int Tryd.underlying3 f1
  obtain ⟨n2, e2, _, w2⟩ := DataW.trod_int Tryd.underlying3 f2
  obtain ⟨n3, e3, _, w3⟩ := DataW.trod_int Tryd.underlying3 f3
  change (cs.drop 0).take (Tryd.prog.cellsOf 3) = _ at e0
  change (cs.drop 1).take (Tryd.prog.cellsOf 3) = _ at e1
  change (cs.drop 2).take (Tryd.prog.cellsOf 3) = _ at e2
  change (cs.drop 3).take (Tryd.prog.cellsOf 3) = _ at e3
  rw [hc3] at e0 e1 e2 e3
  refine ⟨⟨n0, n1, n2, n3⟩, ⟨in64_wf w0, in64_wf w1, in64_wf w2, in64_wf w3⟩, ?_⟩
  obtain _ | ⟨a, _ | ⟨b, _ | ⟨c, _ | ⟨d, _ | ⟨e, cs⟩⟩⟩⟩⟩ := cs
  all_goals simp at hl4
  simp at e0 e1 e2 e3
  simp [encRw, vI, e0, e1, e2, e3]

theorem arg_raws {H : Type} {enc : TypeId × Value → H} {W : World} {a : Option Addr} {n c : Nat} {d : DataW H} {p : List MemPlace}
    (h : DataW.Trod enc Tryd.prog W 0 (fun _ => true) true 22 (.slice a n c) d p) : ∃ zs : List Rw, zs.length = n ∧ Row W a (flat encRw zs) ∧ n ≤ c ∧ c ≤ maxLen ∧ ∀ r ∈ zs, r.wf := by
  obtain ⟨fuel, hf⟩ := h
  have hc4 : Tryd.prog.cellsOf 55 = 4 := by kernel_rfl
  rcases DataW.trod_slice Tryd.underlying22 hf with ⟨hcs, _⟩ | ⟨ad, len, cap, elems, rest, m, _, hcs, _, _, hl, hm, hlen, hel, _, _⟩
  · simp only [Value.cells, List.cons.injEq, Value.slice.injEq, and_true] at hcs
    obtain ⟨rfl, rfl, rfl⟩ := hcs
    exact ⟨[], rfl, Row.nil _ _, Nat.le_refl _, Nat.zero_le _, by simp⟩
  · simp only [Value.cells, List.cons.injEq, Value.slice.injEq, and_true] at hcs
    obtain ⟨rfl, rfl, rfl⟩ := hcs
    rw [hc4] at hel
    by_cases hn0 : n = 0
    · subst hn0
      exact ⟨[], rfl, Row.nil _ _, hl, hm, by simp⟩
    have hspot : ad.spot = none := by
      have h1 := hel 0 (by omega)
      rw [List.getElem?_eq_getElem (by omega), Option.bind_eq_some_iff] at h1
      obtain ⟨cs, h2, h3⟩ := h1
      obtain ⟨r, hr, rfl⟩ := raw_cells h3
      have h5 := (World.cells?_some h2).2.2 0 (by omega)
      rw [show ad.add (0 * 4) = ad from by rw [Nat.zero_mul]; unfold Addr.add; rw [if_pos rfl]] at h5
      exact spot_none h5
    obtain ⟨b, off, spot⟩ := ad
    simp only at hspot
    subst hspot
    have each : ∀ i, i < n → ∃ r : Rw, r.wf ∧ ∀ j v, (encRw r)[j]? = some v → W.cell? ⟨b, off + (i * 4 + j), none⟩ = some v := by
      intro i hi
      have h1 := hel i hi
      rw [List.getElem?_eq_getElem (by omega), Option.bind_eq_some_iff] at h1
      obtain ⟨cs, h2, h3⟩ := h1
      obtain ⟨r, hr, rfl⟩ := raw_cells h3
      refine ⟨r, hr, fun j v hj => ?_⟩
      have h4 := World.cells?_some h2
      have hj4 : j < 4 := by have := (List.getElem?_eq_some_iff.1 hj).1; simpa [encRw] using this
      have h5 := h4.2.2 j hj4
      rw [Addr.add_lit, Addr.add_lit, Nat.add_assoc] at h5
      rw [h5]; exact hj
    obtain ⟨zs, hz, hp⟩ := exists_list _ n each
    refine ⟨zs, hz, ?_, hl, hm, fun r hr => by
      obtain ⟨i, hi, rfl⟩ := List.getElem_of_mem hr
      exact (hp i hi).1⟩
    intro j v hj
    have hjl : j < zs.length * 4 := by have := (List.getElem?_eq_some_iff.1 hj).1; rwa [flat_length encRw_length] at this
    have hdm := Nat.div_add_mod j 4
    have hlt : j % 4 < 4 := Nat.mod_lt _ (by omega)
    have hi : j / 4 < zs.length := by omega
    rw [show j = j / 4 * 4 + j % 4 by omega, flat_get encRw_length zs (j / 4) hi (j % 4) hlt] at hj
    have hce := (hp (j / 4) hi).2 (j % 4) v hj
    rw [show j / 4 * 4 + j % 4 = j by omega] at hce
    exact ⟨b, off, rfl, World.block_lt_of_cell? W _ hce, hce⟩
end Go.Proofs.YtbkajbjhffdlfaaDoor
