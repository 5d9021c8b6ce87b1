/- The walk's law on the built-in copy into a row that the call owns, at whatever element. No program in sight. -/
import Derived.Test.YtbkajbjhffdlfaaDoorBase
import Derived.Laws.CopyRow
namespace Go.Proofs.YtbkajbjhffdlfaaDoor
open Go.RowKit

theorem firstCells_row {P : Program} {w : World} (size n : Nat) (sp : Option Addr) (len cap : Nat) (cs : List Value) (hl : cs.length = n * size) (hr : Row w sp cs) :
    (Builtin.firstCells size n (.slice sp len cap)).run P w = .ok cs.toArray w := by
  cases sp with
  | some b =>
    refine run_firstCells_some w size n b len cap cs hl fun j v hj => ?_
    obtain ⟨b', off, e, _, h⟩ := hr j v hj
    obtain rfl : b = ⟨b', off, none⟩ := by simpa using e
    rw [Addr.add_lit]; exact h
  | none =>
    have : cs = [] := by
      cases cs with
      | nil => rfl
      | cons u l => obtain ⟨b, off, e1, _⟩ := hr 0 u rfl; cases e1
    subst this
    simp [Builtin.firstCells]

theorem splice_take (cur xs cs : List Value) (o N : Nat) (h : cur.take N = xs) (hN : N ≤ cur.length) (hf : o + cs.length ≤ N) :
    (cur.take o ++ cs ++ cur.drop (o + cs.length)).take N = xs.take o ++ cs ++ xs.drop (o + cs.length) := by
  subst h
  have hl : (cur.take o ++ cs).length = o + cs.length := by rw [List.length_append, List.length_take]; omega
  rw [List.take_append, List.take_of_length_le (by omega), hl, List.take_take, Nat.min_eq_left (by omega), List.drop_take]

theorem wpList_cp {P : Program} {w : World} {ops : Array Oper} {rest : List Oper} {o : Oper} {a : Act} {Q : Exit → Act → World → Prop} (hgd : o.guard = none) (d s : Operand) (dT sT : TypeId)
    (ho : o.op = .call { callee := .builtin .copy, args := #[d, s], argTypes := #[dT, sT] }) (e : TypeId) (hu : P.underlying dT = some (.slice e)) (size : Nat) (hsz : (P.info? e).map (·.size) = some size)
    (dp sp : Option Addr) (dLen dCap sLen sCap : Nat) (hd : a.eval d = .slice dp dLen dCap) (hs : a.eval s = .slice sp sLen sCap)
    (cs : List Value) (hn : cs.length = Nat.min sLen dLen * size) (hcs : Row w sp cs) (h1 : ∀ u ∈ cs, u.oneCell' = true)
    (base N co p : Nat) (ao : Option Addr) (xs : List Value) (hown : w.ownsRow base e size (.slice ao N co) N xs) (hp : 0 < cs.length → dp = ao.map (·.add (p * size))) (hdn : dp = none → cs = []) (hfit : p * size + cs.length ≤ N * size)
    (h : ∀ w', w'.ownsRow base e size (.slice ao N co) N (xs.take (p * size) ++ cs ++ xs.drop (p * size + cs.length)) → w.grownBy w' (Value.ownBlock (.slice ao N co)) → wpList P ops Q rest (a.put o.dst (goInt (Nat.min sLen dLen : Nat))) w') :
    wpList P ops Q (o :: rest) a w := by
  refine wpList_plain hgd fun K hK => ?_
  have key : ∃ w', (Builtin.copy_ #[dT, sT] o.type #[.slice dp dLen dCap, .slice sp sLen sCap]).run P w = .ok (goInt (Nat.min sLen dLen : Nat)) w' ∧ w'.ownsRow base e size (.slice ao N co) N (xs.take (p * size) ++ cs ++ xs.drop (p * size + cs.length)) ∧ w.grownBy w' (Value.ownBlock (.slice ao N co)) := by
    cases hq : P.info? e with
    | none => simp [hq] at hsz
    | some i =>
      have hi : i.size = size := by simpa [hq] using hsz
      have hf := firstCells_row (P := P) size (Nat.min sLen dLen) sp sLen sCap cs hn hcs
      by_cases hc0 : 0 < cs.length
      · obtain ⟨g, cap, cur, hv, hbg, hg, hnc, hcm, hcsz, htk⟩ : ∃ g cap cur, Value.slice ao N co = .slice (some ⟨g, 0, none⟩) N cap ∧ base ≤ g ∧ w.heap[g]? = some (.cells cur e (0, 0)) ∧ N ≤ cap ∧ cap ≤ maxLen ∧ cur.size = cap * size ∧ cur.toList.take (N * size) = xs := by
          rcases hown.2 with ⟨_, h0⟩ | h
          · rw [h0, Nat.zero_mul] at hfit; omega
          · exact h
        obtain ⟨rfl, rfl⟩ : ao = some ⟨g, 0, none⟩ ∧ co = cap := by simpa using hv
        have hdp := hp hc0
        simp only [Option.map_some, Addr.add_lit, Nat.zero_add] at hdp
        subst hdp
        have hNc : N * size ≤ cur.size := by rw [hcsz]; exact Nat.mul_le_mul_right _ hnc
        have hst := run_storeCells_at P g (p * size) e cs 0 cur w hg (by omega) h1
        refine ⟨w.setRow g (cur.toList.take (p * size) ++ cs ++ cur.toList.drop (p * size + cs.length)).toArray, ?_, ?_, ?_⟩
        · simp only [Nat.add_zero] at hst
          simp [Builtin.copy_, run_underlying hu, Builtin.lenOf, sizeOf, typeInfo, hq, hi, hf, hst]
        · refine ⟨?_, .inr ⟨g, co, _, rfl, hbg, setRow_heap w g cur _ e _ hg, hnc, hcm, ?_, ?_⟩⟩
          · have := hown.1
            simp only [List.length_append, List.length_take, List.length_drop]; omega
          · simp only [List.size_toArray, List.length_append, List.length_take, List.length_drop, Array.length_toList]; omega
          · exact splice_take _ _ _ _ _ htk (by simpa using hNc) hfit
        · exact ⟨rfl, rfl, rfl, by simp [World.setRow], fun k _ hk => setRow_other w g k _ (fun e => hk (by simp [Value.ownBlock, e]))⟩
      · have hc : cs = [] := List.eq_nil_of_length_eq_zero (by omega)
        subst hc
        refine ⟨w, ?_, by simpa using hown, ⟨rfl, rfl, rfl, Nat.le_refl _, fun _ _ _ => rfl⟩⟩
        cases dp with
        | none => simp [Builtin.copy_, run_underlying hu, Builtin.lenOf, sizeOf, typeInfo, hq, hi, hf]
        | some ad => simp [Builtin.copy_, run_underlying hu, Builtin.lenOf, sizeOf, typeInfo, hq, hi, hf, storeCells]
  obtain ⟨w', hr, h2, h3⟩ := key
  unfold Oper.wp execOp
  simp only [ho, resolve, invoke, builtin, Sem.run_bind, Sem.run_pure, Result.andThen_ok, List.map_toArray, List.map_cons, List.map_nil, hd, hs, hr]
  exact hK _ _ (h w' h2 h3)
end Go.Proofs.YtbkajbjhffdlfaaDoor
