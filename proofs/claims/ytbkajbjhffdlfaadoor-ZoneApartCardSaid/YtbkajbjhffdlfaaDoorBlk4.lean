/- Contract of slices.Delete at Block, one element. -/
import Derived.Test.YtbkajbjhffdlfaaDoorBlk3
import Derived.Test.YtbkajbjhffdlfaaDoorBase4
import Derived.StillTailTactics
namespace Go.Proofs.YtbkajbjhffdlfaaDoor
open Go.RowKit
set_option linter.unusedVariables false
attribute [local go_sem ↓] sliced_cut

theorem zero_bk (w : World) : (zeroValue 36).run Tryd.prog w = .ok (.agg #[.int .i64 0, .int .i64 0, .int .i64 0]) w := by
  obtain ⟨i, hi, hz, hs, hb⟩ := info_parts info_bk
  simp [zeroValue, typeInfo, hi, hz]

set_option maxRecDepth 100000 in
theorem delete_bk (base : Nat) (a : Option Addr) (n c : Nat) (l : List Bk) (i : Nat) (w : World) (hown : w.ownsRow base 36 3 (.slice a n c) n (flat encBk l)) (hi : i < n) (hn : n ≤ 1000) (hbase : base ≤ w.heap.size) :
    Calls Tryd.prog 27 #[.slice a n c, .int .i64 i, .int .i64 (i + 1)] w fun ev w' => ev = .returned (.slice a (n - 1) c) ∧ w'.ownsRow base 36 3 (.slice a (n - 1) c) (n - 1) (flat encBk (l.eraseIdx i)) ∧ w.grownBy w' (Value.ownBlock (.slice a n c)) := by
  have hln : l.length = n := own_flat_len encBk_length (by decide) hown
  have hnc := own_cap hown
  have hcm : c ≤ 9223372036854775807 := by
    rcases hown.2 with ⟨h', h2⟩ | ⟨g, cap, cur, h', _, _, _, hcm, _⟩
    · simp at h'; omega
    · have : c = cap := by simp at h'; exact h'.2
      unfold maxLen at hcm; omega
  have HO := Hid.mk hown
  clear hown
  have b0 : (i : Int) ≤ n := by omega
  have b1 : (i : Int) + 1 ≤ n := by omega
  have b2 : (i : Int) ≤ c := by omega
  have b3 : (i : Int) + 1 ≤ c := by omega
  have b4 : (n : Int) ≤ c := by omega
  have b5 : (0 : Int) ≤ (i : Int) + 1 := by omega
  have b6 : ((i : Int) + 1).toNat = i + 1 := by omega
  go_enter Tryd.func27, Tryd.ntmps27
  go_wp2_with fail
  go_still_tail 6, (by kernel_rfl)
  change wpList _ _ _ _ _ w.drew
  have HO2 := own_below HO.out ((Below.refl w.heap.size w).drew) (Nat.le_refl _)
  have hrow := (own_row HO2).cut (i + 1) c 3 ((n - (i + 1)) * 3) (by omega)
  have hfl := flat_length encBk_length l
  rw [List.take_of_length_le (by rw [List.length_drop, hfl]; omega), flat_drop encBk_length] at hrow
  have hpre := own_prefix HO2 (show i ≤ n by omega)
  rw [flat_take encBk_length] at hpre
  have HG : Hid (∀ w', w.drew.grownBy w' (Value.ownBlock (.slice a i c)) → w.grownBy w' (Value.ownBlock (.slice a n c))) := fun w' h => ⟨h.os, h.tape, h.output, h.size, fun k hk hne => h.block k hk (by cases a with | none => simp [Value.ownBlock] | some x => simpa [Value.ownBlock] using hne)⟩
  have hdw : w.drew.heap.size = w.heap.size := rfl
  clear HO2
  generalize w.drew = w1 at *
  refine wpList_appr rfl _ _ 23 rfl base 36 (.agg #[.int .i64 0, .int .i64 0, .int .i64 0]) 3 24 Tryd.underlying23 info_bk (by decide) a i c _ rfl hpre (cutA a (i + 1) c 3) (n - (i + 1)) (c - (i + 1)) (flat encBk (l.drop (i + 1))) rfl (by rw [flat_length encBk_length, List.length_drop, hln]) hrow (encBk_one _) (by omega) ?_
  intro w2 hown2 hg2
  have hG2 := HG.out w2 hg2
  rw [← flat_append, ← List.eraseIdx_eq_take_drop_succ] at hown2
  have e1 : i + (n - (i + 1)) = n - 1 := by omega
  rw [e1] at hown2 ⊢
  have HO3 := Hid.mk hown2
  have b7 : (n : Int) - 1 ≤ n := by omega
  have b8 : ((n - 1 : Nat) : Int) ≤ n := by omega
  have b9 : n - (n - 1) = 1 := by omega
  clear hown2 hg2 hrow hpre HO hfl
  obtain ⟨w3, hclr, hown3, hg3⟩ := run_clr (P := Tryd.prog) 23 0 36 Tryd.underlying23 3 (.agg #[.int .i64 0, .int .i64 0, .int .i64 0]) zero_bk rfl (by decide) base (n - 1) 1 c (c - (n - 1)) a _ HO3.out (by omega)
  have HO4 := Hid.mk hown3
  have HG4 : Hid (w.grownBy w3 (Value.ownBlock (.slice a n c))) := ⟨hg3.os.trans hG2.os, hg3.tape.trans hG2.tape, hg3.output.trans hG2.output, Nat.le_trans hG2.size hg3.size, fun k hk hne => (hg3.block k (Nat.lt_of_lt_of_le hk hG2.size) (by cases a with | none => simp [Value.ownBlock] | some x => simpa [Value.ownBlock] using hne)).trans (hG2.block k hk hne)⟩
  clear hown3 HO3 hG2 hg3
  go_wp2
  go_ret
  exact ⟨rfl, HO4.out, HG4.out⟩
end Go.Proofs.YtbkajbjhffdlfaaDoor
