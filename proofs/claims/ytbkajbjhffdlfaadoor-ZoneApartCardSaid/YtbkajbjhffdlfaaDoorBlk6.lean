/- Contract of slices.Insert at Block: where there is room; all ways together. -/
import Derived.Test.YtbkajbjhffdlfaaDoorBlk5
namespace Go.Proofs.YtbkajbjhffdlfaaDoor
open Go.RowKit
set_option linter.unusedVariables false
attribute [local go_sem ↓] sliced_cut

theorem row_grown {w w' : World} {b off : Nat} {cs : List Value} (h : Row w (some ⟨b, off, none⟩) cs) {row : Option Nat} (hg : w.grownBy w' row) (hne : some b ≠ row) : Row w' (some ⟨b, off, none⟩) cs := by
  intro j v hj
  obtain ⟨b', off', e, h1, h2⟩ := h j v hj
  obtain ⟨rfl, rfl⟩ : b = b' ∧ off = off' := by simpa using e
  refine ⟨b, off, rfl, Nat.lt_of_lt_of_le h1 hg.size, ?_⟩
  rw [World.cell?_of_block (hg.block b h1 hne)]; exact h2

set_option maxHeartbeats 1000000 in
set_option maxRecDepth 100000 in
theorem insert_shift (base : Nat) (a : Option Addr) (n c g i : Nat) (l : List Bk) (b : Bk) (w : World) (hown : w.ownsRow base 36 3 (.slice a n c) n (flat encBk l)) (hi : i < n) (hn : n ≤ 1000) (hc : n + 1 ≤ c) (hbase : base ≤ w.heap.size) (hgb : w.heap[g]? = some (.cells (encBk b).toArray 36 (0, 0))) (hne : some g ≠ Value.ownBlock (.slice a n c)) (hv : Row w (some ⟨g, 0, none⟩) (encBk b)) :
    Calls Tryd.prog 36 #[.slice a n c, .int .i64 i, .slice (some ⟨g, 0, none⟩) 1 1] w fun ev w' => ∃ a' c', ev = .returned (.slice a' (n + 1) c') ∧ w'.ownsRow base 36 3 (.slice a' (n + 1) c') (n + 1) (flat encBk (l.take i ++ b :: l.drop i)) ∧ w.grownBy w' (Value.ownBlock (.slice a n c)) := by
  have hln : l.length = n := own_flat_len encBk_length (by decide) hown
  have hfl := flat_length encBk_length l
  obtain ⟨g0, cur, rfl, hg0, hcs, hcm⟩ : ∃ g0 cur, a = some ⟨g0, 0, none⟩ ∧ w.heap[g0]? = some (.cells cur 36 (0, 0)) ∧ cur.size = c * 3 ∧ c ≤ maxLen := by
    rcases hown.2 with ⟨h', h2⟩ | ⟨g0, cap, cur, h', _, hg, _, hcm, hs, _⟩
    · omega
    · obtain ⟨rfl, rfl⟩ : a = some ⟨g0, 0, none⟩ ∧ c = cap := by simpa using h'
      exact ⟨g0, cur, rfl, hg, hs, hcm⟩
  have hgg : g ≠ g0 := fun e => hne (by rw [e]; rfl)
  have hcut : ∀ j, j ≤ n → cutA (some ⟨g0, 0, none⟩) j c 3 = (some ⟨g0, 0, none⟩ : Option Addr).map (·.add (j * 3)) := fun j hj => by unfold cutA; rw [if_neg (by omega)]
  have hcutl : cutA (some ⟨g0, 0, none⟩) (i + 1) c 3 = some ⟨g0, (i + 1) * 3, none⟩ := by rw [hcut _ (by omega)]; simp [Addr.add_lit]
  have hsz : (Tryd.prog.info? 36).map (·.size) = some 3 := by kernel_rfl
  have hov : (callFunc 43 #[.slice (some ⟨g, 0, none⟩) 1 1, .slice (cutA (some ⟨g0, 0, none⟩) (i + 1) c 3) (n - i) (c - (i + 1))]).run Tryd.prog w = .ok (.value (.bool false)) w := by
    rw [hcutl, run_callFunc_extern Tryd.func43 (by kernel_rfl) (by kernel_rfl) (by kernel_rfl) (e := Extern.SlicesOverlaps.overlaps #[23, 23] #[4]) (by kernel_rfl),
      Lib.run_overlaps_apart w 23 4 36 Tryd.underlying23 3 Tryd.sizeOf36 ⟨g, 0, none⟩ ⟨g0, (i + 1) * 3, none⟩ 1 1 _ _ hgg 36 36 3 (c * 3) (by simp [World.shape?, hgb, encBk]) (by simp [World.shape?, hg0, hcs]) (by omega) (by simp [World.frozen?, hgb]) (by simp [World.frozen?, hgb])]
    rfl
  obtain ⟨ys, hyl, hroom⟩ := own_room hown (show n ≤ n + 1 by omega) hc
  rw [show (n + 1 - n) * 3 = 3 by omega] at hyl
  have hdl : (flat encBk (l.drop i)).length = (n - i) * 3 := by rw [flat_length encBk_length, List.length_drop, hln]
  have htl : (flat encBk (l.take i)).length = i * 3 := by rw [flat_length encBk_length, List.length_take]; omega
  have hwd : Below w.heap.size w w.drew := (Below.refl w.heap.size w).drew
  have hroomd := own_below hroom hwd (Nat.le_refl _)
  have hrow := ((own_row hown).below hwd).cut i c 3 ((n - i) * 3) (by omega)
  rw [List.take_of_length_le (by rw [List.length_drop, hfl]; omega), flat_drop encBk_length] at hrow
  obtain ⟨w2, hcp1, hown2, hg2⟩ := run_cp (P := Tryd.prog) (w := w.drew) 23 23 3 36 Tryd.underlying23 3 hsz (cutA (some ⟨g0, 0, none⟩) (i + 1) c 3) (cutA (some ⟨g0, 0, none⟩) i c 3) (n - i) (c - (i + 1)) (n + 1 - i) (c - i) (flat encBk (l.drop i)) (by rw [hdl, show Nat.min (n + 1 - i) (n - i) = n - i from Nat.min_eq_right (by omega)]) hrow (encBk_one _) base (n + 1) c (i + 1) (some ⟨g0, 0, none⟩) _ hroomd (fun _ => hcut _ (by omega)) (fun h => by rw [hcut _ (by omega)] at h; simp at h) (by rw [hdl]; omega)
  have hX : ((flat encBk l ++ ys).take ((i + 1) * 3) ++ flat encBk (l.drop i) ++ (flat encBk l ++ ys).drop ((i + 1) * 3 + (flat encBk (l.drop i)).length)) = (flat encBk l ++ ys).take ((i + 1) * 3) ++ flat encBk (l.drop i) := by
    rw [show (flat encBk l ++ ys).drop ((i + 1) * 3 + (flat encBk (l.drop i)).length) = [] from List.drop_eq_nil_of_le (by rw [List.length_append, hfl, hdl]; omega), List.append_nil]
  rw [hX] at hown2
  have hlX : ((flat encBk l ++ ys).take ((i + 1) * 3)).length = (i + 1) * 3 := by rw [List.length_take, List.length_append, hfl]; omega
  have hv2 := row_grown (hv.below hwd) hg2 hne
  obtain ⟨w3, hcp2, hown3, hg3⟩ := run_cp (P := Tryd.prog) (w := w2) 23 23 3 36 Tryd.underlying23 3 hsz (cutA (some ⟨g0, 0, none⟩) i c 3) (some ⟨g, 0, none⟩) (n + 1 - i) (c - i) 1 1 (encBk b) (by rw [show Nat.min 1 (n + 1 - i) = 1 from Nat.min_eq_left (by omega)]; rfl) hv2 (by simp [encBk, vI, Value.oneCell']) base (n + 1) c i (some ⟨g0, 0, none⟩) _ hown2 (fun _ => hcut _ (by omega)) (fun h => by rw [hcut _ (by omega)] at h; simp at h) (by rw [encBk_length]; omega)
  have hY : ((flat encBk l ++ ys).take ((i + 1) * 3) ++ flat encBk (l.drop i)).take (i * 3) ++ encBk b ++ ((flat encBk l ++ ys).take ((i + 1) * 3) ++ flat encBk (l.drop i)).drop (i * 3 + (encBk b).length) = flat encBk (l.take i ++ b :: l.drop i) := by
    rw [encBk_length, show i * 3 + 3 = (i + 1) * 3 by omega, List.drop_left' hlX, List.take_append_of_le_length (by rw [hlX]; omega), List.take_take, show min (i * 3) ((i + 1) * 3) = i * 3 by omega, List.take_append_of_le_length (by rw [hfl]; omega), flat_take encBk_length, flat_append, flat_cons, List.append_assoc]
  rw [hY] at hown3
  have HO3 := Hid.mk hown3
  have HG3 : Hid (w.grownBy w3 (Value.ownBlock (.slice (some ⟨g0, 0, none⟩) n c))) :=
    ⟨hg3.os.trans hg2.os, hg3.tape.trans hg2.tape, hg3.output.trans hg2.output, Nat.le_trans hg2.size hg3.size, fun k hk hnk => (hg3.block k (Nat.lt_of_lt_of_le hk hg2.size) hnk).trans (hg2.block k hk hnk)⟩
  have b0 : (i : Int) ≤ n := by omega
  have b2 : (i : Int) ≤ c := by omega
  have b3 : ¬ (i : Int) = n := by omega
  have b4 : ¬ (c : Int) < (n : Int) + 1 := by omega
  have b5 : (i : Int) ≤ (n : Int) + 1 := by omega
  have b6 : (n : Int) + 1 ≤ c := by omega
  have b7 : ((i : Int) + 1) ≤ c := by omega
  have s1 : IntKind.i64.wrap ((i : Int) + 1) = (i : Int) + 1 := IntWalk.i64_in _ (by omega)
  have b8 : 0 ≤ (i : Int) + 1 := by omega
  have b9 : ((i : Int) + 1).toNat = i + 1 := by omega
  have b10 : (i : Int) + 1 ≤ (n : Int) + 1 := by omega
  have b11 : ((n : Int) + 1).toNat = n + 1 := by omega
  have b12 : c ≤ 9223372036854775807 := by unfold maxLen at hcm; omega
  clear hown hroom hroomd hrow hown2 hown3 hg2 hg3 hX hY hv hv2 hcut hcutl hg0 hgb hcs
  go_enter Tryd.func36, Tryd.ntmps36
  go_wp2_with (simp only [hov])
  go_still_tail 8, (by kernel_rfl)
  change wpList _ _ _ _ _ w.drew
  go_wp2
  go_ret
  exact ⟨_, _, rfl, HO3.out, HG3.out⟩

/-- slices.Insert at Block: one block -/
theorem insert_bk (base : Nat) (a : Option Addr) (n c g i : Nat) (l : List Bk) (b : Bk) (w : World) (hown : w.ownsRow base 36 3 (.slice a n c) n (flat encBk l)) (hi : i ≤ n) (hn : n ≤ 1000) (hbase : base ≤ w.heap.size) (hgb : w.heap[g]? = some (.cells (encBk b).toArray 36 (0, 0))) (hne : some g ≠ Value.ownBlock (.slice a n c)) :
    Calls Tryd.prog 36 #[.slice a n c, .int .i64 i, .slice (some ⟨g, 0, none⟩) 1 1] w fun ev w' => ∃ a' c', ev = .returned (.slice a' (n + 1) c') ∧ w'.ownsRow base 36 3 (.slice a' (n + 1) c') (n + 1) (flat encBk (l.take i ++ b :: l.drop i)) ∧ w.grownBy w' (Value.ownBlock (.slice a n c)) := by
  have hlt : g < w.heap.size := (Array.getElem?_eq_some_iff.1 hgb).1
  have hv : Row w (some ⟨g, 0, none⟩) (encBk b) := by
    intro j v hj
    exact ⟨g, 0, rfl, hlt, by rw [Nat.zero_add, cell_of_row _ _ _ _ _ _ hgb]; simpa using hj⟩
  have hln : l.length = n := own_flat_len encBk_length (by decide) hown
  by_cases he : i = n
  · subst he
    have := insert_end base a i c g l b w hown hn hbase hv
    rw [List.take_of_length_le (by omega), List.drop_eq_nil_of_le (by omega)]
    exact this
  · by_cases hc : n + 1 ≤ c
    · exact insert_shift base a n c g i l b w hown (by omega) hn hc hbase hgb hne hv
    · exact insert_grow base a n c g i l b w hown (by omega) hn (by omega) hbase hv
end Go.Proofs.YtbkajbjhffdlfaaDoor
