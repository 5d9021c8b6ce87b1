/- Blk6, Blk7, Blk8, Blk9, Blk10, Blk11, Blk16, Blk17, Blk18: texts of this claim, joined. -/
import Derived.Test.YtjljcifpcljlaaaDoorPM1
/- Contract of slices.Insert at Block: where there is room; all ways together. -/
namespace Go.Proofs.YtjljcifpcljlaaaDoor
open Go.RowKit
set_option linter.unusedVariables false
attribute [local go_sem ↓] sliced_cut

theorem row_grown {w w' : World} {b off : Nat} {cs : List Value} (h : Row w (some ⟨b, off, none⟩) cs) {row : Option Nat} (hg : w.grownBy w' row) (hne : some b ≠ row) : Row w' (some ⟨b, off, none⟩) cs := by
  intro j v hj
  obtain ⟨b', off', e, h1, h2⟩ := h j v hj
  obtain ⟨rfl, rfl⟩ : b = b' ∧ off = off' := by simpa using e
  refine ⟨b, off, rfl, Nat.lt_of_lt_of_le h1 hg.size, ?_⟩
  rw [World.cell?_of_block (hg.block b h1 hne)]; exact h2

set_option maxHeartbeats 1000000 in
set_option maxRecDepth 100000 in
theorem insert_shift (base : Nat) (a : Option Addr) (n c g i : Nat) (l : List Bk) (b : Bk) (w : World) (hown : w.ownsRow base 40 3 (.slice a n c) n (flat encBk l)) (hi : i < n) (hn : n ≤ 1000) (hc : n + 1 ≤ c) (hbase : base ≤ w.heap.size) (hgb : w.heap[g]? = some (.cells (encBk b).toArray 40 (0, 0))) (hne : some g ≠ Value.ownBlock (.slice a n c)) (hv : Row w (some ⟨g, 0, none⟩) (encBk b)) :
    Calls Tryd.prog 44 #[.slice a n c, .int .i64 i, .slice (some ⟨g, 0, none⟩) 1 1] w fun ev w' => ∃ a' c', ev = .returned (.slice a' (n + 1) c') ∧ w'.ownsRow base 40 3 (.slice a' (n + 1) c') (n + 1) (flat encBk (l.take i ++ b :: l.drop i)) ∧ w.grownBy w' (Value.ownBlock (.slice a n c)) := by
  have hln : l.length = n := own_flat_len encBk_length (by decide) hown
  have hfl := flat_length encBk_length l
  obtain ⟨g0, cur, rfl, hg0, hcs, hcm⟩ : ∃ g0 cur, a = some ⟨g0, 0, none⟩ ∧ w.heap[g0]? = some (.cells cur 40 (0, 0)) ∧ cur.size = c * 3 ∧ c ≤ maxLen := by
    rcases hown.2 with ⟨h', h2⟩ | ⟨g0, cap, cur, h', _, hg, _, hcm, hs, _⟩
    · omega
    · obtain ⟨rfl, rfl⟩ : a = some ⟨g0, 0, none⟩ ∧ c = cap := by simpa using h'
      exact ⟨g0, cur, rfl, hg, hs, hcm⟩
  have hgg : g ≠ g0 := fun e => hne (by rw [e]; rfl)
  have hcut : ∀ j, j ≤ n → cutA (some ⟨g0, 0, none⟩) j c 3 = (some ⟨g0, 0, none⟩ : Option Addr).map (·.add (j * 3)) := fun j hj => by unfold cutA; rw [if_neg (by omega)]
  have hcutl : cutA (some ⟨g0, 0, none⟩) (i + 1) c 3 = some ⟨g0, (i + 1) * 3, none⟩ := by rw [hcut _ (by omega)]; simp [Addr.add_lit]
  have hsz : (Tryd.prog.info? 40).map (·.size) = some 3 := by kernel_rfl
  have hov : (callFunc 68 #[.slice (some ⟨g, 0, none⟩) 1 1, .slice (cutA (some ⟨g0, 0, none⟩) (i + 1) c 3) (n - i) (c - (i + 1))]).run Tryd.prog w = .ok (.value (.bool false)) w := by
    rw [hcutl, run_callFunc_extern Tryd.func68 (by kernel_rfl) (by kernel_rfl) (by kernel_rfl) (e := Extern.SlicesOverlaps.overlaps #[32, 32] #[4]) (by kernel_rfl),
      Lib.run_overlaps_apart w 32 4 40 Tryd.underlying32 3 Tryd.sizeOf40 ⟨g, 0, none⟩ ⟨g0, (i + 1) * 3, none⟩ 1 1 _ _ hgg 40 40 3 (c * 3) (by simp [World.shape?, hgb, encBk]) (by simp [World.shape?, hg0, hcs]) (by omega) (by simp [World.frozen?, hgb]) (by simp [World.frozen?, hgb])]
    rfl
  obtain ⟨ys, hyl, hroom⟩ := own_room hown (show n ≤ n + 1 by omega) hc
  rw [show (n + 1 - n) * 3 = 3 by omega] at hyl
  have hdl : (flat encBk (l.drop i)).length = (n - i) * 3 := by rw [flat_length encBk_length, List.length_drop, hln]
  have htl : (flat encBk (l.take i)).length = i * 3 := by rw [flat_length encBk_length, List.length_take]; omega
  have hwd : Below w.heap.size w w.drew := (Below.refl w.heap.size w).drew
  have hroomd := own_below hroom hwd (Nat.le_refl _)
  have hrow := ((own_row hown).below hwd).cut i c 3 ((n - i) * 3) (by omega)
  rw [List.take_of_length_le (by rw [List.length_drop, hfl]; omega), flat_drop encBk_length] at hrow
  obtain ⟨w2, hcp1, hown2, hg2⟩ := run_cp (P := Tryd.prog) (w := w.drew) 32 32 3 40 Tryd.underlying32 3 hsz (cutA (some ⟨g0, 0, none⟩) (i + 1) c 3) (cutA (some ⟨g0, 0, none⟩) i c 3) (n - i) (c - (i + 1)) (n + 1 - i) (c - i) (flat encBk (l.drop i)) (by rw [hdl, show Nat.min (n + 1 - i) (n - i) = n - i from Nat.min_eq_right (by omega)]) hrow (encBk_one _) base (n + 1) c (i + 1) (some ⟨g0, 0, none⟩) _ hroomd (fun _ => hcut _ (by omega)) (fun h => by rw [hcut _ (by omega)] at h; simp at h) (by rw [hdl]; omega)
  have hX : ((flat encBk l ++ ys).take ((i + 1) * 3) ++ flat encBk (l.drop i) ++ (flat encBk l ++ ys).drop ((i + 1) * 3 + (flat encBk (l.drop i)).length)) = (flat encBk l ++ ys).take ((i + 1) * 3) ++ flat encBk (l.drop i) := by
    rw [show (flat encBk l ++ ys).drop ((i + 1) * 3 + (flat encBk (l.drop i)).length) = [] from List.drop_eq_nil_of_le (by rw [List.length_append, hfl, hdl]; omega), List.append_nil]
  rw [hX] at hown2
  have hlX : ((flat encBk l ++ ys).take ((i + 1) * 3)).length = (i + 1) * 3 := by rw [List.length_take, List.length_append, hfl]; omega
  have hv2 := row_grown (hv.below hwd) hg2 hne
  obtain ⟨w3, hcp2, hown3, hg3⟩ := run_cp (P := Tryd.prog) (w := w2) 32 32 3 40 Tryd.underlying32 3 hsz (cutA (some ⟨g0, 0, none⟩) i c 3) (some ⟨g, 0, none⟩) (n + 1 - i) (c - i) 1 1 (encBk b) (by rw [show Nat.min 1 (n + 1 - i) = 1 from Nat.min_eq_left (by omega)]; rfl) hv2 (by simp [encBk, vI, Value.oneCell']) base (n + 1) c i (some ⟨g0, 0, none⟩) _ hown2 (fun _ => hcut _ (by omega)) (fun h => by rw [hcut _ (by omega)] at h; simp at h) (by rw [encBk_length]; omega)
  have hY : ((flat encBk l ++ ys).take ((i + 1) * 3) ++ flat encBk (l.drop i)).take (i * 3) ++ encBk b ++ ((flat encBk l ++ ys).take ((i + 1) * 3) ++ flat encBk (l.drop i)).drop (i * 3 + (encBk b).length) = flat encBk (l.take i ++ b :: l.drop i) := by
    rw [encBk_length, show i * 3 + 3 = (i + 1) * 3 by omega, List.drop_left' hlX, List.take_append_of_le_length (by rw [hlX]; omega), List.take_take, show min (i * 3) ((i + 1) * 3) = i * 3 by omega, List.take_append_of_le_length (by rw [hfl]; omega), flat_take encBk_length, flat_append, flat_cons, List.append_assoc]
  rw [hY] at hown3
  have HO3 := Hid.mk hown3
  have HG3 : Hid (w.grownBy w3 (Value.ownBlock (.slice (some ⟨g0, 0, none⟩) n c))) :=
    ⟨hg3.os.trans hg2.os, hg3.tape.trans hg2.tape, hg3.output.trans hg2.output, Nat.le_trans hg2.size hg3.size, fun k hk hnk => (hg3.block k (Nat.lt_of_lt_of_le hk hg2.size) hnk).trans (hg2.block k hk hnk)⟩
  have b0 : (i : Int) ≤ n := by omega
  have b2 : (i : Int) ≤ c := by omega
  have b3 : ¬ (i : Int) = n := by omega
  have b4 : ¬ (c : Int) < (n : Int) + 1 := by omega
  have b5 : (i : Int) ≤ (n : Int) + 1 := by omega
  have b6 : (n : Int) + 1 ≤ c := by omega
  have b7 : ((i : Int) + 1) ≤ c := by omega
  have s1 : IntKind.i64.wrap ((i : Int) + 1) = (i : Int) + 1 := IntWalk.i64_in _ (by omega)
  have b8 : 0 ≤ (i : Int) + 1 := by omega
  have b9 : ((i : Int) + 1).toNat = i + 1 := by omega
  have b10 : (i : Int) + 1 ≤ (n : Int) + 1 := by omega
  have b11 : ((n : Int) + 1).toNat = n + 1 := by omega
  have b12 : c ≤ 9223372036854775807 := by unfold maxLen at hcm; omega
  clear hown hroom hroomd hrow hown2 hown3 hg2 hg3 hX hY hv hv2 hcut hcutl hg0 hgb hcs
  go_enter Tryd.func44, Tryd.ntmps44
  go_wp2_with (simp only [hov])
  go_still_tail 8, (by kernel_rfl)
  change wpList _ _ _ _ _ w.drew
  go_wp2
  go_ret
  exact ⟨_, _, rfl, HO3.out, HG3.out⟩

/-- slices.Insert at Block: one block -/
theorem insert_bk (base : Nat) (a : Option Addr) (n c g i : Nat) (l : List Bk) (b : Bk) (w : World) (hown : w.ownsRow base 40 3 (.slice a n c) n (flat encBk l)) (hi : i ≤ n) (hn : n ≤ 1000) (hbase : base ≤ w.heap.size) (hgb : w.heap[g]? = some (.cells (encBk b).toArray 40 (0, 0))) (hne : some g ≠ Value.ownBlock (.slice a n c)) :
    Calls Tryd.prog 44 #[.slice a n c, .int .i64 i, .slice (some ⟨g, 0, none⟩) 1 1] w fun ev w' => ∃ a' c', ev = .returned (.slice a' (n + 1) c') ∧ w'.ownsRow base 40 3 (.slice a' (n + 1) c') (n + 1) (flat encBk (l.take i ++ b :: l.drop i)) ∧ w.grownBy w' (Value.ownBlock (.slice a n c)) := by
  have hlt : g < w.heap.size := (Array.getElem?_eq_some_iff.1 hgb).1
  have hv : Row w (some ⟨g, 0, none⟩) (encBk b) := by
    intro j v hj
    exact ⟨g, 0, rfl, hlt, by rw [Nat.zero_add, cell_of_row _ _ _ _ _ _ hgb]; simpa using hj⟩
  have hln : l.length = n := own_flat_len encBk_length (by decide) hown
  by_cases he : i = n
  · subst he
    have := insert_end base a i c g l b w hown hn hbase hv
    rw [List.take_of_length_le (by omega), List.drop_eq_nil_of_le (by omega)]
    exact this
  · by_cases hc : n + 1 ≤ c
    · exact insert_shift base a n c g i l b w hown (by omega) hn hc hbase hgb hne hv
    · exact insert_grow base a n c g i l b w hown (by omega) hn (by omega) hbase hv
end Go.Proofs.YtjljcifpcljlaaaDoor
/- Contracts of package buddy: New. -/
namespace Go.Proofs.YtjljcifpcljlaaaDoor
open Go.RowKit
set_option linter.unusedVariables false

theorem flatT_set (y : List Nat) (i t : Nat) : (flat encT y).set i (vI t) = flat encT (y.set i t) := by
  have h : ∀ y : List Nat, flat encT y = y.map fun (t : Nat) => vI t := fun y => by
    unfold flat encT
    induction y with
    | nil => rfl
    | cons x y ih => rw [List.flatMap_cons, ih]; rfl
  rw [h, h, List.map_set]
theorem flatT_rep (k v : Nat) : flat encT (List.replicate k v) = List.replicate k (vI v) := by
  unfold flat encT
  induction k with
  | zero => rfl
  | succ k ih => rw [List.replicate_succ, List.flatMap_cons, ih]; rfl

set_option maxHeartbeats 1000000 in
set_option maxRecDepth 100000 in
theorem new_ok (f e k : Nat) (w : World) (h1 : f ≤ e) (h2 : e ≤ 256) (h3 : f % 16 = 0) (h4 : e % 16 = 0) (hk : k = (e - f) / 8) :
    Calls Tryd.prog 55 #[.int .i64 f, .int .i64 e] w fun ev w' => ∃ a2 c2, ev = .returned (.tuple #[.agg #[.int .i64 f, .int .i64 e, .slice none 0 0, .slice a2 k c2], .int .i64 0]) ∧ ZOwn w' w.heap.size none a2 0 k 0 c2 ⟨f, e, [], List.replicate k 1⟩ ∧ Below w.heap.size w w' := by
  obtain ⟨i0, hi, hz, hsize, hby⟩ := info_parts info_int
  have d1 : decide ((256 : Int) < e) = false := decide_eq_false (by omega)
  have d2 : decide (e < f) = false := decide_eq_false (by omega)
  have d3 : (f : Int) % 16 = 0 := by omega
  have d4 : (e : Int) % 16 = 0 := by omega
  have d5 : (f : Int) ≤ e := by omega
  have HK : ((e : Int) - f) / 8 = (k : Int) := by omega
  have hk2 : k ≤ 32 := by omega
  have hk8 : (k : Int) ≤ 32 := by omega
  clear hk
  obtain ⟨K0, F0, hsz0, hbw0⟩ := boxes1 w #[.int .i64 0, .int .i64 0, .slice none 0 0, .slice none 0 0] 55
  go_enter Tryd.func55, Tryd.ntmps55
  go_wp2_with (at_make; refine wpList_make_full _ rfl _ _ 30 rfl (w.alloc (.cells #[.int .i64 0, .int .i64 0, .slice none 0 0, .slice none 0 0] 55)).heap.size 3 i0 (.int .i64 0) 1 Tryd.underlying30 hi hz hsize .i64 .i64 _ _ k rfl rfl HK HK ?q1 ?q2 ?q3 ?_)
  case q1 => rw [hby]; omega
  case q2 => unfold maxLen; omega
  case q3 => exact Nat.le_refl _
  intro w1 hown hgrow
  rw [toList_madeCells_one] at hown
  have hbw1 := hbw0.grown hgrow (by simp) (by simp)
  have hs1 : w.heap.size + 1 < w1.heap.size := by have := (hown.lt _ rfl).2; simpa using this
  have K4 : ∀ o, w1.cell? ⟨w.heap.size, o, none⟩ = (#[.int .i64 0, .int .i64 0, .slice none 0 0, .slice none 0 0] : Array Value)[o]? := fun o => by rw [World.cell?_of_block (hgrow.block w.heap.size (by simp) (by simp))]; exact K0 o
  have F4 : ∀ o, w1.frozen? ⟨w.heap.size, o, none⟩ = false := fun o => by rw [World.frozen?_of_block (hgrow.block w.heap.size (by simp) (by simp))]; exact F0 o
  have hb2 := below_alloc w1 (.cells #[.int .i64 (f : Int), .int .i64 (e : Int), .slice none 0 0, .slice (some ⟨w.heap.size + 1, 0, none⟩) k k] 55)
  have hown2 := own_below hown hb2 (Nat.le_refl _)
  have K6 := box_new w1 #[.int .i64 (f : Int), .int .i64 (e : Int), .slice none 0 0, .slice (some ⟨w.heap.size + 1, 0, none⟩) k k] 55
  have K4b := box_step K4 (by omega) hb2
  have F4b := frz_step F4 (by omega) hb2
  have hs2 : w1.heap.size < (w1.alloc (.cells #[.int .i64 (f : Int), .int .i64 (e : Int), .slice none 0 0, .slice (some ⟨w.heap.size + 1, 0, none⟩) k k] 55)).heap.size := by simp
  have hbw2 := Below.step hbw1 hb2
  rw [show List.replicate k (Value.int .i64 0) = flat encT (List.replicate k 0) from (flatT_rep k 0).symm] at hown2
  have HO2 := Hid.mk hown2
  clear hown hown2 hgrow K4 F4 hbw1 hb2 K0 F0
  go_wp2
  generalize w1.alloc (.cells #[.int .i64 (f : Int), .int .i64 (e : Int), .slice none 0 0, .slice (some ⟨w.heap.size + 1, 0, none⟩) k k] 55) = w2 at *
  generalize w1.heap.size = B6 at *
  go_loopw [7, 41] (fun _ s41 wr => ∃ i : Nat, i ≤ k ∧ s41 = .int .i64 i ∧ Hid (wr.ownsRow (w.heap.size + 1) 3 1 (.slice (some ⟨w.heap.size + 1, 0, none⟩) k k) k (flat encT (List.replicate i 1 ++ List.replicate (k - i) 0))) ∧ Hid (∀ o, wr.cell? ⟨B6, o, none⟩ = (#[.int .i64 (f : Int), .int .i64 (e : Int), .slice none 0 0, .slice (some ⟨w.heap.size + 1, 0, none⟩) k k] : Array Value)[o]?) ∧ Hid (∀ o, wr.cell? ⟨w.heap.size, o, none⟩ = (#[.int .i64 0, .int .i64 0, .slice none 0 0, .slice none 0 0] : Array Value)[o]?) ∧ Hid (∀ o, wr.frozen? ⟨w.heap.size, o, none⟩ = false) ∧ Below w.heap.size w wr) (fun _ s41 _ => k - (intOf s41).toNat)
  case atStart => exact ⟨0, Nat.zero_le _, rfl, by simpa [Hid] using HO2.out, K6, K4b, F4b, hbw2⟩
  case round =>
    obtain ⟨i, hi, rfl, hown, HK6, HK4, HF4, hb3⟩ := hrel
    clear HO2 K6 K4b F4b
    by_cases hlt : i < k
    · obtain ⟨g, v, eg, hg, hgs, hc, hf⟩ := own_cell hown.out i (by rw [flat_length encT_length]; simp; omega)
      obtain rfl : w.heap.size + 1 = g := by simpa using eg
      have K6r := HK6.out
      have h := (World.ownsRow.stored hown.out i (vI 1)).1
      have hset : (flat encT (List.replicate i 1 ++ List.replicate (k - i) 0)).set i (vI 1) = flat encT (List.replicate (i + 1) 1 ++ List.replicate (k - (i + 1)) 0) := by
        rw [show (vI 1) = vI ((1 : Nat) : Int) from rfl, flatT_set]
        congr 1
        rw [List.set_append_right _ _ (by simp), List.length_replicate, Nat.sub_self, show k - i = (k - (i + 1)) + 1 by omega, List.replicate_succ, List.set_cons_zero, List.replicate_succ', List.append_assoc]
        rfl
      rw [hset] at h
      have HN := Hid.mk h
      have HK6' := Hid.mk (box_set_other K6r (c := w.heap.size + 1) (by omega) i (.int .i64 1))
      have HK4' := Hid.mk (box_set_other HK4.out (c := w.heap.size + 1) (by omega) i (.int .i64 1))
      have HF4' := Hid.mk (frz_set HF4.out ⟨w.heap.size + 1, i, none⟩ (.int .i64 1))
      clear h hset hown HK4 HF4
      go_wp2
      go_roundw
      case rel => exact ⟨i + 1, by omega, by go_num, HN.out, HK6'.out, HK4'.out, HF4'.out, hb3.setCell (by simp only; omega) _⟩
      case measure => simp [intOf]; omega
    · obtain rfl : i = k := by omega
      rw [Nat.sub_self, List.replicate_zero, List.append_nil] at hown
      have K6r := HK6.out
      have K4r := HK4.out
      have F4r := HF4.out
      have HZ := Hid.mk (show ZOwn wr (w.heap.size + 1) none (some ⟨w.heap.size + 1, 0, none⟩) 0 i 0 i ⟨f, e, [], List.replicate i 1⟩ from ⟨rfl, by simp, World.ownsRow_nil _ _ _ _, hown.out⟩)
      clear hown HK6 HK4 HF4
      go_wp2
      have nn := HZ.out.ne (g := w.heap.size) (.inl (by omega))
      refine bodyPost_ret (v := .tuple #[.agg #[.int .i64 f, .int .i64 e, .slice none 0 0, .slice (some ⟨w.heap.size + 1, 0, none⟩) i i], .int .i64 0]) (by simp [results, Tryd.results55, go_sem, K4r]) rfl ⟨some ⟨w.heap.size + 1, 0, none⟩, i, rfl, ((((HZ.out.set nn _ _).set nn _ _).set nn _ _).set nn _ _).base (by omega), ?_⟩
      exact Below.setCell (Below.setCell (Below.setCell (Below.setCell hb3 (by simp only; omega) _) (by simp only; omega) _) (by simp only; omega) _) (by simp only; omega) _
end Go.Proofs.YtjljcifpcljlaaaDoor
/- Contracts of package buddy: Check. -/
namespace Go.Proofs.YtjljcifpcljlaaaDoor
open Go.RowKit
set_option linter.unusedVariables false

theorem xor_all : ∀ a : Nat, a < 256 → ∀ o : Nat, o < 5 → a % 2 ^ o = 0 → bits .xor .i64 (a : Int) (2 ^ o) = ((bud a o : Nat) : Int) := by decide +kernel
theorem xor_bk {a o : Nat} (ha : a < 256) (ho : o ≤ 4) (hm : a % 2 ^ o = 0) : bits .xor .i64 (a : Int) (2 ^ o) = ((bud a o : Nat) : Int) := xor_all a ha o (by omega) hm

theorem odd_any (t : Nat) (w : World) (ht : t < 3) :
    Calls Tryd.prog 57 (#[.int .i64 (t : Int)] ++ #[]) w fun ev w' => ev = .returned (.bool false) ∧ Below w.heap.size w w' := by
  show Calls Tryd.prog 57 #[.int .i64 (t : Int)] w _
  go_enter Tryd.func57, Tryd.ntmps57
  go_wp2
  go_ret
  refine ⟨ret_bool (decide_eq_false (by omega)), Below.refl _ _⟩

theorem odd_any' (t : Nat) (w : World) (ht : t < 3) :
    Calls Tryd.prog 57 #[.int .i64 (t : Int)] w fun ev w' => ev = .returned (.bool false) ∧ Below w.heap.size w w' := odd_any t w ht

set_option maxHeartbeats 4000000 in
set_option maxRecDepth 100000 in
theorem check_ok (a1 a2 : Option Addr) (n1 n2 c1 c2 : Nat) (z : Zn) (w : World) (hat : ZAt w a1 a2 n1 n2 z) (hz : z.ok) :
    Calls Tryd.prog 33 #[.agg #[.int .i64 z.f, .int .i64 z.e, .slice a1 n1 c1, .slice a2 n2 c2]] w fun ev w' => ev = .returned (.int .i64 0) ∧ Below w.heap.size w w' := by
  obtain ⟨hZ, hL⟩ := hz
  obtain ⟨z1, z2, z3, z4, z5, z6⟩ := hZ
  have hlen : z.l.length ≤ 256 := Nat.le_trans (OkL.length_le hL (fun b hb => (hL.fit b hb).1.2.2.1)) z2
  obtain ⟨K1, F1, hsz, hbw⟩ := boxes1 w #[.int .i64 (z.f : Int), .int .i64 (z.e : Int), .slice a1 n1 c1, .slice a2 n2 c2] 55
  have hat0 := hat.below hbw
  have l1 := hat.l1
  have l2 := hat.l2
  have hn2 : n2 = (z.e - z.f) / 8 := by rw [← l2, z5]
  clear hat
  have hcall : ∀ (w : World), Calls Tryd.prog 55 #[.int .i64 z.f, .int .i64 z.e] w fun ev w' => ∃ a2 c2, ev = .returned (.tuple #[.agg #[.int .i64 z.f, .int .i64 z.e, .slice none 0 0, .slice a2 n2 c2], .int .i64 0]) ∧ Below w.heap.size w w' := fun w => (new_ok z.f z.e n2 w z1 z2 z3 z4 hn2).mono fun _ _ ⟨a2, c2, h1, _, h3⟩ => ⟨a2, c2, h1, h3⟩
  have hN3 : ((n2 : Int) == ((z.e : Int) - z.f) / 8) = true := by rw [beq_iff_eq]; omega
  have hN4 : ((n2 : Int) != ((z.e : Int) - z.f) / 8) = false := by simp only [bne, hN3, Bool.not_true]
  clear hn2
  go_enter Tryd.func33, Tryd.ntmps33
  go_wp2_with fail
  generalize w.alloc (.cells #[.int .i64 (z.f : Int), .int .i64 (z.e : Int), .slice a1 n1 c1, .slice a2 n2 c2] 55) = w0 at *
  refine (hcall _).mono ?_
  rintro ev w1 ⟨a3, c3, rfl, hb1⟩
  have hb2 := below_alloc w1 (.cells #[.int .i64 (z.f : Int), .int .i64 (z.e : Int), .slice none 0 0, .slice a3 n2 c3] 55)
  have hb12 := Below.step hb1 hb2
  have K1b := box_step K1 hsz hb12
  have hat2 := hat0.below hb12
  have hbw2 := Below.step hbw hb12
  have hsz2 : w.heap.size < (w1.alloc (.cells #[.int .i64 (z.f : Int), .int .i64 (z.e : Int), .slice none 0 0, .slice a3 n2 c3] 55)).heap.size := Nat.lt_of_lt_of_le hsz hb12.size
  clear K1 F1 hb1 hb2 hb12 hat0 hcall
  have hodd : (z.y.any fun t => decide (3 ≤ t)) = false := by
    rw [List.any_eq_false]
    intro t ht h
    have := z6 t ht
    have := of_decide_eq_true h
    omega
  have eg : ∀ args w, (callFunc 57 args).run Tryd.prog w = .ok (.enter 57 args) w := enters_of Tryd.func57 (by kernel_rfl) rfl
  have hyl : z.y.length ≤ 32 := by omega
  go_wp2_with fail
  generalize w1.alloc (.cells #[.int .i64 (z.f : Int), .int .i64 (z.e : Int), .slice none 0 0, .slice a3 n2 c3] 55) = w2 at *
  refine (containsFuncT _ _ _ z.y _ _ (fun t => decide (3 ≤ t)) _ l2 (by omega) hat2.r2 eg (fun W hW t ht => (odd_any t W (z6 t ht)).mono fun _ _ ⟨h1, h2⟩ => ⟨h1.trans (ret_bool (decide_eq_false (by have := z6 t ht; omega)).symm), h2⟩)).mono ?_
  rw [hodd]
  rintro ev w3 ⟨rfl, hb3⟩
  have K1c := box_step K1b hsz2 hb3
  have hat3 := hat2.below hb3
  have hbw3 := Below.step hbw2 hb3
  have hsz3 : w.heap.size < w3.heap.size := Nat.lt_of_lt_of_le hsz2 hb3.size
  clear K1b hat2 hb3 hodd eg
  go_wp2
  go_loopw [6, 7, 37] (fun _ _ s37 wr => ∃ i : Nat, i ≤ n1 ∧ s37 = .int .i64 i ∧ Below w3.heap.size w3 wr) (fun _ _ s37 _ => n1 - (intOf s37).toNat)
  case atStart => exact ⟨0, Nat.zero_le _, rfl, Below.refl _ _⟩
  case round =>
    obtain ⟨i, hi, rfl, hb4⟩ := hrel
    by_cases hlt : i < n1
    · have hlt2 : i < z.l.length := by omega
      obtain ⟨bb, off, ha1, hb, hc⟩ := row_elem encBk_length (by decide) (hat3.r1.below hb4) hlt2
      obtain rfl := ha1
      obtain ⟨hc0, hc1, hc2⟩ := encBk_cells hc
      have hfit := hL.fit _ (List.getElem_mem hlt2)
      have K1r := box_step K1c hsz3 hb4
      have hszr : w.heap.size < wr.heap.size := Nat.lt_of_lt_of_le hsz3 hb4.size
      go_wp2_with fail
      have hb5 := below_alloc wr (.cells #[.int .i64 (z.l[i].a : Int), .int .i64 (z.l[i].o : Int), .int .i64 (z.l[i].t : Int)] 40)
      have K7 := box_new wr #[.int .i64 (z.l[i].a : Int), .int .i64 (z.l[i].o : Int), .int .i64 (z.l[i].t : Int)] 40
      have hs5 : wr.heap.size < (wr.alloc (.cells #[.int .i64 (z.l[i].a : Int), .int .i64 (z.l[i].o : Int), .int .i64 (z.l[i].t : Int)] 40)).heap.size := by simp
      have K1s := box_step K1r hszr hb5
      have hb45 := Below.step hb4 hb5
      have hat5 := hat3.below hb45
      clear hc hc0 hc1 hc2 K1r
      generalize wr.alloc (.cells #[.int .i64 (z.l[i].a : Int), .int .i64 (z.l[i].o : Int), .int .i64 (z.l[i].t : Int)] 40) = w5 at *
      have hb6 : bb < w5.heap.size := Nat.lt_of_lt_of_le hb hb5.size
      have hs6 : w.heap.size < w5.heap.size := Nat.lt_of_lt_of_le hszr hb5.size
      have k10 := K1s 0
      have k11 := K1s 1
      have k12 := K1s 2
      have k13 := K1s 3
      have k70 := K7 0
      have k71 := K7 1
      have k72 := K7 2
      simp only [List.getElem?_toArray, List.getElem?_cons_zero, List.getElem?_cons_succ] at k10 k11 k12 k13 k70 k71 k72
      clear K7 K1s
      by_cases hi0 : 0 < i
      · have d0 : decide (0 < (i : Int)) = true := decide_eq_true (by omega)
        have hii : i - 1 < z.l.length := by omega
        obtain ⟨b', off', e', hb', hc'⟩ := row_elem encBk_length (by decide) hat5.r1 hii
        obtain ⟨rfl, rfl⟩ : bb = b' ∧ off = off' := by simpa using e'
        obtain ⟨hc0, hc1, hc2⟩ := encBk_cells hc'
        have hfy := hL.fit _ (List.getElem_mem hii)
        have hsep := List.pairwise_iff_getElem.1 hL.sep (i - 1) i hii hlt2 (by omega)
        have hnob := hL.nob z.l[i] (List.getElem_mem hlt2) z.l[i - 1] (List.getElem_mem hii)
        have hi1 : 0 ≤ (i : Int) - 1 := by omega
        have hi2 : (i : Int) - 1 < (n1 : Int) := by omega
        have hi3 : ((i : Int) - 1).toNat = i - 1 := by omega
        have hi4 : IntKind.i64.wrap ((i : Int) - 1) = (i : Int) - 1 := IntWalk.i64_in _ (by omega)
        generalize z.l[i] = x at *
        generalize z.l[i - 1] = y at *
        have d1 : decide ((x.a : Int) < (y.fin : Int)) = false := decide_eq_false (by omega)
        have d2 : decide (x.a < y.fin) = false := decide_eq_false (by omega)
        clear hc'
        refine wp_region_ext_lit (by kernel_rfl) (by kernel_rfl) ?_
        repeat (first | go_big_quiet_step ((first | (go_at_call 58; exact Calls.ext_of (fits_yes z.f z.e _ _ _ _ _ _ x _ hfit.1 z2)) | (go_at_call 57; exact Calls.ext_of (odd_any' x.t _ hfit.2)) | (go_at_call 59; exact Calls.ext_of (end_bk y _ hfy.1.1 (by have := hfy.1.2.2.1; omega))))) | quiet_step ((first | (go_at_call 58; exact Calls.ext_of (fits_yes z.f z.e _ _ _ _ _ _ x _ hfit.1 z2)) | (go_at_call 57; exact Calls.ext_of (odd_any' x.t _ hfit.2)) | (go_at_call 59; exact Calls.ext_of (end_bk y _ hfy.1.1 (by have := hfy.1.2.2.1; omega))))))
        refine wpQuiet_nil ?_
        rintro _ ⟨wx, rfl⟩
        have hb7 : Below w3.heap.size w3 (ext w5 wx) := Below.step hb45 (ext_below w5 wx)
        have hx := ext_below w5 wx
        have m12 := (hx.cell (p := ⟨w.heap.size, 2, none⟩) hs6).trans k12
        have m70 := (hx.cell (p := ⟨wr.heap.size, 0, none⟩) hs5).trans k70
        have m71 := (hx.cell (p := ⟨wr.heap.size, 1, none⟩) hs5).trans k71
        have n0 := (hx.cell (p := ⟨bb, off + (i - 1) * 3, none⟩) hb6).trans hc0
        have n1' := (hx.cell (p := ⟨bb, off + (i - 1) * 3 + 1, none⟩) hb6).trans hc1
        clear k10 k11 k12 k13 k70 k71 k72 hc0 hc1 hc2 hx
        go_wp2_with fail
        generalize ext w5 wx = w6 at *
        by_cases ho4 : x.o < 4
        · have d3 : decide ((x.o : Int) < 4) = true := decide_eq_true (by omega)
          by_cases hoe : y.o = x.o
          · have d4 : ((y.o : Int) == (x.o : Int)) = true := by rw [beq_iff_eq]; omega
            have hsh := shl_bk hfit.1.1
            have d5 : ((y.a : Int) == bits .xor .i64 (x.a : Int) (2 ^ x.o)) = false := by
              rw [xor_bk (by have := hfit.1.2.2.1; omega) hfit.1.1 hfit.1.2.2.2, beq_eq_false_iff_ne]
              intro e2
              exact hnob hoe.symm ho4 (by omega)
            go_quiet (fail)
            go_wp2
            go_roundw
            case rel => exact ⟨i + 1, by omega, by go_num, below_drewN hb7 _⟩
            case measure => simp [intOf]; omega
          · have d4 : ((y.o : Int) == (x.o : Int)) = false := by rw [beq_eq_false_iff_ne]; omega
            go_quiet (fail)
            go_wp2
            go_roundw
            case rel => exact ⟨i + 1, by omega, by go_num, below_drewN hb7 _⟩
            case measure => simp [intOf]; omega
        · have d3 : decide ((x.o : Int) < 4) = false := decide_eq_false (by omega)
          go_quiet (fail)
          go_wp2
          go_roundw
          case rel => exact ⟨i + 1, by omega, by go_num, below_drewN hb7 _⟩
          case measure => simp [intOf]; omega
      · have d0 : decide (0 < (i : Int)) = false := decide_eq_false (by omega)
        generalize z.l[i] = x at *
        refine wp_region_ext_lit (by kernel_rfl) (by kernel_rfl) ?_
        repeat (first | go_big_quiet_step ((first | (go_at_call 58; exact Calls.ext_of (fits_yes z.f z.e _ _ _ _ _ _ x _ hfit.1 z2)) | (go_at_call 57; exact Calls.ext_of (odd_any' x.t _ hfit.2)))) | quiet_step ((first | (go_at_call 58; exact Calls.ext_of (fits_yes z.f z.e _ _ _ _ _ _ x _ hfit.1 z2)) | (go_at_call 57; exact Calls.ext_of (odd_any' x.t _ hfit.2)))))
        refine wpQuiet_nil ?_
        rintro _ ⟨wx, rfl⟩
        have hb7 : Below w3.heap.size w3 (ext w5 wx) := Below.step hb45 (ext_below w5 wx)
        go_wp2_with fail
        generalize ext w5 wx = w6 at *
        go_quiet (fail)
        go_wp2
        go_roundw
        case rel => exact ⟨i + 1, by omega, by go_num, below_drewN hb7 _⟩
        case measure => simp [intOf]; omega
    · obtain rfl : i = n1 := by omega
      go_wp2
      go_ret
      exact ⟨rfl, Below.step hbw3 hb4⟩
end Go.Proofs.YtjljcifpcljlaaaDoor
/- Contracts of package buddy: lowest; the predicate of Back. -/
namespace Go.Proofs.YtjljcifpcljlaaaDoor
open Go.RowKit
set_option linter.unusedVariables false

set_option maxHeartbeats 2000000 in
/-- do a block and one of a place and an order meet? -/
theorem meets_bk (x b : Bk) (B : Nat) (W : World) (hx : x.o ≤ 4) (hxa : x.a ≤ 1000) (hb : b.o ≤ 4) (hba : b.a ≤ 1000) (hB : B < W.heap.size) (h0 : W.cell? ⟨B, 0, none⟩ = some (.int .i64 b.a)) (h1 : W.cell? ⟨B, 1, none⟩ = some (.int .i64 b.o)) (h2 : W.cell? ⟨B, 2, none⟩ = some (.int .i64 b.t)) :
    Calls Tryd.prog 78 (#[.agg (encBk x).toArray] ++ #[.pointer (some ⟨B, 0, none⟩)]) W fun ev w' => ev = .returned (.bool (decide (x.a < b.fin ∧ b.a < x.fin))) ∧ Below W.heap.size W w' := by
  show Calls Tryd.prog 78 #[.agg #[.int .i64 x.a, .int .i64 x.o, .int .i64 x.t], .pointer (some ⟨B, 0, none⟩)] W _
  have hb0 := below_alloc W (.cells #[.int .i64 (x.a : Int), .int .i64 (x.o : Int), .int .i64 (x.t : Int)] 40)
  have K := box_new W #[.int .i64 (x.a : Int), .int .i64 (x.o : Int), .int .i64 (x.t : Int)] 40
  have hs : W.heap.size < (W.alloc (.cells #[.int .i64 (x.a : Int), .int .i64 (x.o : Int), .int .i64 (x.t : Int)] 40)).heap.size := by simp
  have hB2 : B < (W.alloc (.cells #[.int .i64 (x.a : Int), .int .i64 (x.o : Int), .int .i64 (x.t : Int)] 40)).heap.size := by omega
  have g0 := (hb0.cell (p := ⟨B, 0, none⟩) hB).trans h0
  have g1 := (hb0.cell (p := ⟨B, 1, none⟩) hB).trans h1
  have g2 := (hb0.cell (p := ⟨B, 2, none⟩) hB).trans h2
  have k0 := K 0
  have k1 := K 1
  have k2 := K 2
  simp only [List.getElem?_toArray, List.getElem?_cons_zero, List.getElem?_cons_succ] at k0 k1 k2
  have c1 : ((x.a : Int) < (b.fin : Int)) ↔ x.a < b.fin := by omega
  clear h0 h1 h2 K
  cases hd : decide (x.a < b.fin) with
  | true =>
    have hd' : decide ((x.a : Int) < (b.fin : Int)) = true := decide_eq_true (by have := of_decide_eq_true hd; omega)
    go_enter Tryd.func78, Tryd.ntmps78
    go_wp2_with fail
    generalize W.alloc (.cells #[.int .i64 (x.a : Int), .int .i64 (x.o : Int), .int .i64 (x.t : Int)] 40) = w0 at *
    refine wp_region_ext_lit (by kernel_rfl) (by kernel_rfl) ?_
    repeat (first | go_big_quiet_step ((go_at_call 59; first | with_reducible exact Calls.ext_of (end_bk b _ hb hba) | with_reducible exact Calls.ext_of (end_bk x _ hx hxa))) | quiet_step ((go_at_call 59; first | with_reducible exact Calls.ext_of (end_bk b _ hb hba) | with_reducible exact Calls.ext_of (end_bk x _ hx hxa))))
    refine wpQuiet_nil ?_
    rintro _ ⟨wx, rfl⟩
    have hbx := Below.step hb0 (ext_below w0 wx)
    go_wp2
    go_ret
    exact ⟨ret_bool (by rw [Bool.decide_and, hd, Bool.true_and]), hbx⟩
  | false =>
    have hd' : decide ((x.a : Int) < (b.fin : Int)) = false := decide_eq_false (by have := of_decide_eq_false hd; omega)
    go_enter Tryd.func78, Tryd.ntmps78
    go_wp2_with fail
    generalize W.alloc (.cells #[.int .i64 (x.a : Int), .int .i64 (x.o : Int), .int .i64 (x.t : Int)] 40) = w0 at *
    refine wp_region_ext_lit (by kernel_rfl) (by kernel_rfl) ?_
    repeat (first | go_big_quiet_step ((go_at_call 59; first | with_reducible exact Calls.ext_of (end_bk b _ hb hba) | with_reducible exact Calls.ext_of (end_bk x _ hx hxa))) | quiet_step ((go_at_call 59; first | with_reducible exact Calls.ext_of (end_bk b _ hb hba) | with_reducible exact Calls.ext_of (end_bk x _ hx hxa))))
    refine wpQuiet_nil ?_
    rintro _ ⟨wx, rfl⟩
    have hbx := Below.step hb0 (ext_below w0 wx)
    go_wp2
    go_ret
    exact ⟨ret_bool (by rw [Bool.decide_and, hd, Bool.false_and]), hbx⟩

theorem isOne (b : Bk) (o t B C : Nat) (W : World) (hB : B < W.heap.size) (hc : W.cell? ⟨B, 0, none⟩ = some (.int .i64 o)) (hC : C < W.heap.size) (hc2 : W.cell? ⟨C, 0, none⟩ = some (.int .i64 t)) :
    Calls Tryd.prog 88 (#[.agg (encBk b).toArray] ++ #[.pointer (some ⟨B, 0, none⟩), .pointer (some ⟨C, 0, none⟩)]) W fun ev w' => ev = .returned (.bool (decide (b.o = o ∧ b.t = t))) ∧ Below W.heap.size W w' := by
  have hne : B ≠ W.heap.size := by omega
  have hne2 : C ≠ W.heap.size := by omega
  show Calls Tryd.prog 88 #[.agg #[.int .i64 b.a, .int .i64 b.o, .int .i64 b.t], .pointer (some ⟨B, 0, none⟩), .pointer (some ⟨C, 0, none⟩)] W _
  by_cases c1 : b.o = o
  · by_cases c2 : b.t = t
    · subst c1 c2
      go_enter Tryd.func88, Tryd.ntmps88
      go_wp2
      go_ret
      exact ⟨ret_bool (by simp), below_alloc _ _⟩
    · have d2 : ((b.t : Int) == (t : Int)) = false := by rw [beq_eq_false_iff_ne]; omega
      subst c1
      go_enter Tryd.func88, Tryd.ntmps88
      go_wp2
      go_ret
      exact ⟨ret_bool (by symm; exact decide_eq_false (fun h => c2 h.2)), below_alloc _ _⟩
  · have d1 : ((b.o : Int) == (o : Int)) = false := by rw [beq_eq_false_iff_ne]; omega
    go_enter Tryd.func88, Tryd.ntmps88
    go_wp2
    go_ret
    exact ⟨ret_bool (by symm; exact decide_eq_false (fun h => c1 h.1)), below_alloc _ _⟩

theorem lowest_ok (a1 a2 : Option Addr) (n1 n2 c1 c2 : Nat) (f e : Nat) (z : Zn) (o t : Nat) (w : World) (hat : ZAt w a1 a2 n1 n2 z) (hl : n1 ≤ 1000) :
    Calls Tryd.prog 83 #[.agg #[.int .i64 f, .int .i64 e, .slice a1 n1 c1, .slice a2 n2 c2], .int .i64 o, .int .i64 t] w fun ev w' => ev = .returned (.int .i64 (findI (fun b => decide (b.o = o ∧ b.t = t)) z.l)) ∧ Below w.heap.size w w' := by
  obtain ⟨K3, K4, K5, F3, F4, F5, hsz, hbw⟩ := boxes3 w #[.int .i64 (f : Int), .int .i64 (e : Int), .slice a1 n1 c1, .slice a2 n2 c2] 55 #[.int .i64 (o : Int)] 3 #[.int .i64 (t : Int)] 3
  have hat0 := hat.below hbw
  have l1 := hat.l1
  have k4 := K4 0
  have k5 := K5 0
  simp only [List.getElem?_toArray, List.getElem?_cons_zero] at k4 k5
  clear hat K3 K4 K5 F3 F4 F5
  have eg : ∀ args w, (callFunc 88 args).run Tryd.prog w = .ok (.enter 88 args) w := enters_of Tryd.func88 (by kernel_rfl) rfl
  go_enter Tryd.func83, Tryd.ntmps83
  go_wp2_with fail
  generalize ((w.alloc (.cells #[.int .i64 (f : Int), .int .i64 (e : Int), .slice a1 n1 c1, .slice a2 n2 c2] 55)).alloc (.cells #[.int .i64 (o : Int)] 3)).alloc (.cells #[.int .i64 (t : Int)] 3) = w0 at *
  refine (indexFuncBk _ _ _ z.l _ _ (fun b => decide (b.o = o ∧ b.t = t)) _ l1 (by omega) hat0.r1 eg (fun W hW x hx => isOne x o t _ _ W (Nat.lt_of_lt_of_le (show w.heap.size + 1 < w0.heap.size by omega) hW.size) ((hW.cell (p := ⟨w.heap.size + 1, 0, none⟩) (by show w.heap.size + 1 < _; omega)).trans k4) (Nat.lt_of_lt_of_le (show w.heap.size + 1 + 1 < w0.heap.size by omega) hW.size) ((hW.cell (p := ⟨w.heap.size + 1 + 1, 0, none⟩) (by show w.heap.size + 1 + 1 < _; omega)).trans k5))).mono ?_
  rintro ev w1 ⟨rfl, hb1⟩
  go_wp2
  go_ret
  exact ⟨ret_int (by simp only [Bool.decide_and]), Below.step hbw hb1⟩
end Go.Proofs.YtjljcifpcljlaaaDoor
/- The state of buddy.Back and buddy.Take: a zone in a box, a block in a box, a box for what is handed back. -/
namespace Go.Proofs.YtjljcifpcljlaaaDoor
open Go.RowKit
set_option linter.unusedVariables false

/-- rows of different element types lie in different blocks -/
theorem own_diff {w : World} {b1 b2 : Nat} {e1 e2 : TypeId} {s1 s2 : Nat} {v1 v2 : Value} {n1 n2 : Nat} {xs ys : List Value} (h1 : w.ownsRow b1 e1 s1 v1 n1 xs) (h2 : w.ownsRow b2 e2 s2 v2 n2 ys) (he : e1 ≠ e2) (k : Nat) (hk : v1.ownBlock = some k) : v2.ownBlock ≠ some k := by
  intro hk2
  rcases h1.2 with ⟨h', _⟩ | ⟨g, cap, cur, h', _, hg, _⟩
  · rw [h'] at hk; cases hk
  · rcases h2.2 with ⟨h'', _⟩ | ⟨g2, cap2, cur2, h'', _, hg2, _⟩
    · rw [h''] at hk2; cases hk2
    · rw [h'] at hk; rw [h''] at hk2
      simp only [Value.ownBlock, Option.some.injEq] at hk hk2
      subst hk; subst hk2
      rw [hg] at hg2
      simp only [Option.some.injEq, Obj.cells.injEq] at hg2
      exact he hg2.2.1

theorem box_grown {w w' : World} {b : Nat} {vs : Array Value} (h : ∀ o, w.cell? ⟨b, o, none⟩ = vs[o]?) (hlt : b < w.heap.size) {row : Option Nat} (hg : w.grownBy w' row) (hne : some b ≠ row) (o : Nat) : w'.cell? ⟨b, o, none⟩ = vs[o]? := by
  rw [World.cell?_of_block (hg.block b hlt hne)]; exact h o
theorem frz_grown {w w' : World} {b : Nat} (h : ∀ o, w.frozen? ⟨b, o, none⟩ = false) (hlt : b < w.heap.size) {row : Option Nat} (hg : w.grownBy w' row) (hne : some b ≠ row) (o : Nat) : w'.frozen? ⟨b, o, none⟩ = false := by
  rw [World.frozen?_of_block (hg.block b hlt hne)]; exact h o

/-- B: the box of the block; the zone's box and the one for what is handed back lie below -/
structure KInv (w W : World) (B : Nat) (a1 a2 : Option Addr) (n1 n2 c1 c2 : Nat) (z : Zn) (a o t : Nat) : Prop where
  k3 : ∀ i, W.cell? ⟨w.heap.size, i, none⟩ = (#[.int .i64 z.f, .int .i64 z.e, .slice a1 n1 c1, .slice a2 n2 c2] : Array Value)[i]?
  f3 : ∀ i, W.frozen? ⟨w.heap.size, i, none⟩ = false
  k6 : ∀ i, W.cell? ⟨w.heap.size + 1, i, none⟩ = (#[.int .i64 0, .int .i64 0, .slice none 0 0, .slice none 0 0] : Array Value)[i]?
  f6 : ∀ i, W.frozen? ⟨w.heap.size + 1, i, none⟩ = false
  k9 : ∀ i, W.cell? ⟨B, i, none⟩ = (#[.int .i64 a, .int .i64 o, .int .i64 t] : Array Value)[i]?
  f9 : ∀ i, W.frozen? ⟨B, i, none⟩ = false
  own : ZOwn W (B + 1) a1 a2 n1 n2 c1 c2 z
  lo : w.heap.size + 2 ≤ B
  hi : B < W.heap.size
  bw : Below w.heap.size w W

section
variable {w W W' : World} {B : Nat} {a1 a2 : Option Addr} {n1 n2 c1 c2 : Nat} {z : Zn} {a o t : Nat}
theorem KInv.below (h : KInv w W B a1 a2 n1 n2 c1 c2 z a o t) (hb : Below W.heap.size W W') : KInv w W' B a1 a2 n1 n2 c1 c2 z a o t := by
  have h1 := h.lo
  have h2 := h.hi
  exact ⟨box_step h.k3 (by omega) hb, frz_step h.f3 (by omega) hb, box_step h.k6 (by omega) hb, frz_step h.f6 (by omega) hb, box_step h.k9 h2 hb, frz_step h.f9 h2 hb, h.own.below hb, h1, Nat.lt_of_lt_of_le h2 hb.size, Below.step h.bw hb⟩
/-- a number of the block is written -/
theorem KInv.put9 (h : KInv w W B a1 a2 n1 n2 c1 c2 z a o t) (i : Nat) (u : Int) {a' o' t' : Nat} (he : (#[.int .i64 a, .int .i64 o, .int .i64 t] : Array Value).setIfInBounds i (.int .i64 u) = #[.int .i64 a', .int .i64 o', .int .i64 t']) : KInv w (W.setCell ⟨B, i, none⟩ (.int .i64 u)) B a1 a2 n1 n2 c1 c2 z a' o' t' := by
  have h1 := h.lo
  have h2 := h.hi
  exact ⟨box_set_other h.k3 (by omega) _ _, frz_set h.f3 _ _, box_set_other h.k6 (by omega) _ _, frz_set h.f6 _ _, he ▸ box_set h.k9 i _, frz_set h.f9 _ _, h.own.set (h.own.ne (.inl (by omega))) _ _, h1, by simpa using h2, h.bw.setCell (by simp only; omega) _⟩
/-- the list of free blocks is another, in its own block or in a new one; the zone's box does not know yet -/
structure KMid (w W : World) (B : Nat) (a1 a2 : Option Addr) (n1 n2 c1 c2 : Nat) (z : Zn) (a o t : Nat) (a1' : Option Addr) (n1' c1' : Nat) (l' : List Bk) : Prop where
  k3 : ∀ i, W.cell? ⟨w.heap.size, i, none⟩ = (#[.int .i64 z.f, .int .i64 z.e, .slice a1 n1 c1, .slice a2 n2 c2] : Array Value)[i]?
  f3 : ∀ i, W.frozen? ⟨w.heap.size, i, none⟩ = false
  k6 : ∀ i, W.cell? ⟨w.heap.size + 1, i, none⟩ = (#[.int .i64 0, .int .i64 0, .slice none 0 0, .slice none 0 0] : Array Value)[i]?
  f6 : ∀ i, W.frozen? ⟨w.heap.size + 1, i, none⟩ = false
  k9 : ∀ i, W.cell? ⟨B, i, none⟩ = (#[.int .i64 a, .int .i64 o, .int .i64 t] : Array Value)[i]?
  f9 : ∀ i, W.frozen? ⟨B, i, none⟩ = false
  own : ZOwn W (B + 1) a1' a2 n1' n2 c1' c2 { z with l := l' }
  lo : w.heap.size + 2 ≤ B
  hi : B < W.heap.size
  bw : Below w.heap.size w W
theorem KInv.grown (h : KInv w W B a1 a2 n1 n2 c1 c2 z a o t) (hg : W.grownBy W' (Value.ownBlock (.slice a1 n1 c1))) {a1' : Option Addr} {n1' c1' : Nat} {l' : List Bk} (hl : l'.length = n1') (ho : W'.ownsRow (B + 1) 40 3 (.slice a1' n1' c1') n1' (flat encBk l')) : KMid w W' B a1 a2 n1 n2 c1 c2 z a o t a1' n1' c1' l' := by
  have h1 := h.lo
  have h2 := h.hi
  have m3 := (h.own.ne (g := w.heap.size) (.inl (by omega))).1
  have m6 := (h.own.ne (g := w.heap.size + 1) (.inl (by omega))).1
  have m9 := (h.own.ne (g := B) (.inl (by omega))).1
  refine ⟨box_grown h.k3 (by omega) hg (fun e => m3 e.symm), frz_grown h.f3 (by omega) hg (fun e => m3 e.symm), box_grown h.k6 (by omega) hg (fun e => m6 e.symm), frz_grown h.f6 (by omega) hg (fun e => m6 e.symm), box_grown h.k9 h2 hg (fun e => m9 e.symm), frz_grown h.f9 h2 hg (fun e => m9 e.symm), ⟨hl, h.own.l2, ho, own_grown h.own.o2 hg (fun k hk e => own_diff h.own.o2 h.own.o1 (by decide) k hk e)⟩, h1, Nat.lt_of_lt_of_le h2 hg.size, ?_⟩
  exact h.bw.grown hg h.bw.size (fun k hk => by have := (h.own.o1.lt k hk).1; omega)
/-- and now it knows -/
theorem KMid.put3 {a1' : Option Addr} {n1' c1' : Nat} {l' : List Bk} (h : KMid w W B a1 a2 n1 n2 c1 c2 z a o t a1' n1' c1' l') : KInv w (W.setCell ⟨w.heap.size, 2, none⟩ (.slice a1' n1' c1')) B a1' a2 n1' n2 c1' c2 { z with l := l' } a o t := by
  have h1 := h.lo
  have h2 := h.hi
  exact ⟨box_set h.k3 2 _, frz_set h.f3 _ _, box_set_other h.k6 (by omega) _ _, frz_set h.f6 _ _, box_set_other h.k9 (by omega) _ _, frz_set h.f9 _ _, h.own.set (h.own.ne (.inl (by omega))) _ _, h1, by simpa using h2, h.bw.setCell (Nat.le_refl _) _⟩
end
end Go.Proofs.YtjljcifpcljlaaaDoor
/- Contract of package buddy: Back. -/
namespace Go.Proofs.YtjljcifpcljlaaaDoor
open Go.RowKit
set_option linter.unusedVariables false

theorem hasB_true {l : List Bk} (h : Rise l) {p : Nat} (hb : hasB l p = true) : ∃ hk : lb l p < l.length, l[lb l p].a = p := by
  rcases Nat.lt_or_ge (lb l p) l.length with hk | hk
  · refine ⟨hk, ?_⟩
    rw [hasB_at h hk] at hb
    exact of_decide_eq_true hb
  · rw [hasB_end h hk] at hb; cases hb
theorem joinUp_none {l : List Bk} {a o : Nat} (hr : Rise l) (ho : o < 4) (h : hasB l (bud a o) = false) : joinUp l a (4 - o) o = (l, a, o) := by
  obtain ⟨n, hn⟩ : ∃ n, 4 - o = n + 1 := ⟨3 - o, by omega⟩
  rw [hn]
  unfold joinUp
  cases hx : l[lb l (bud a o)]? with
  | none => rfl
  | some x =>
    obtain ⟨hi, hxi⟩ := List.getElem?_eq_some_iff.1 hx
    rw [hasB_at hr hi, hxi] at h
    have := of_decide_eq_false h
    simp only
    rw [if_neg (fun hc => this hc.1)]
theorem joinUp_diff {l : List Bk} {a o : Nat} (ho : o < 4) (hk : lb l (bud a o) < l.length) (h : l[lb l (bud a o)].o ≠ o) : joinUp l a (4 - o) o = (l, a, o) := by
  obtain ⟨n, hn⟩ : ∃ n, 4 - o = n + 1 := ⟨3 - o, by omega⟩
  rw [hn]
  unfold joinUp
  rw [List.getElem?_eq_getElem hk]
  simp only
  rw [if_neg (fun hc => h hc.2)]
theorem joinUp_step {l : List Bk} {a o : Nat} (ho : o < 4) (hk : lb l (bud a o) < l.length) (ha : l[lb l (bud a o)].a = bud a o) (h : l[lb l (bud a o)].o = o) : joinUp l a (4 - o) o = joinUp (l.eraseIdx (lb l (bud a o))) (min a (bud a o)) (4 - (o + 1)) (o + 1) := by
  obtain ⟨n, hn⟩ : ∃ n, 4 - o = n + 1 := ⟨3 - o, by omega⟩
  rw [hn, show 4 - (o + 1) = n by omega]
  conv => lhs; unfold joinUp
  rw [List.getElem?_eq_getElem hk]
  simp only
  rw [if_pos ⟨ha, h⟩, ha]
/-- one step of growing: what holds of the list without the block beside, and of the block that is twice as great -/
theorem join_keeps {f e : Nat} {l : List Bk} {a o : Nat} (hf : f % 16 = 0) (he : e % 16 = 0) (hl : OkL f e l) (hb : fitsB f e a o) (hd : ∀ x ∈ l, apartB a o x) (ho : o < 4) (hk : lb l (bud a o) < l.length) (ha : l[lb l (bud a o)].a = bud a o) (h : l[lb l (bud a o)].o = o) :
    OkL f e (l.eraseIdx (lb l (bud a o))) ∧ fitsB f e (min a (bud a o)) (o + 1) ∧ ∀ y ∈ l.eraseIdx (lb l (bud a o)), apartB (min a (bud a o)) (o + 1) y := by
  refine ⟨hl.sublist (List.eraseIdx_sublist _ _), fits_up hf he ho hb, fun y hy => ?_⟩
  obtain ⟨j, hj, hne, rfl⟩ := List.mem_eraseIdx_iff_getElem.1 hy
  have hy2 := sep_two hl.sep hj hk hne
  have hy1 := hd _ (List.getElem_mem hj)
  have hpy := pow_pos' l[j].o
  have hp := pow_pos' o
  have hps : 2 ^ (o + 1) = 2 ^ o + 2 ^ o := by rw [Nat.pow_succ]; omega
  have hbc := bud_cases hb.1 hb.2.2.2
  unfold apartB Bk.fin at *
  rw [ha, h] at hy2
  rw [hps]
  rcases hbc with ⟨h1, _⟩ | ⟨h1, _⟩ <;> omega
theorem bud_lt {f e a o : Nat} (hf : f % 16 = 0) (he : e % 16 = 0) (h : fitsB f e a o) (ho : o < 4) : bud a o < e := by
  obtain ⟨h1, h2, h3, h4⟩ := h
  unfold bud
  obtain rfl | rfl | rfl | rfl : o = 0 ∨ o = 1 ∨ o = 2 ∨ o = 3 := by omega
  all_goals simp only [Nat.reducePow] at *
  all_goals (split <;> omega)

set_option maxHeartbeats 4000000 in
set_option maxRecDepth 100000 in
theorem back_ok (a1 a2 : Option Addr) (n1 n2 c1 c2 : Nat) (z : Zn) (a o : Nat) (w : World) (hat : ZAt w a1 a2 n1 n2 z) (hz : z.ok) (hfit : fitsB z.f z.e a o) (hd : ∀ x ∈ z.l, apartB a o x) :
    Calls Tryd.prog 70 #[.agg #[.int .i64 z.f, .int .i64 z.e, .slice a1 n1 c1, .slice a2 n2 c2], .int .i64 a, .int .i64 o] w fun ev w' => ∃ a1' a2' n1' c1' c2', ev = .returned (.tuple #[.agg #[.int .i64 z.f, .int .i64 z.e, .slice a1' n1' c1', .slice a2' n2 c2'], .int .i64 0]) ∧ ZOwn w' w.heap.size a1' a2' n1' n2 c1' c2' (z.back a o) ∧ Below w.heap.size w w' := by
  have hlen : z.l.length ≤ 256 := Nat.le_trans (OkL.length_le hz.2 (fun b hb => (hz.2.fit b hb).1.2.2.1)) hz.1.e2
  have hee := hz.1.e2
  have hae : a ≤ 256 := by have := hfit.2.2.1; omega
  have l1 := hat.l1
  have l2 := hat.l2
  have hy32 : z.y.length ≤ 32 := by rw [hz.1.len]; omega
  obtain ⟨K3, K6, F3, F6, hsz, hbw⟩ := boxes2 w #[.int .i64 (z.f : Int), .int .i64 (z.e : Int), .slice a1 n1 c1, .slice a2 n2 c2] 55 #[.int .i64 0, .int .i64 0, .slice none 0 0, .slice none 0 0] 55
  have hat0 := hat.below hbw
  have hmeet : (z.l.any fun x => decide (x.a < (⟨a, o, 0⟩ : Bk).fin ∧ (⟨a, o, 0⟩ : Bk).a < x.fin)) = false := by
    rw [List.any_eq_false]
    intro x hx h
    have h1 := of_decide_eq_true h
    have h2 := hd x hx
    unfold apartB at h2
    unfold Bk.fin at h1 h2
    simp only at h1
    omega
  have eg : ∀ args w, (callFunc 78 args).run Tryd.prog w = .ok (.enter 78 args) w := enters_of Tryd.func78 (by kernel_rfl) rfl
  clear hat
  go_enter Tryd.func70, Tryd.ntmps70
  go_wp2_with fail
  generalize (w.alloc (.cells #[.int .i64 (z.f : Int), .int .i64 (z.e : Int), .slice a1 n1 c1, .slice a2 n2 c2] 55)).alloc (.cells #[.int .i64 0, .int .i64 0, .slice none 0 0, .slice none 0 0] 55) = w0 at *
  refine (check_ok _ _ _ _ _ _ z _ hat0 hz).mono ?_
  rintro ev w1 ⟨rfl, hb1⟩
  have hb2 := below_alloc w1 (.cells #[.int .i64 (a : Int), .int .i64 (o : Int), .int .i64 0] 40)
  have hb12 := Below.step hb1 hb2
  have K3b := box_step K3 (by omega) hb12
  have K6b := box_step K6 (by omega) hb12
  have F3b := frz_step F3 (by omega) hb12
  have F6b := frz_step F6 (by omega) hb12
  have K9b := box_new w1 #[.int .i64 (a : Int), .int .i64 (o : Int), .int .i64 0] 40
  have F9b := box_frz w1 #[.int .i64 (a : Int), .int .i64 (o : Int), .int .i64 0] 40
  have hat2 := hat0.below hb12
  have hbw2 := Below.step hbw hb12
  have hB : w.heap.size + 2 ≤ w1.heap.size := by have := hb1.size; omega
  have hs2 : w1.heap.size < (w1.alloc (.cells #[.int .i64 (a : Int), .int .i64 (o : Int), .int .i64 0] 40)).heap.size := by simp
  clear K3 K6 F3 F6 hb1 hb2 hb12 hat0 hbw hsz
  go_wp2_with fail
  generalize w1.alloc (.cells #[.int .i64 (a : Int), .int .i64 (o : Int), .int .i64 0] 40) = w2 at *
  generalize w1.heap.size = B at *
  refine (fits_yes z.f z.e _ _ _ _ _ _ ⟨a, o, 0⟩ _ hfit hee).mono ?_
  rintro ev w3 ⟨rfl, hb3⟩
  have K3c := box_step K3b (by omega) hb3
  have K6c := box_step K6b (by omega) hb3
  have F3c := frz_step F3b (by omega) hb3
  have F6c := frz_step F6b (by omega) hb3
  have K9c := box_step K9b hs2 hb3
  have F9c := frz_step F9b hs2 hb3
  have hat3 := hat2.below hb3
  have hbw3 := Below.step hbw2 hb3
  have hs3 : B < w3.heap.size := Nat.lt_of_lt_of_le hs2 hb3.size
  clear K3b K6b F3b F6b K9b F9b hat2 hbw2 hb3 hs2
  go_wp2_with fail
  refine (containsFuncBk _ _ _ z.l _ _ (fun x => decide (x.a < (⟨a, o, 0⟩ : Bk).fin ∧ (⟨a, o, 0⟩ : Bk).a < x.fin)) _ l1 (by omega) hat3.r1 eg (fun W hW x hx => meets_bk x ⟨a, o, 0⟩ B W (hz.2.fit x hx).1.1 (by have := (hz.2.fit x hx).1.2.2.1; omega) hfit.1 (by show a ≤ 1000; omega) (Nat.lt_of_lt_of_le hs3 hW.size) ((hW.cell (p := ⟨B, 0, none⟩) hs3).trans (K9c 0)) ((hW.cell (p := ⟨B, 1, none⟩) hs3).trans (K9c 1)) ((hW.cell (p := ⟨B, 2, none⟩) hs3).trans (K9c 2)))).mono ?_
  rw [hmeet]
  rintro ev w4 ⟨rfl, hb4⟩
  have K3d := box_step K3c (by omega) hb4
  have K6d := box_step K6c (by omega) hb4
  have F3d := frz_step F3c (by omega) hb4
  have F6d := frz_step F6c (by omega) hb4
  have K9d := box_step K9c hs3 hb4
  have F9d := frz_step F9c hs3 hb4
  have hat4 := hat3.below hb4
  have hbw4 := Below.step hbw3 hb4
  have hs4 : B < w4.heap.size := Nat.lt_of_lt_of_le hs3 hb4.size
  clear K3c K6c F3c F6c K9c F9c hat3 hbw3 hb4 hs3 eg hmeet
  go_wp2_with fail
  refine (copy_ok _ _ _ _ _ _ z.f z.e z _ hat4 (by omega) (by omega)).mono ?_
  rintro ev w5 ⟨a3, a4, c3, c4, rfl, hown, hb5⟩
  have K3e := box_step K3d (by omega) hb5
  have K6e := box_step K6d (by omega) hb5
  have F3e := frz_step F3d (by omega) hb5
  have F6e := frz_step F6d (by omega) hb5
  have K9e := box_step K9d hs4 hb5
  have F9e := frz_step F9d hs4 hb5
  have hbw5 := Below.step hbw4 hb5
  have hs5 : B < w5.heap.size := Nat.lt_of_lt_of_le hs4 hb5.size
  have nn := hown.ne (g := w.heap.size) (.inl (by omega))
  have I0 : KInv w ((((w5.setCell ⟨w.heap.size, 0, none⟩ (.int .i64 z.f)).setCell ⟨w.heap.size, 1, none⟩ (.int .i64 z.e)).setCell ⟨w.heap.size, 2, none⟩ (.slice a3 n1 c3)).setCell ⟨w.heap.size, 3, none⟩ (.slice a4 n2 c4)) B a3 a4 n1 n2 c3 c4 z a o 0 :=
    ⟨box_set (box_set (box_set (box_set K3e 0 _) 1 _) 2 _) 3 _, frz_set (frz_set (frz_set (frz_set F3e _ _) _ _) _ _) _ _, box_set_other (box_set_other (box_set_other (box_set_other K6e (by omega) _ _) (by omega) _ _) (by omega) _ _) (by omega) _ _, frz_set (frz_set (frz_set (frz_set F6e _ _) _ _) _ _) _ _, box_set_other (box_set_other (box_set_other (box_set_other K9e (by omega) _ _) (by omega) _ _) (by omega) _ _) (by omega) _ _, frz_set (frz_set (frz_set (frz_set F9e _ _) _ _) _ _) _ _, (((((hown.base (show B + 1 ≤ w4.heap.size by omega)).set nn _ _).set nn _ _).set nn _ _).set nn _ _), hB, by simpa using hs5, Below.setCell (Below.setCell (Below.setCell (Below.setCell hbw5 (by simp only; omega) _) (by simp only; omega) _) (by simp only; omega) _) (by simp only; omega) _⟩
  have HI := Hid.mk I0
  clear I0 K6e F6e K9e F9e hown hbw5 K3d K6d F3d F6d K9d F9d hat4 hbw4 hb5 nn
  go_wp2
  clear K3e F3e
  generalize (((w5.setCell ⟨w.heap.size, 0, none⟩ (.int .i64 z.f)).setCell ⟨w.heap.size, 1, none⟩ (.int .i64 z.e)).setCell ⟨w.heap.size, 2, none⟩ (.slice a3 n1 c3)).setCell ⟨w.heap.size, 3, none⟩ (.slice a4 n2 c4) = w6 at *
  go_loopw [10, 11] (fun _ _ wr => ∃ (l : List Bk) (a' o' : Nat) (b1 : Option Addr) (m1 d1 : Nat), Hid (KInv w wr B b1 a4 m1 n2 d1 c4 { z with l := l } a' o' 0) ∧ Hid (OkL z.f z.e l) ∧ Hid (fitsB z.f z.e a' o') ∧ Hid (∀ x ∈ l, apartB a' o' x) ∧ Hid (joinUp z.l a (4 - o) o = joinUp l a' (4 - o') o')) (fun _ _ wr => 4 - ((wr.cell? ⟨B, 1, none⟩).map fun v => (intOf v).toNat).getD 0)
  case atStart => exact ⟨z.l, a, o, a3, n1, c3, HI, hz.2, hfit, hd, rfl⟩
  case round =>
    obtain ⟨l, a', o', b1, m1, d1, HK, HOK, HFT, HAP, HJ⟩ := hrel
    clear HI
    have I := HK.out
    have hft := HFT.out
    have hrise := HOK.out.rise
    have hlm : l.length = m1 := I.own.l1
    have hl256 : l.length ≤ 256 := Nat.le_trans (OkL.length_le HOK.out (fun b hb => (HOK.out.fit b hb).1.2.2.1)) hee
    have hk91 := I.k9 1
    have hk90 := I.k9 0
    have hk30 := I.k3 0
    have hk31 := I.k3 1
    have hk32 := I.k3 2
    have hk33 := I.k3 3
    simp only [List.getElem?_toArray, List.getElem?_cons_zero, List.getElem?_cons_succ] at hk90 hk91 hk30 hk31 hk32 hk33
    have hBr := I.hi
    have hwB := I.lo
    have hwr : w.heap.size < wr.heap.size := by omega
    by_cases ho4 : o' < 4
    · have hp4 := bud_lt hz.1.f16 hz.1.e16 hft ho4
      have hxor := xor_bk (a := a') (o := o') (by have := hft.2.2.1; omega) hft.1 hft.2.2.2
      have hsh := shl_bk hft.1
      have hati := I.own.at
      have d4 : (o' : Int) < 4 := by omega
      have HI2 := Hid.mk I
      clear I
      go_wp2_with fail
      refine wp_region_ext_lit (by kernel_rfl) (by kernel_rfl) ?_
      repeat (first | go_big_quiet_step ((go_at_call 79; exact Calls.ext_of (find_ok _ _ _ _ _ _ z.f z.e { z with l := l } (bud a' o') _ (hati.below (ext_below wr _)) (by omega) hrise (fun b hb => by have := (HOK.out.fit b hb).1.2.2.1; omega) (by omega)))) | quiet_step ((go_at_call 79; exact Calls.ext_of (find_ok _ _ _ _ _ _ z.f z.e { z with l := l } (bud a' o') _ (hati.below (ext_below wr _)) (by omega) hrise (fun b hb => by have := (HOK.out.fit b hb).1.2.2.1; omega) (by omega)))))
      refine wpQuiet_nil ?_
      rintro _ ⟨wx, rfl⟩
      have I3 := HI2.out.below (ext_below wr wx)
      clear hk90 hk91 hk30 hk31 hk32 hk33 hati HI2
      go_wp2_with fail
      generalize ext wr wx = w7 at *
      have hBr7 := I3.hi
      have hwr7 : w.heap.size < w7.heap.size := by omega
      have k91 := I3.k9 1
      have k90 := I3.k9 0
      have k32 := I3.k3 2
      simp only [List.getElem?_toArray, List.getElem?_cons_zero, List.getElem?_cons_succ] at k90 k91 k32
      cases hbe : hasB l (bud a' o') with
      | false =>
        have hstop := Hid.mk (joinUp_none hrise ho4 hbe)
        go_quiet (fail)
        have HT := Hid.mk (I3.below (below_drewN (Below.refl w7.heap.size w7) nq))
        clear I3 k90 k91 k32
        generalize w7.drewN nq = wt at *
        -- the end of Back, in the world wt: the block (a', o') is put in
        have hj : (a' - z.f) / 8 < z.y.length := by rw [hz.1.len]; have := hft.2.1; have := hft.2.2.1; have := hz.1.f16; have := hz.1.e16; omega
        obtain ⟨tb, toff, ht1, htb, htc⟩ := row_elem encT_length (by decide) HT.out.own.at.r2 hj
        obtain rfl := ht1
        have htc0 := encT_cells htc
        rw [Nat.mul_one] at htc0
        have hjx : ((a' : Int) - z.f) / 8 = (((a' - z.f) / 8 : Nat) : Int) := by have := hft.2.1; omega
        have hjn : ((((a' - z.f) / 8 : Nat) : Int)) < n2 := by omega
        have hfa : (z.f : Int) ≤ a' := by have := hft.2.1; omega
        have ht0 := HT.out.k3 0
        have ht3 := HT.out.k3 3
        have ht9 := HT.out.k9 0
        have hty := HT.out.k9 2
        have htf := HT.out.f9 2
        simp only [List.getElem?_toArray, List.getElem?_cons_zero, List.getElem?_cons_succ] at ht0 ht3 ht9 hty
        have hgetD : z.y.getD ((a' - z.f) / 8) 0 = z.y[(a' - z.f) / 8] := by rw [List.getD_eq_getElem?_getD, List.getElem?_eq_getElem hj]; rfl
        have HBK : Hid (z.back a o = { z with l := putIn l ⟨a', o', z.y[(a' - z.f) / 8]⟩ }) := by
          unfold Hid Zn.back
          rw [HJ.out, hstop.out]
          simp only [hgetD]
        clear hgetD htc
        simp only [] at htc0
        generalize z.y[(a' - z.f) / 8] = ty at *
        generalize (a' - z.f) / 8 = J at *
        have HT2 := Hid.mk (HT.out.put9 2 (ty : Int) (a' := a') (o' := o') (t' := ty) rfl)
        have u0 := HT2.out.k3 0
        have u1 := HT2.out.k3 1
        have u2 := HT2.out.k3 2
        have u3 := HT2.out.k3 3
        have u9 := HT2.out.k9 0
        simp only [List.getElem?_toArray, List.getElem?_cons_zero, List.getElem?_cons_succ] at u0 u1 u2 u3 u9
        go_wp2_with fail
        generalize wt.setCell ⟨B, 2, none⟩ (.int .i64 (ty : Int)) = wu at *
        refine (find_ok _ _ _ _ _ _ z.f z.e { z with l := l } a' _ HT2.out.own.at (by omega) hrise (fun b hb => by have := (HOK.out.fit b hb).1.2.2.1; omega) (by have := hft.2.2.1; omega)).mono ?_
        rintro ev wv ⟨rfl, hbv⟩
        have HT3 := Hid.mk (HT2.out.below hbv)
        have v2 := HT3.out.k3 2
        have v90 := HT3.out.k9 0
        have v91 := HT3.out.k9 1
        have v92 := HT3.out.k9 2
        simp only [List.getElem?_toArray, List.getElem?_cons_zero, List.getElem?_cons_succ] at v2 v90 v91 v92
        clear HT HT2 u0 u1 u2 u3 u9 ht0 ht3 ht9 hty htf htc0 htb
        go_wp2_with fail
        have hbn := below_alloc wv (.cells #[.int .i64 (a' : Int), .int .i64 (o' : Int), .int .i64 (ty : Int)] 40)
        have HT4 := Hid.mk (HT3.out.below hbn)
        have hnew : (wv.alloc (.cells #[.int .i64 (a' : Int), .int .i64 (o' : Int), .int .i64 (ty : Int)] 40)).heap[wv.heap.size]? = some (.cells (encBk ⟨a', o', ty⟩).toArray 40 (0, 0)) := heap_alloc_new wv _
        have hnn := (HT3.out.own.ne (g := wv.heap.size) (.inr (Nat.le_refl _))).1
        clear HT3 v2 v90 v91 v92
        have hlbm : lb l a' ≤ m1 := by have := lb_le l a'; omega
        generalize wv.heap.size = G at *
        generalize wv.alloc (.cells #[.int .i64 (a' : Int), .int .i64 (o' : Int), .int .i64 (ty : Int)] 40) = wn at *
        refine (insert_bk (B + 1) _ _ _ G (lb l a') l ⟨a', o', ty⟩ _ HT4.out.own.o1 hlbm (by omega) (by have := HT4.out.hi; omega) hnew (fun e => hnn e.symm)).mono ?_
        rintro ev wi ⟨e1, f1, rfl, howni, hgi⟩
        have hplen : (putIn l ⟨a', o', ty⟩).length = m1 + 1 := by unfold putIn; rw [List.length_append, List.length_cons, List.length_take, List.length_drop]; have := lb_le l a'; omega
        have HM := Hid.mk (HT4.out.grown hgi (l' := putIn l ⟨a', o', ty⟩) hplen howni)
        have HF := Hid.mk HM.out.put3
        have m32 := HM.out.k3 2
        have f32 := HM.out.f3 2
        simp only [List.getElem?_toArray, List.getElem?_cons_zero, List.getElem?_cons_succ] at m32
        have x0 := HF.out.k3
        have x6 := HF.out.k6
        have xf6 := HF.out.f6
        have hxlo := HF.out.lo
        clear HT4 hnew hnn howni hgi
        go_wp2
        refine bodyPost_ret (v := .tuple #[.agg #[.int .i64 z.f, .int .i64 z.e, .slice e1 (m1 + 1) f1, .slice (some ⟨tb, toff, none⟩) n2 c4], .int .i64 0]) (by simp [results, Tryd.results70, go_sem, x6]) rfl ⟨e1, some ⟨tb, toff, none⟩, m1 + 1, f1, c4, rfl, ?_, ?_⟩
        · rw [HBK.out]
          have no := HF.out.own.ne (g := w.heap.size + 1) (.inl (by omega))
          exact ((((HF.out.own.set no _ _).set no _ _).set no _ _).set no _ _).base (by omega)
        · exact Below.setCell (Below.setCell (Below.setCell (Below.setCell HF.out.bw (by simp only; omega) _) (by simp only; omega) _) (by simp only; omega) _) (by simp only; omega) _

      | true =>
        obtain ⟨hkl, hka⟩ := hasB_true hrise hbe
        obtain ⟨bb, off, hb1, hbb, hc⟩ := row_elem encBk_length (by decide) I3.own.at.r1 hkl
        obtain rfl := hb1
        obtain ⟨hc0, hc1, hc2⟩ := encBk_cells hc
        have hkm : (lb l (bud a' o') : Int) < m1 := by omega
        have hstep := Hid.mk (fun h => joinUp_step ho4 hkl hka h)
        have hdiff := Hid.mk (fun h => joinUp_diff ho4 hkl h)
        have hkeep := Hid.mk (fun h => join_keeps hz.1.f16 hz.1.e16 HOK.out hft HAP.out ho4 hkl hka h)
        generalize hK : lb l (bud a' o') = K at *
        have HKK := Hid.mk hK
        clear hK hc
        simp only [] at hc0 hc1 hc2
        generalize l[K] = x at *
        have HI3 := Hid.mk I3
        clear I3
        by_cases hxo : x.o = o'
        · have d5 : ((x.o : Int) != (o' : Int)) = false := by simp [hxo]
          by_cases hlt : x.a < a'
          · have hmn : bud a' o' = min a' (bud a' o') := by omega
            have hlt2 : (x.a : Int) < (a' : Int) := by omega
            have hkp := Hid.mk (hkeep.out hxo)
            have hst := Hid.mk (hstep.out hxo)
            rw [← hmn] at hkp hst
            clear hmn
            go_quiet (fail)
            have HI4 := Hid.mk ((HI3.out.below (below_drewN (Below.refl w7.heap.size w7) nq)).below ((Below.refl (w7.drewN nq).heap.size (w7.drewN nq)).drew))
            have q1 := ((below_drewN (Below.refl w7.heap.size w7) nq).cell (p := ⟨bb, off + K * 3, none⟩) hbb).trans hc0
            have q90 : (w7.drewN nq).cell? ⟨B, 0, none⟩ = some (.int .i64 (a' : Int)) := ((below_drewN (Below.refl w7.heap.size w7) nq).cell (p := ⟨B, 0, none⟩) hBr7).trans k90
            have q32 := ((below_drewN (Below.refl w7.heap.size w7) nq).cell (p := ⟨w.heap.size, 2, none⟩) hwr7).trans k32
            clear HI3 k90 k91 k32 hc0 hc1 hc2 hstep hdiff hkeep
            go_wp2_with fail
            generalize w7.drewN nq = w8 at *
            go_still_tail 10, (by kernel_rfl)
            change wpList _ _ _ _ _ w8.drew
            generalize w8.drew = w9 at *
            have g90 := HI4.out.f9 0
            have g91 := HI4.out.f9 1
            have r90 := HI4.out.k9 0
            have r91' := HI4.out.k9 1
            have HI5 := Hid.mk (HI4.out.put9 0 ((bud a' o') : Int) (a' := (bud a' o')) (o' := o') (t' := 0) rfl)
            have r91 := HI5.out.k9 1
            have HI6 := Hid.mk (HI5.out.put9 1 ((o' : Int) + 1) (a' := (bud a' o')) (o' := o' + 1) (t' := 0) (by simp))
            have s32 := HI6.out.k3 2
            have t91 := HI5.out.f9 1
            simp only [List.getElem?_toArray, List.getElem?_cons_zero, List.getElem?_cons_succ] at r90 r91 r91' s32
            have hKm : K < m1 := by omega
            go_wp2_with fail
            generalize (w9.setCell ⟨B, 0, none⟩ (.int .i64 ((bud a' o') : Int))).setCell ⟨B, 1, none⟩ (.int .i64 ((o' : Int) + 1)) = wp at *
            refine (delete_bk (B + 1) _ _ _ l K _ HI6.out.own.o1 hKm (by omega) (by have := HI6.out.hi; omega)).mono ?_
            rintro ev wd ⟨rfl, hownd, hgd⟩
            have HM := Hid.mk (HI6.out.grown hgd (l' := l.eraseIdx K) (by rw [List.length_eraseIdx_of_lt hkl, hlm]) hownd)
            have HF := Hid.mk HM.out.put3
            have m32 := HM.out.k3 2
            have f32 := HM.out.f3 2
            simp only [List.getElem?_toArray, List.getElem?_cons_zero, List.getElem?_cons_succ] at m32
            clear hownd hgd HI4 HI5 HI6 g90 g91 r90 r91 r91' s32 t91 q1 q90 q32
            go_wp2
            go_roundw
            case rel => exact ⟨l.eraseIdx K, (bud a' o'), o' + 1, _, m1 - 1, _, HF.out, hkp.out.1, hkp.out.2.1, hkp.out.2.2, HJ.out.trans hst.out⟩
            case measure =>
              rw [show wr.cell? ⟨B, 1, none⟩ = some (.int .i64 (o' : Int)) from HK.out.k9 1, show (wd.setCell _ _).cell? ⟨B, 1, none⟩ = some (.int .i64 ((o' + 1 : Nat) : Int)) from HF.out.k9 1]
              simp [intOf]; omega

          · have hmn : a' = min a' (bud a' o') := by omega
            have hlt2 : ¬ (x.a : Int) < (a' : Int) := by omega
            have hkp := Hid.mk (hkeep.out hxo)
            have hst := Hid.mk (hstep.out hxo)
            rw [← hmn] at hkp hst
            clear hmn
            go_quiet (fail)
            have HI4 := Hid.mk ((HI3.out.below (below_drewN (Below.refl w7.heap.size w7) nq)).below ((Below.refl (w7.drewN nq).heap.size (w7.drewN nq)).drew))
            have q1 := ((below_drewN (Below.refl w7.heap.size w7) nq).cell (p := ⟨bb, off + K * 3, none⟩) hbb).trans hc0
            have q90 : (w7.drewN nq).cell? ⟨B, 0, none⟩ = some (.int .i64 (a' : Int)) := ((below_drewN (Below.refl w7.heap.size w7) nq).cell (p := ⟨B, 0, none⟩) hBr7).trans k90
            have q32 := ((below_drewN (Below.refl w7.heap.size w7) nq).cell (p := ⟨w.heap.size, 2, none⟩) hwr7).trans k32
            clear HI3 k90 k91 k32 hc0 hc1 hc2 hstep hdiff hkeep
            go_wp2_with fail
            generalize w7.drewN nq = w8 at *
            go_still_tail 10, (by kernel_rfl)
            change wpList _ _ _ _ _ w8.drew
            generalize w8.drew = w9 at *
            have g90 := HI4.out.f9 0
            have g91 := HI4.out.f9 1
            have r90 := HI4.out.k9 0
            have r91' := HI4.out.k9 1
            have HI5 := Hid.mk (HI4.out.put9 0 (a' : Int) (a' := a') (o' := o') (t' := 0) rfl)
            have r91 := HI5.out.k9 1
            have HI6 := Hid.mk (HI5.out.put9 1 ((o' : Int) + 1) (a' := a') (o' := o' + 1) (t' := 0) (by simp))
            have s32 := HI6.out.k3 2
            have t91 := HI5.out.f9 1
            simp only [List.getElem?_toArray, List.getElem?_cons_zero, List.getElem?_cons_succ] at r90 r91 r91' s32
            have hKm : K < m1 := by omega
            go_wp2_with fail
            generalize (w9.setCell ⟨B, 0, none⟩ (.int .i64 (a' : Int))).setCell ⟨B, 1, none⟩ (.int .i64 ((o' : Int) + 1)) = wp at *
            refine (delete_bk (B + 1) _ _ _ l K _ HI6.out.own.o1 hKm (by omega) (by have := HI6.out.hi; omega)).mono ?_
            rintro ev wd ⟨rfl, hownd, hgd⟩
            have HM := Hid.mk (HI6.out.grown hgd (l' := l.eraseIdx K) (by rw [List.length_eraseIdx_of_lt hkl, hlm]) hownd)
            have HF := Hid.mk HM.out.put3
            have m32 := HM.out.k3 2
            have f32 := HM.out.f3 2
            simp only [List.getElem?_toArray, List.getElem?_cons_zero, List.getElem?_cons_succ] at m32
            clear hownd hgd HI4 HI5 HI6 g90 g91 r90 r91 r91' s32 t91 q1 q90 q32
            go_wp2
            go_roundw
            case rel => exact ⟨l.eraseIdx K, a', o' + 1, _, m1 - 1, _, HF.out, hkp.out.1, hkp.out.2.1, hkp.out.2.2, HJ.out.trans hst.out⟩
            case measure =>
              rw [show wr.cell? ⟨B, 1, none⟩ = some (.int .i64 (o' : Int)) from HK.out.k9 1, show (wd.setCell _ _).cell? ⟨B, 1, none⟩ = some (.int .i64 ((o' + 1 : Nat) : Int)) from HF.out.k9 1]
              simp [intOf]; omega

        · have d5 : ((x.o : Int) != (o' : Int)) = true := by rw [bne_iff_ne]; omega
          have hstop := Hid.mk (hdiff.out hxo)
          go_quiet (fail)
          have HT := Hid.mk (HI3.out.below (below_drewN (Below.refl w7.heap.size w7) nq))
          clear HI3 k90 k91 k32 hc0 hc1 hc2 hstep hdiff hkeep
          generalize w7.drewN nq = wt at *
          -- the end of Back, in the world wt: the block (a', o') is put in
          have hj : (a' - z.f) / 8 < z.y.length := by rw [hz.1.len]; have := hft.2.1; have := hft.2.2.1; have := hz.1.f16; have := hz.1.e16; omega
          obtain ⟨tb, toff, ht1, htb, htc⟩ := row_elem encT_length (by decide) HT.out.own.at.r2 hj
          obtain rfl := ht1
          have htc0 := encT_cells htc
          rw [Nat.mul_one] at htc0
          have hjx : ((a' : Int) - z.f) / 8 = (((a' - z.f) / 8 : Nat) : Int) := by have := hft.2.1; omega
          have hjn : ((((a' - z.f) / 8 : Nat) : Int)) < n2 := by omega
          have hfa : (z.f : Int) ≤ a' := by have := hft.2.1; omega
          have ht0 := HT.out.k3 0
          have ht3 := HT.out.k3 3
          have ht9 := HT.out.k9 0
          have hty := HT.out.k9 2
          have htf := HT.out.f9 2
          simp only [List.getElem?_toArray, List.getElem?_cons_zero, List.getElem?_cons_succ] at ht0 ht3 ht9 hty
          have hgetD : z.y.getD ((a' - z.f) / 8) 0 = z.y[(a' - z.f) / 8] := by rw [List.getD_eq_getElem?_getD, List.getElem?_eq_getElem hj]; rfl
          have HBK : Hid (z.back a o = { z with l := putIn l ⟨a', o', z.y[(a' - z.f) / 8]⟩ }) := by
            unfold Hid Zn.back
            rw [HJ.out, hstop.out]
            simp only [hgetD]
          clear hgetD htc
          simp only [] at htc0
          generalize z.y[(a' - z.f) / 8] = ty at *
          generalize (a' - z.f) / 8 = J at *
          have HT2 := Hid.mk (HT.out.put9 2 (ty : Int) (a' := a') (o' := o') (t' := ty) rfl)
          have u0 := HT2.out.k3 0
          have u1 := HT2.out.k3 1
          have u2 := HT2.out.k3 2
          have u3 := HT2.out.k3 3
          have u9 := HT2.out.k9 0
          simp only [List.getElem?_toArray, List.getElem?_cons_zero, List.getElem?_cons_succ] at u0 u1 u2 u3 u9
          go_wp2_with fail
          generalize wt.setCell ⟨B, 2, none⟩ (.int .i64 (ty : Int)) = wu at *
          refine (find_ok _ _ _ _ _ _ z.f z.e { z with l := l } a' _ HT2.out.own.at (by omega) hrise (fun b hb => by have := (HOK.out.fit b hb).1.2.2.1; omega) (by have := hft.2.2.1; omega)).mono ?_
          rintro ev wv ⟨rfl, hbv⟩
          have HT3 := Hid.mk (HT2.out.below hbv)
          have v2 := HT3.out.k3 2
          have v90 := HT3.out.k9 0
          have v91 := HT3.out.k9 1
          have v92 := HT3.out.k9 2
          simp only [List.getElem?_toArray, List.getElem?_cons_zero, List.getElem?_cons_succ] at v2 v90 v91 v92
          clear HT HT2 u0 u1 u2 u3 u9 ht0 ht3 ht9 hty htf htc0 htb
          go_wp2_with fail
          have hbn := below_alloc wv (.cells #[.int .i64 (a' : Int), .int .i64 (o' : Int), .int .i64 (ty : Int)] 40)
          have HT4 := Hid.mk (HT3.out.below hbn)
          have hnew : (wv.alloc (.cells #[.int .i64 (a' : Int), .int .i64 (o' : Int), .int .i64 (ty : Int)] 40)).heap[wv.heap.size]? = some (.cells (encBk ⟨a', o', ty⟩).toArray 40 (0, 0)) := heap_alloc_new wv _
          have hnn := (HT3.out.own.ne (g := wv.heap.size) (.inr (Nat.le_refl _))).1
          clear HT3 v2 v90 v91 v92
          have hlbm : lb l a' ≤ m1 := by have := lb_le l a'; omega
          generalize wv.heap.size = G at *
          generalize wv.alloc (.cells #[.int .i64 (a' : Int), .int .i64 (o' : Int), .int .i64 (ty : Int)] 40) = wn at *
          refine (insert_bk (B + 1) _ _ _ G (lb l a') l ⟨a', o', ty⟩ _ HT4.out.own.o1 hlbm (by omega) (by have := HT4.out.hi; omega) hnew (fun e => hnn e.symm)).mono ?_
          rintro ev wi ⟨e1, f1, rfl, howni, hgi⟩
          have hplen : (putIn l ⟨a', o', ty⟩).length = m1 + 1 := by unfold putIn; rw [List.length_append, List.length_cons, List.length_take, List.length_drop]; have := lb_le l a'; omega
          have HM := Hid.mk (HT4.out.grown hgi (l' := putIn l ⟨a', o', ty⟩) hplen howni)
          have HF := Hid.mk HM.out.put3
          have m32 := HM.out.k3 2
          have f32 := HM.out.f3 2
          simp only [List.getElem?_toArray, List.getElem?_cons_zero, List.getElem?_cons_succ] at m32
          have x0 := HF.out.k3
          have x6 := HF.out.k6
          have xf6 := HF.out.f6
          have hxlo := HF.out.lo
          clear HT4 hnew hnn howni hgi
          go_wp2
          refine bodyPost_ret (v := .tuple #[.agg #[.int .i64 z.f, .int .i64 z.e, .slice e1 (m1 + 1) f1, .slice (some ⟨tb, toff, none⟩) n2 c4], .int .i64 0]) (by simp [results, Tryd.results70, go_sem, x6]) rfl ⟨e1, some ⟨tb, toff, none⟩, m1 + 1, f1, c4, rfl, ?_, ?_⟩
          · rw [HBK.out]
            have no := HF.out.own.ne (g := w.heap.size + 1) (.inl (by omega))
            exact ((((HF.out.own.set no _ _).set no _ _).set no _ _).set no _ _).base (by omega)
          · exact Below.setCell (Below.setCell (Below.setCell (Below.setCell HF.out.bw (by simp only; omega) _) (by simp only; omega) _) (by simp only; omega) _) (by simp only; omega) _

    · have d4 : ¬ (o' : Int) < 4 := by omega
      have hstop : Hid (joinUp l a' (4 - o') o' = (l, a', o')) := by unfold Hid; rw [show 4 - o' = 0 by omega]; rfl
      have HT := Hid.mk I
      clear I hk90 hk30 hk31 hk32 hk33
      -- the end of Back, in the world wr: the block (a', o') is put in
      have hj : (a' - z.f) / 8 < z.y.length := by rw [hz.1.len]; have := hft.2.1; have := hft.2.2.1; have := hz.1.f16; have := hz.1.e16; omega
      obtain ⟨tb, toff, ht1, htb, htc⟩ := row_elem encT_length (by decide) HT.out.own.at.r2 hj
      obtain rfl := ht1
      have htc0 := encT_cells htc
      rw [Nat.mul_one] at htc0
      have hjx : ((a' : Int) - z.f) / 8 = (((a' - z.f) / 8 : Nat) : Int) := by have := hft.2.1; omega
      have hjn : ((((a' - z.f) / 8 : Nat) : Int)) < n2 := by omega
      have hfa : (z.f : Int) ≤ a' := by have := hft.2.1; omega
      have ht0 := HT.out.k3 0
      have ht3 := HT.out.k3 3
      have ht9 := HT.out.k9 0
      have hty := HT.out.k9 2
      have htf := HT.out.f9 2
      simp only [List.getElem?_toArray, List.getElem?_cons_zero, List.getElem?_cons_succ] at ht0 ht3 ht9 hty
      have hgetD : z.y.getD ((a' - z.f) / 8) 0 = z.y[(a' - z.f) / 8] := by rw [List.getD_eq_getElem?_getD, List.getElem?_eq_getElem hj]; rfl
      have HBK : Hid (z.back a o = { z with l := putIn l ⟨a', o', z.y[(a' - z.f) / 8]⟩ }) := by
        unfold Hid Zn.back
        rw [HJ.out, hstop.out]
        simp only [hgetD]
      clear hgetD htc
      simp only [] at htc0
      generalize z.y[(a' - z.f) / 8] = ty at *
      generalize (a' - z.f) / 8 = J at *
      have HT2 := Hid.mk (HT.out.put9 2 (ty : Int) (a' := a') (o' := o') (t' := ty) rfl)
      have u0 := HT2.out.k3 0
      have u1 := HT2.out.k3 1
      have u2 := HT2.out.k3 2
      have u3 := HT2.out.k3 3
      have u9 := HT2.out.k9 0
      simp only [List.getElem?_toArray, List.getElem?_cons_zero, List.getElem?_cons_succ] at u0 u1 u2 u3 u9
      go_wp2_with fail
      generalize wr.setCell ⟨B, 2, none⟩ (.int .i64 (ty : Int)) = wu at *
      refine (find_ok _ _ _ _ _ _ z.f z.e { z with l := l } a' _ HT2.out.own.at (by omega) hrise (fun b hb => by have := (HOK.out.fit b hb).1.2.2.1; omega) (by have := hft.2.2.1; omega)).mono ?_
      rintro ev wv ⟨rfl, hbv⟩
      have HT3 := Hid.mk (HT2.out.below hbv)
      have v2 := HT3.out.k3 2
      have v90 := HT3.out.k9 0
      have v91 := HT3.out.k9 1
      have v92 := HT3.out.k9 2
      simp only [List.getElem?_toArray, List.getElem?_cons_zero, List.getElem?_cons_succ] at v2 v90 v91 v92
      clear HT HT2 u0 u1 u2 u3 u9 ht0 ht3 ht9 hty htf htc0 htb
      go_wp2_with fail
      have hbn := below_alloc wv (.cells #[.int .i64 (a' : Int), .int .i64 (o' : Int), .int .i64 (ty : Int)] 40)
      have HT4 := Hid.mk (HT3.out.below hbn)
      have hnew : (wv.alloc (.cells #[.int .i64 (a' : Int), .int .i64 (o' : Int), .int .i64 (ty : Int)] 40)).heap[wv.heap.size]? = some (.cells (encBk ⟨a', o', ty⟩).toArray 40 (0, 0)) := heap_alloc_new wv _
      have hnn := (HT3.out.own.ne (g := wv.heap.size) (.inr (Nat.le_refl _))).1
      clear HT3 v2 v90 v91 v92
      have hlbm : lb l a' ≤ m1 := by have := lb_le l a'; omega
      generalize wv.heap.size = G at *
      generalize wv.alloc (.cells #[.int .i64 (a' : Int), .int .i64 (o' : Int), .int .i64 (ty : Int)] 40) = wn at *
      refine (insert_bk (B + 1) _ _ _ G (lb l a') l ⟨a', o', ty⟩ _ HT4.out.own.o1 hlbm (by omega) (by have := HT4.out.hi; omega) hnew (fun e => hnn e.symm)).mono ?_
      rintro ev wi ⟨e1, f1, rfl, howni, hgi⟩
      have hplen : (putIn l ⟨a', o', ty⟩).length = m1 + 1 := by unfold putIn; rw [List.length_append, List.length_cons, List.length_take, List.length_drop]; have := lb_le l a'; omega
      have HM := Hid.mk (HT4.out.grown hgi (l' := putIn l ⟨a', o', ty⟩) hplen howni)
      have HF := Hid.mk HM.out.put3
      have m32 := HM.out.k3 2
      have f32 := HM.out.f3 2
      simp only [List.getElem?_toArray, List.getElem?_cons_zero, List.getElem?_cons_succ] at m32
      have x0 := HF.out.k3
      have x6 := HF.out.k6
      have xf6 := HF.out.f6
      have hxlo := HF.out.lo
      clear HT4 hnew hnn howni hgi
      go_wp2
      refine bodyPost_ret (v := .tuple #[.agg #[.int .i64 z.f, .int .i64 z.e, .slice e1 (m1 + 1) f1, .slice (some ⟨tb, toff, none⟩) n2 c4], .int .i64 0]) (by simp [results, Tryd.results70, go_sem, x6]) rfl ⟨e1, some ⟨tb, toff, none⟩, m1 + 1, f1, c4, rfl, ?_, ?_⟩
      · rw [HBK.out]
        have no := HF.out.own.ne (g := w.heap.size + 1) (.inl (by omega))
        exact ((((HF.out.own.set no _ _).set no _ _).set no _ _).set no _ _).base (by omega)
      · exact Below.setCell (Below.setCell (Below.setCell (Below.setCell HF.out.bw (by simp only; omega) _) (by simp only; omega) _) (by simp only; omega) _) (by simp only; omega) _

end Go.Proofs.YtjljcifpcljlaaaDoor
/- Contract of package buddy: Give. -/
namespace Go.Proofs.YtjljcifpcljlaaaDoor
open Go.RowKit
set_option linter.unusedVariables false

/-- the state of buddy.Give -/
structure GInv (w W : World) (a1 a2 : Option Addr) (n1 n2 c1 c2 : Nat) (z : Zn) : Prop where
  k3 : ∀ i, W.cell? ⟨w.heap.size, i, none⟩ = (#[.int .i64 z.f, .int .i64 z.e, .slice a1 n1 c1, .slice a2 n2 c2] : Array Value)[i]?
  f3 : ∀ i, W.frozen? ⟨w.heap.size, i, none⟩ = false
  k6 : ∀ i, W.cell? ⟨w.heap.size + 1, i, none⟩ = (#[.int .i64 0, .int .i64 0, .slice none 0 0, .slice none 0 0] : Array Value)[i]?
  f6 : ∀ i, W.frozen? ⟨w.heap.size + 1, i, none⟩ = false
  own : ZOwn W (w.heap.size + 2) a1 a2 n1 n2 c1 c2 z
  hi : w.heap.size + 2 ≤ W.heap.size
  bw : Below w.heap.size w W
theorem GInv.below {w W W' : World} {a1 a2 : Option Addr} {n1 n2 c1 c2 : Nat} {z : Zn} (h : GInv w W a1 a2 n1 n2 c1 c2 z) (hb : Below W.heap.size W W') : GInv w W' a1 a2 n1 n2 c1 c2 z := by
  have h2 := h.hi
  exact ⟨box_step h.k3 (by omega) hb, frz_step h.f3 (by omega) hb, box_step h.k6 (by omega) hb, frz_step h.f6 (by omega) hb, h.own.below hb, Nat.le_trans h2 hb.size, Below.step h.bw hb⟩
/-- another zone is stored into the box -/
theorem GInv.put {w W : World} {a1 a2 : Option Addr} {n1 n2 c1 c2 : Nat} {z : Zn} (h : GInv w W a1 a2 n1 n2 c1 c2 z) {b1 b2 : Option Addr} {m1 m2 d1 d2 : Nat} {y : Zn} (ho : ZOwn W (w.heap.size + 2) b1 b2 m1 m2 d1 d2 y) :
    GInv w ((((W.setCell ⟨w.heap.size, 0, none⟩ (.int .i64 y.f)).setCell ⟨w.heap.size, 1, none⟩ (.int .i64 y.e)).setCell ⟨w.heap.size, 2, none⟩ (.slice b1 m1 d1)).setCell ⟨w.heap.size, 3, none⟩ (.slice b2 m2 d2)) b1 b2 m1 m2 d1 d2 y := by
  have h2 := h.hi
  have nn := ho.ne (g := w.heap.size) (.inl (by omega))
  exact ⟨box_set (box_set (box_set (box_set h.k3 0 _) 1 _) 2 _) 3 _, frz_set (frz_set (frz_set (frz_set h.f3 _ _) _ _) _ _) _ _, box_set_other (box_set_other (box_set_other (box_set_other h.k6 (by omega) _ _) (by omega) _ _) (by omega) _ _) (by omega) _ _, frz_set (frz_set (frz_set (frz_set h.f6 _ _) _ _) _ _) _ _, ((((ho.set nn _ _).set nn _ _).set nn _ _).set nn _ _), by simpa using h2, Below.setCell (Below.setCell (Below.setCell (Below.setCell h.bw (by simp only; omega) _) (by simp only; omega) _) (by simp only; omega) _) (by simp only; omega) _⟩

set_option maxHeartbeats 4000000 in
set_option maxRecDepth 100000 in
theorem give_ok (a1 a2 : Option Addr) (n1 n2 c1 c2 : Nat) (z : Zn) (p n : Nat) (w : World) (hat : ZAt w a1 a2 n1 n2 z) (hz : z.ok) (hl : z.l = []) (hp : z.f ≤ p) (hn : p + n ≤ z.e) :
    Calls Tryd.prog 56 #[.agg #[.int .i64 z.f, .int .i64 z.e, .slice a1 n1 c1, .slice a2 n2 c2], .int .i64 p, .int .i64 n] w fun ev w' => ∃ a1' a2' n1' c1' c2', ev = .returned (.tuple #[.agg #[.int .i64 z.f, .int .i64 z.e, .slice a1' n1' c1', .slice a2' n2 c2'], .int .i64 0]) ∧ ZOwn w' w.heap.size a1' a2' n1' n2 c1' c2' (giveTo z p n) ∧ Below w.heap.size w w' := by
  have hee := hz.1.e2
  have l1 := hat.l1
  have l2 := hat.l2
  have hl0 : z.l.length = 0 := by rw [hl]; rfl
  have hy32 : z.y.length ≤ 32 := by rw [hz.1.len]; omega
  obtain ⟨K3, K6, F3, F6, hsz, hbw⟩ := boxes2 w #[.int .i64 (z.f : Int), .int .i64 (z.e : Int), .slice a1 n1 c1, .slice a2 n2 c2] 55 #[.int .i64 0, .int .i64 0, .slice none 0 0, .slice none 0 0] 55
  have hat0 := hat.below hbw
  have d1 : decide (p < z.f) = false := decide_eq_false (by omega)
  have d2 : decide ((z.e : Int) < p) = false := decide_eq_false (by omega)
  have d3 : decide ((z.e : Int) - p < n) = false := decide_eq_false (by omega)
  have d4 : decide (z.e < p) = false := decide_eq_false (by omega)
  have d5 : (p : Int) ≤ z.e := by omega
  clear hat
  go_enter Tryd.func56, Tryd.ntmps56
  go_wp2_with fail
  generalize (w.alloc (.cells #[.int .i64 (z.f : Int), .int .i64 (z.e : Int), .slice a1 n1 c1, .slice a2 n2 c2] 55)).alloc (.cells #[.int .i64 0, .int .i64 0, .slice none 0 0, .slice none 0 0] 55) = w0 at *
  refine (check_ok _ _ _ _ _ _ z _ hat0 hz).mono ?_
  rintro ev w1 ⟨rfl, hb1⟩
  have K3b := box_step K3 (by omega) hb1
  have K6b := box_step K6 (by omega) hb1
  have F3b := frz_step F3 (by omega) hb1
  have F6b := frz_step F6 (by omega) hb1
  have hat1 := hat0.below hb1
  have hbw1 := Below.step hbw hb1
  have hB : w.heap.size + 2 ≤ w1.heap.size := by have := hb1.size; omega
  clear K3 K6 F3 F6 hb1 hat0 hbw hsz
  go_wp2_with fail
  refine (copy_ok _ _ _ _ _ _ z.f z.e z _ hat1 (by omega) (by omega)).mono ?_
  rintro ev w5 ⟨a3, a4, c3, c4, rfl, hown, hb5⟩
  have K3e := box_step K3b (by omega) hb5
  have K6e := box_step K6b (by omega) hb5
  have F3e := frz_step F3b (by omega) hb5
  have F6e := frz_step F6b (by omega) hb5
  have hbw5 := Below.step hbw1 hb5
  have hnn := (hown.ne (g := w.heap.size) (.inl (by omega)))
  have I1 : GInv w ((((w5.setCell ⟨w.heap.size, 0, none⟩ (.int .i64 z.f)).setCell ⟨w.heap.size, 1, none⟩ (.int .i64 z.e)).setCell ⟨w.heap.size, 2, none⟩ (.slice a3 n1 c3)).setCell ⟨w.heap.size, 3, none⟩ (.slice a4 n2 c4)) a3 a4 n1 n2 c3 c4 z := by
    have h5 := hb5.size
    exact ⟨box_set (box_set (box_set (box_set K3e 0 _) 1 _) 2 _) 3 _, frz_set (frz_set (frz_set (frz_set F3e _ _) _ _) _ _) _ _, box_set_other (box_set_other (box_set_other (box_set_other K6e (by omega) _ _) (by omega) _ _) (by omega) _ _) (by omega) _ _, frz_set (frz_set (frz_set (frz_set F6e _ _) _ _) _ _) _ _, (((((hown.base hB).set hnn _ _).set hnn _ _).set hnn _ _).set hnn _ _), by simp only [World.size_setCell]; omega, Below.setCell (Below.setCell (Below.setCell (Below.setCell hbw5 (by simp only; omega) _) (by simp only; omega) _) (by simp only; omega) _) (by simp only; omega) _⟩
  have HI := Hid.mk I1
  clear I1 K6e F6e hown hbw5 K3b K6b F3b F6b hat1 hbw1 hb5 hnn d1 d2 d3 d4 d5
  go_wp2
  clear K3e F3e
  generalize (((w5.setCell ⟨w.heap.size, 0, none⟩ (.int .i64 z.f)).setCell ⟨w.heap.size, 1, none⟩ (.int .i64 z.e)).setCell ⟨w.heap.size, 2, none⟩ (.slice a3 n1 c3)).setCell ⟨w.heap.size, 3, none⟩ (.slice a4 n2 c4) = w6 at *
  go_loopw [9] (fun s9 wr => ∃ (i : Nat) (b1 b2 : Option Addr) (m1 e1 e2 : Nat), i ≤ n ∧ s9 = .int .i64 ((p + i : Nat) : Int) ∧ Hid (GInv w wr b1 b2 m1 n2 e1 e2 (giveTo z p i))) (fun s9 _ => p + n - (intOf s9).toNat)
  case atStart => exact ⟨0, a3, a4, n1, c3, c4, Nat.zero_le _, by simp, HI⟩
  case round =>
    obtain ⟨i, b1, b2, m1, e1, e2, hin, rfl, HK⟩ := hrel
    clear HI
    by_cases hlt : i < n
    · obtain ⟨g1, g2, g3, g4⟩ := giveTo_ok (p := p) hz hl hp i (by omega)
      obtain ⟨s1, s2⟩ := giveTo_step (p := p) hz hl hp (n := i) (by omega)
      have I := HK.out
      have hHi := I.hi
      have k0 := I.k3 0
      have k1 := I.k3 1
      have k2 := I.k3 2
      have k3 := I.k3 3
      simp only [List.getElem?_toArray, List.getElem?_cons_zero, List.getElem?_cons_succ] at k0 k1 k2 k3
      have hwr : w.heap.size < wr.heap.size := by omega
      have dl : decide ((p : Int) + i < p + n) = true := decide_eq_true (by omega)
      have dl2 : decide (p + i < p + n) = true := decide_eq_true (by omega)
      have HGE : Hid (giveTo z p (i + 1) = (giveTo z p i).back (p + i) 0) := rfl
      have HS1 := Hid.mk s1
      have HS2 := Hid.mk s2
      have HG1 := Hid.mk g1
      have HG2 := Hid.mk g2
      have HG3 := Hid.mk g3
      clear g4 s1 s2 g1 g2 g3
      generalize giveTo z p i = y at *
      have HK2 := Hid.mk I
      clear I HK
      go_wp2_with fail
      refine (back_ok _ _ _ _ _ _ y (p + i) 0 _ HK2.out.own.at HG1.out HS1.out HS2.out).mono ?_
      rintro ev w7 ⟨b3, b4, m3, e3, e4, rfl, hown, hb7⟩
      have hHi7 := hb7.size
      have HK4 := Hid.mk (HK2.out.below hb7)
      have hown8 : ZOwn w7 (w.heap.size + 2) b3 b4 m3 n2 e3 e4 (y.back (p + i) 0) := hown.base hHi
      have HK5 : Hid (GInv w ((((w7.setCell ⟨w.heap.size, 0, none⟩ (.int .i64 y.f)).setCell ⟨w.heap.size, 1, none⟩ (.int .i64 y.e)).setCell ⟨w.heap.size, 2, none⟩ (.slice b3 m3 e3)).setCell ⟨w.heap.size, 3, none⟩ (.slice b4 n2 e4)) b3 b4 m3 n2 e3 e4 (y.back (p + i) 0)) := HK4.out.put hown8
      have HK6 := Hid.mk (HK5.out.below (below_alloc _ (.cells #[.int .i64 (y.f : Int), .int .i64 (y.e : Int), .slice b3 m3 e3, .slice b4 n2 e4] 55)))
      have ff3 := HK4.out.f3
      have k30 := HK4.out.k3 0
      have k31 := HK4.out.k3 1
      have k32 := HK4.out.k3 2
      have k33 := HK4.out.k3 3
      simp only [List.getElem?_toArray, List.getElem?_cons_zero, List.getElem?_cons_succ] at k30 k31 k32 k33
      have hwr7 : w.heap.size < w7.heap.size := by omega
      clear hown hown8 k0 k1 k2 k3 HK2 HK4 HK5 hb7
      go_wp2
      go_roundw
      case rel => exact ⟨i + 1, b3, b4, m3, e3, e4, by omega, by go_num, by rw [HGE.out]; exact HK6⟩
      case measure => simp [intOf]; omega
    · obtain rfl : i = n := by omega
      have HG := giveTo_ok (p := p) hz hl hp i (by omega)
      have I := HK.out
      have hHi := I.hi
      have k0 := I.k3 0
      have k1 := I.k3 1
      have k2 := I.k3 2
      have k3 := I.k3 3
      rw [HG.2.1, HG.2.2.1] at *
      simp only [List.getElem?_toArray, List.getElem?_cons_zero, List.getElem?_cons_succ] at k0 k1 k2 k3
      have x6 := I.k6
      have xf6 := I.f6
      have hwr : w.heap.size < wr.heap.size := by omega
      have HK2 := Hid.mk I
      clear I HK
      go_wp2
      refine bodyPost_ret (v := .tuple #[.agg #[.int .i64 z.f, .int .i64 z.e, .slice b1 m1 e1, .slice b2 n2 e2], .int .i64 0]) (by simp [results, Tryd.results56, go_sem, x6]) rfl ⟨b1, b2, m1, e1, e2, rfl, ?_, ?_⟩
      · have no := HK2.out.own.ne (g := w.heap.size + 1) (.inl (by omega))
        exact ((((HK2.out.own.set no _ _).set no _ _).set no _ _).set no _ _).base (base' := w.heap.size) (by omega)
      · have hbb := HK2.out.bw
        exact Below.setCell (Below.setCell (Below.setCell (Below.setCell hbb (by simp only; omega) _) (by simp only; omega) _) (by simp only; omega) _) (by simp only; omega) _
end Go.Proofs.YtjljcifpcljlaaaDoor
/- Contract of package buddy: steal. -/
namespace Go.Proofs.YtjljcifpcljlaaaDoor
open Go.RowKit
set_option linter.unusedVariables false

theorem flatB_set_t (t : Nat) : ∀ (l : List Bk) (k : Nat) (hk : k < l.length), (flat encBk l).set (k * 3 + 2) (vI t) = flat encBk (l.set k { l[k] with t := t })
  | x :: l, 0, _ => by rw [flat_cons, List.set_cons_zero, flat_cons]; rfl
  | x :: l, k + 1, hk => by
    have hk' : k < l.length := by simpa using hk
    rw [flat_cons, List.set_cons_succ, flat_cons, List.set_append_right _ _ (by rw [encBk_length]; omega), encBk_length, show (k + 1) * 3 + 2 - 3 = k * 3 + 2 by omega, flatB_set_t t l k hk']
    rfl

theorem ZOwn.putY {W : World} {bs : Nat} {a1 a2 : Option Addr} {n1 n2 c1 c2 : Nat} {z : Zn} (h : ZOwn W bs a1 a2 n1 n2 c1 c2 z) {j g : Nat} (hj : j < n2) (hg : a2 = some ⟨g, 0, none⟩) (t : Nat) : ZOwn (W.setCell ⟨g, j, none⟩ (.int .i64 (t : Int))) bs a1 a2 n1 n2 c1 c2 { z with y := z.y.set j t } := by
  subst hg
  have h1 := (World.ownsRow.stored h.o2 j (vI t)).1
  rw [flatT_set] at h1
  exact ⟨h.l1, by simp only [List.length_set]; exact h.l2, own_set h.o1 (fun e => own_diff h.o1 h.o2 (by decide) g e rfl) _, h1⟩
theorem ZOwn.putT {W : World} {bs : Nat} {a1 a2 : Option Addr} {n1 n2 c1 c2 : Nat} {z : Zn} (h : ZOwn W bs a1 a2 n1 n2 c1 c2 z) {k g : Nat} (hk : k < z.l.length) (hg : a1 = some ⟨g, 0, none⟩) (t : Nat) : ZOwn (W.setCell ⟨g, k * 3 + 2, none⟩ (.int .i64 (t : Int))) bs a1 a2 n1 n2 c1 c2 { z with l := z.l.set k { z.l[k] with t := t } } := by
  subst hg
  have h1 := (World.ownsRow.stored h.o1 (k * 3 + 2) (vI t)).1
  rw [flatB_set_t t z.l k hk] at h1
  exact ⟨by simp only [List.length_set]; exact h.l1, h.l2, h1, own_set h.o2 (fun e => own_diff h.o1 h.o2 (by decide) g rfl e) _⟩

/-- the state of buddy.steal -/
structure SInv (w W : World) (bs : Nat) (a1 a2 : Option Addr) (n1 n2 c1 c2 f e : Nat) (b : Bk) (z : Zn) : Prop where
  k3 : ∀ i, W.cell? ⟨w.heap.size, i, none⟩ = (#[.int .i64 f, .int .i64 e, .slice a1 n1 c1, .slice a2 n2 c2] : Array Value)[i]?
  k6 : ∀ i, W.cell? ⟨w.heap.size + 1, i, none⟩ = (#[.int .i64 b.a, .int .i64 b.o, .int .i64 b.t] : Array Value)[i]?
  own : ZOwn W bs a1 a2 n1 n2 c1 c2 z
  hi : w.heap.size + 2 ≤ W.heap.size
  bw : Below bs w W
  g1 : ∀ g, a1 = some ⟨g, 0, none⟩ → g < w.heap.size ∧ bs ≤ g
  g2 : ∀ g, a2 = some ⟨g, 0, none⟩ → g < w.heap.size ∧ bs ≤ g
section
variable {w W W' : World} {bs : Nat} {a1 a2 : Option Addr} {n1 n2 c1 c2 f e : Nat} {b : Bk} {z : Zn}
theorem SInv.below (h : SInv w W bs a1 a2 n1 n2 c1 c2 f e b z) (hb : Below W.heap.size W W') (hbs : bs ≤ w.heap.size) : SInv w W' bs a1 a2 n1 n2 c1 c2 f e b z := by
  have h2 := h.hi
  exact ⟨box_step h.k3 (by omega) hb, box_step h.k6 (by omega) hb, h.own.below hb, Nat.le_trans h2 hb.size, keepB hb h.bw (by omega), h.g1, h.g2⟩
theorem SInv.putY (h : SInv w W bs a1 a2 n1 n2 c1 c2 f e b z) {j g : Nat} (hj : j < n2) (hg : a2 = some ⟨g, 0, none⟩) (t : Nat) : SInv w (W.setCell ⟨g, j, none⟩ (.int .i64 (t : Int))) bs a1 a2 n1 n2 c1 c2 f e b { z with y := z.y.set j t } := by
  have h1 := h.g2 g hg
  exact ⟨box_set_other h.k3 (by omega) _ _, box_set_other h.k6 (by omega) _ _, h.own.putY hj hg t, by simpa using h.hi, h.bw.setCell h1.2 _, h.g1, h.g2⟩
theorem SInv.putT (h : SInv w W bs a1 a2 n1 n2 c1 c2 f e b z) {k g : Nat} (hk : k < z.l.length) (hg : a1 = some ⟨g, 0, none⟩) (t : Nat) : SInv w (W.setCell ⟨g, k * 3 + 2, none⟩ (.int .i64 (t : Int))) bs a1 a2 n1 n2 c1 c2 f e b { z with l := z.l.set k { z.l[k] with t := t } } := by
  have h1 := h.g1 g hg
  exact ⟨box_set_other h.k3 (by omega) _ _, box_set_other h.k6 (by omega) _ _, h.own.putT hk hg t, by simpa using h.hi, h.bw.setCell h1.2 _, h.g1, h.g2⟩
end

def markK (fr tp t : Nat) (l : List Bk) (k : Nat) : List Bk := (l.take k).map (markB fr tp t) ++ l.drop k
theorem markK_zero (fr tp t : Nat) (l : List Bk) : markK fr tp t l 0 = l := rfl
theorem markK_all (fr tp t : Nat) (l : List Bk) : markK fr tp t l l.length = l.map (markB fr tp t) := by simp [markK]
theorem markK_length (fr tp t : Nat) (l : List Bk) (k : Nat) : (markK fr tp t l k).length = l.length := by
  unfold markK
  rw [List.length_append, List.length_map, List.length_take, List.length_drop]; omega
theorem markK_at? (fr tp t : Nat) (l : List Bk) (k : Nat) (hk : k < l.length) : (markK fr tp t l k)[k]? = some l[k] := by
  unfold markK
  rw [List.getElem?_append_right (by rw [List.length_map, List.length_take]; omega), List.length_map, List.length_take, List.getElem?_drop, show k + (k - min k l.length) = k by omega]
  exact List.getElem?_eq_getElem hk
theorem markK_at (fr tp t : Nat) (l : List Bk) (k : Nat) (hk : k < l.length) (hk2 : k < (markK fr tp t l k).length) : (markK fr tp t l k)[k] = l[k] := by
  have h := markK_at? fr tp t l k hk
  rw [List.getElem?_eq_getElem hk2] at h
  exact Option.some.inj h
theorem markK_step (fr tp t : Nat) (l : List Bk) (k : Nat) (hk : k < l.length) : markK fr tp t l (k + 1) = (markK fr tp t l k).set k (markB fr tp t l[k]) := by
  unfold markK
  rw [List.take_succ_eq_append_getElem hk, List.map_append, List.drop_eq_getElem_cons hk, List.set_append_right _ _ (by rw [List.length_map, List.length_take]; omega)]
  rw [show k - ((l.take k).map (markB fr tp t)).length = 0 by rw [List.length_map, List.length_take]; omega, List.set_cons_zero, List.append_assoc]
  rfl
theorem markK_skip (fr tp t : Nat) (l : List Bk) (k : Nat) (hk : k < l.length) (h : ¬ (fr ≤ l[k].a ∧ l[k].fin ≤ tp)) : markK fr tp t l (k + 1) = markK fr tp t l k := by
  have e : markB fr tp t l[k] = l[k] := by unfold markB; rw [if_neg h]
  rw [markK_step _ _ _ _ _ hk, e]
  have hk2 : k < (markK fr tp t l k).length := by rw [markK_length]; exact hk
  have h2 := List.set_getElem_self hk2
  rw [markK_at fr tp t l k hk hk2] at h2
  exact h2
theorem markK_put (fr tp t : Nat) (l : List Bk) (k : Nat) (hk : k < l.length) (hk2 : k < (markK fr tp t l k).length) (h : fr ≤ l[k].a ∧ l[k].fin ≤ tp) : markK fr tp t l (k + 1) = (markK fr tp t l k).set k { (markK fr tp t l k)[k] with t := t } := by
  rw [markK_step _ _ _ _ _ hk, markK_at fr tp t l k hk hk2]
  unfold markB
  rw [if_pos h]

set_option maxHeartbeats 4000000 in
set_option maxRecDepth 100000 in
theorem steal_ok (bs : Nat) (a1 a2 : Option Addr) (n1 n2 c1 c2 : Nat) (z : Zn) (i t : Nat) (hi : i < z.l.length) (w : World) (hown : ZOwn w bs a1 a2 n1 n2 c1 c2 z) (hz : z.ok) (ht : t < 3) (hbs : bs ≤ w.heap.size) :
    Calls Tryd.prog 84 #[.agg #[.int .i64 z.f, .int .i64 z.e, .slice a1 n1 c1, .slice a2 n2 c2], .int .i64 i, .int .i64 t] w fun ev w' => ev = .returned (.tuple #[]) ∧ ZOwn w' bs a1 a2 n1 n2 c1 c2 (z.steal z.l[i] t) ∧ Below bs w w' := by
  have hlen : z.l.length ≤ 256 := Nat.le_trans (OkL.length_le hz.2 (fun b hb => (hz.2.fit b hb).1.2.2.1)) hz.1.e2
  have hee := hz.1.e2
  have l1 := hown.l1
  have l2 := hown.l2
  have hfit := (hz.2.fit _ (List.getElem_mem hi)).1
  obtain ⟨K3, F3, hsz, hbw⟩ := boxes1 w #[.int .i64 (z.f : Int), .int .i64 (z.e : Int), .slice a1 n1 c1, .slice a2 n2 c2] 55
  have hown0 := hown.below hbw
  obtain ⟨bb, off, ha1, hbb, hc⟩ := row_elem encBk_length (by decide) hown0.at.r1 hi
  obtain ⟨gg, vg, eg1, hg2, hg3, _⟩ := own_cell hown.o1 (i * 3) (by rw [flat_length encBk_length]; omega)
  have hbg : bb = gg ∧ off = 0 := by rw [ha1] at eg1; simpa using eg1
  obtain ⟨rfl, rfl⟩ := hbg
  obtain rfl := ha1
  rw [Nat.zero_add] at hc
  obtain ⟨hc0, hc1, hc2⟩ := encBk_cells (o := i * 3) hc
  have hG2 : ∀ g, a2 = some ⟨g, 0, none⟩ → g < w.heap.size ∧ bs ≤ g := fun g hg => by have := hown.o2.lt g (by subst hg; rfl); omega
  have hin : i < n1 := by omega
  have hbt := (hz.2.fit _ (List.getElem_mem hi)).2
  generalize hb : z.l[i] = b at *
  have HB := Hid.mk hb
  clear hb hc
  have hae : b.a ≤ 256 := by have := hfit.2.2.1; omega
  have hfin := fits_end hz.1.e16 hfit
  have hpw := pow_bk hfit.1
  have hbw2 := below_alloc (w.alloc (.cells #[.int .i64 (z.f : Int), .int .i64 (z.e : Int), .slice (some ⟨bb, 0, none⟩) n1 c1, .slice a2 n2 c2] 55)) (.cells #[.int .i64 (b.a : Int), .int .i64 (b.o : Int), .int .i64 (b.t : Int)] 40)
  have hbb2 := Below.step hbw hbw2
  have hG1 : ∀ g, some (⟨bb, 0, none⟩ : Addr) = some ⟨g, 0, none⟩ → g < w.heap.size ∧ bs ≤ g := fun g hg => by
    obtain rfl : bb = g := by simpa using hg
    exact ⟨hg3, hg2⟩
  have I0 : SInv w ((w.alloc (.cells #[.int .i64 (z.f : Int), .int .i64 (z.e : Int), .slice (some ⟨bb, 0, none⟩) n1 c1, .slice a2 n2 c2] 55)).alloc (.cells #[.int .i64 (b.a : Int), .int .i64 (b.o : Int), .int .i64 (b.t : Int)] 40)) bs (some ⟨bb, 0, none⟩) a2 n1 n2 c1 c2 z.f z.e b z :=
    ⟨box_step K3 (by omega) hbw2, fun i => by have := box_new (w.alloc (.cells #[.int .i64 (z.f : Int), .int .i64 (z.e : Int), .slice (some ⟨bb, 0, none⟩) n1 c1, .slice a2 n2 c2] 55)) #[.int .i64 (b.a : Int), .int .i64 (b.o : Int), .int .i64 (b.t : Int)] 40 i; rwa [World.size_alloc] at this, hown.below hbb2, by simp, hbb2.mono hbs, hG1, hG2⟩
  have HI := Hid.mk I0
  clear I0 K3 F3 hbw2
  go_enter Tryd.func84, Tryd.ntmps84
  by_cases ho2 : b.o < 2
  · go_wp2_with fail
    refine bodyPost_ret (v := .tuple #[]) (by simp [results, Tryd.results84, go_sem]) rfl ⟨rfl, ?_, ?_⟩
    · unfold Zn.steal
      rw [if_pos ho2]
      exact HI.out.own
    · exact HI.out.bw
  · have ho2' : ¬ (b.o : Int) < 2 := by omega
    go_wp2_with fail
    clear hc0 hc1 hc2
    generalize (w.alloc (.cells #[.int .i64 (z.f : Int), .int .i64 (z.e : Int), .slice (some ⟨bb, 0, none⟩) n1 c1, .slice a2 n2 c2] 55)).alloc (.cells #[.int .i64 (b.a : Int), .int .i64 (b.o : Int), .int .i64 (b.t : Int)] 40) = w0 at *
    go_loopw [7] (fun s7 wr => ∃ j : Nat, j ≤ 2 ^ b.o ∧ s7 = .int .i64 ((b.a + j : Nat) : Int) ∧ Hid (SInv w wr bs (some ⟨bb, 0, none⟩) a2 n1 n2 c1 c2 z.f z.e b { z with y := setT z.y z.f b.a t j })) (fun s7 _ => b.fin - (intOf s7).toNat)
    case atStart => exact ⟨0, Nat.zero_le _, by simp, HI⟩
    case round =>
      obtain ⟨j, hj, rfl, HK⟩ := hrel
      clear HI hown hown0
      have I := HK.out
      have hHi := I.hi
      have k60 := I.k6 0
      have k61 := I.k6 1
      have k62 := I.k6 2
      simp only [List.getElem?_toArray, List.getElem?_cons_zero, List.getElem?_cons_succ] at k60 k61 k62
      clear I
      have hwr : w.heap.size + 1 < wr.heap.size := by omega
      go_wp2_with fail
      refine (end_bk b _ hfit.1 (by omega)).mono ?_
      rintro ev w1 ⟨rfl, hb1⟩
      have HK1 := Hid.mk (HK.out.below hb1 hbs)
      clear hb1 k60 k61 k62 HK
      have I := HK1.out
      have hHi1 := I.hi
      have k60 := I.k6 0
      have k61 := I.k6 1
      have k62 := I.k6 2
      have k30 := I.k3 0
      have k32 := I.k3 2
      have k33 := I.k3 3
      simp only [List.getElem?_toArray, List.getElem?_cons_zero, List.getElem?_cons_succ] at k60 k61 k62 k30 k32 k33
      clear hwr
      have hwr : w.heap.size + 1 < w1.heap.size := by omega
      by_cases hlt : j < 2 ^ b.o
      · have hJ : (b.a + j - z.f) / 8 < z.y.length := by rw [hz.1.len]; have := hfit.2.1; have := hz.1.f16; have := hz.1.e16; omega
        have hjx : ((b.a : Int) + j - z.f) / 8 = (((b.a + j - z.f) / 8 : Nat) : Int) := by have := hfit.2.1; omega
        have hfa : (z.f : Int) ≤ b.a + j := by have := hfit.2.1; omega
        have dl : (b.a : Int) + j < b.fin := by unfold Bk.fin; omega
        have hset : Hid (setT z.y z.f b.a t (j + 1) = (setT z.y z.f b.a t j).set ((b.a + j - z.f) / 8) t) := rfl
        have hlen2 := setT_length z.y z.f b.a t j
        generalize (b.a + j - z.f) / 8 = J at *
        have hJn : (J : Int) < n2 := by omega
        have hJ2 : J < n2 := by omega
        obtain ⟨g, v, eg, hgb, hgs, hgc, hgf⟩ := own_cell I.own.o2 J (by rw [flat_length encT_length]; show J < (setT z.y z.f b.a t j).length * 1; omega)
        obtain rfl := eg
        have HK2 := Hid.mk (I.putY hJ2 rfl t)
        clear I HK1
        go_wp2
        go_roundw
        case rel => exact ⟨j + 1, by omega, by go_num, by rw [hset.out]; exact HK2⟩
        case measure => simp [intOf]; omega
      · obtain rfl : j = 2 ^ b.o := by omega
        have dl : ¬ (b.a : Int) + 2 ^ b.o < b.fin := by unfold Bk.fin; push_cast; omega
        clear I
        go_wp2_with fail
        refine (end_bk b _ hfit.1 (by omega)).mono ?_
        rintro ev w2 ⟨rfl, hb2⟩
        have HK2 := Hid.mk (HK1.out.below hb2 hbs)
        clear hb2 k60 k61 k62 HK1 k30 k32 k33 hwr
        dsimp only
        have hdv : (b.a : Int) / 8 * 8 = ((b.a / 8 * 8 : Nat) : Int) := by omega
        simp only [hdv]
        clear hdv
        have hFR : b.a / 8 * 8 ≤ 256 := by omega
        obtain ⟨FR, hFRe⟩ : ∃ FR, b.a / 8 * 8 = FR := ⟨_, rfl⟩
        rw [hFRe] at hFR ⊢
        have HFR := Hid.mk hFRe
        clear hFRe
        have hmz : markK FR (max b.fin (FR + 8)) t z.l 0 = z.l := rfl
        have k32 := HK2.out.k3 2
        simp only [List.getElem?_toArray, List.getElem?_cons_zero, List.getElem?_cons_succ] at k32
        by_cases hmx : FR + 8 ≤ b.fin
        · have hmx3 : (FR : Int) + 8 ≤ (b.fin : Int) := by omega
          have hmx2 : max b.fin (FR + 8) = b.fin := by omega
          go_wp2
          go_loopw [10, 11, 49] (fun _ _ s49 wr => ∃ k : Nat, k ≤ n1 ∧ s49 = .int .i64 (k : Int) ∧ Hid (SInv w wr bs (some ⟨bb, 0, none⟩) a2 n1 n2 c1 c2 z.f z.e b { z with l := markK FR (b.fin) t z.l k, y := setT z.y z.f b.a t (2 ^ b.o) })) (fun _ _ s49 _ => n1 - (intOf s49).toNat)
          case atStart => exact ⟨0, Nat.zero_le _, rfl, HK2⟩
          case round =>
            obtain ⟨k, hk, rfl, HK3⟩ := hrel
            clear HK2 k32
            by_cases hlt : k < n1
            · have hkl : k < z.l.length := by omega
              have hkm : k < (markK FR (b.fin) t z.l k).length := by rw [markK_length]; exact hkl
              have I := HK3.out
              have hHi := I.hi
              obtain ⟨bb', off', e', hbb', hc'⟩ := row_elem encBk_length (by decide) I.own.at.r1 hkm
              obtain ⟨rfl, rfl⟩ : bb = bb' ∧ 0 = off' := by simpa using e'
              rw [Nat.zero_add, markK_at FR (b.fin) t z.l k hkl hkm] at hc'
              obtain ⟨hc0, hc1, hc2⟩ := encBk_cells (o := k * 3) hc'
              have hfx := (hz.2.fit _ (List.getElem_mem hkl)).1
              have HP : Hid (FR ≤ z.l[k].a ∧ z.l[k].fin ≤ b.fin → ∀ W, SInv w W bs (some ⟨bb, 0, none⟩) a2 n1 n2 c1 c2 z.f z.e b { z with l := markK FR (b.fin) t z.l k, y := setT z.y z.f b.a t (2 ^ b.o) } → SInv w (W.setCell ⟨bb, k * 3 + 2, none⟩ (.int .i64 (t : Int))) bs (some ⟨bb, 0, none⟩) a2 n1 n2 c1 c2 z.f z.e b { z with l := markK FR (b.fin) t z.l (k + 1), y := setT z.y z.f b.a t (2 ^ b.o) }) := by
                intro h W hW
                have h1 := hW.putT hkm rfl t
                rw [markK_put FR (b.fin) t z.l k hkl hkm h]
                exact h1
              have HS := Hid.mk (markK_skip FR (b.fin) t z.l k hkl)
              obtain ⟨g5, v5, e5, _, _, hgc, hgf⟩ := own_cell I.own.o1 (k * 3 + 2) (by rw [flat_length encBk_length]; show k * 3 + 2 < (markK FR (b.fin) t z.l k).length * 3; omega)
              obtain rfl : bb = g5 := by simpa using e5
              clear hc' I e' hkm e5
              generalize z.l[k] = x at *
              have hwr : w.heap.size + 1 < wr.heap.size := by omega
              have hbn := below_alloc wr (.cells #[.int .i64 (x.a : Int), .int .i64 (x.o : Int), .int .i64 (x.t : Int)] 40)
              have HK4 := Hid.mk (HK3.out.below hbn hbs)
              have hgc4 := (hbn.cell (p := ⟨bb, k * 3 + 2, none⟩) hbb').trans hgc
              have hgf4 := (hbn.frozen (p := ⟨bb, k * 3 + 2, none⟩) hbb').trans hgf
              have K11 := box_new wr #[.int .i64 (x.a : Int), .int .i64 (x.o : Int), .int .i64 (x.t : Int)] 40
              have hkn : (k : Int) < n1 := by omega
              have h3a : x.a ≤ 1000 := by have := hfx.2.2.1; omega
              have hbx := Nat.lt_of_lt_of_le hbb' hbn.size
              clear hgc hgf hbb'
              by_cases hge : FR ≤ x.a
              · have hge2 : (FR : Int) ≤ x.a := by omega
                go_wp2_with fail
                clear hbn hc0 hc1 hc2 K11
                generalize wr.alloc (.cells #[.int .i64 (x.a : Int), .int .i64 (x.o : Int), .int .i64 (x.t : Int)] 40) = w4 at *
                refine (end_bk x _ hfx.1 h3a).mono ?_
                rintro ev w5 ⟨rfl, hb5⟩
                have HK5 := Hid.mk (HK4.out.below hb5 hbs)
                have hgc5 := (hb5.cell (p := ⟨bb, k * 3 + 2, none⟩) hbx).trans hgc4
                have hgf5 := (hb5.frozen (p := ⟨bb, k * 3 + 2, none⟩) hbx).trans hgf4
                have k32 := HK5.out.k3 2
                simp only [List.getElem?_toArray, List.getElem?_cons_zero, List.getElem?_cons_succ] at k32
                clear hb5 HK4 HK3 hgc4 hgf4
                dsimp only
                by_cases hle : x.fin ≤ b.fin
                · have hle2 : (x.fin : Int) ≤ ((b.fin : Nat) : Int) := by omega
                  have HK6 := Hid.mk (HP.out ⟨hge, hle⟩ _ HK5.out)
                  push_cast at hle2
                  go_wp2
                  go_roundw
                  case rel => exact ⟨k + 1, by omega, by go_num, HK6⟩
                  case measure => simp [intOf]; omega
                · have hle2 : ¬ (x.fin : Int) ≤ ((b.fin : Nat) : Int) := by omega
                  push_cast at hle2
                  have HK6 : Hid (SInv w w5 bs (some ⟨bb, 0, none⟩) a2 n1 n2 c1 c2 z.f z.e b { z with l := markK FR (b.fin) t z.l (k + 1), y := setT z.y z.f b.a t (2 ^ b.o) }) := by
                    rw [HS.out (fun h => hle h.2)]
                    exact HK5
                  go_wp2
                  go_roundw
                  case rel => exact ⟨k + 1, by omega, by go_num, HK6⟩
                  case measure => simp [intOf]; omega
              · have hge2 : ¬ (FR : Int) ≤ x.a := by omega
                have HK6 : Hid (SInv w (wr.alloc (.cells #[.int .i64 (x.a : Int), .int .i64 (x.o : Int), .int .i64 (x.t : Int)] 40)) bs (some ⟨bb, 0, none⟩) a2 n1 n2 c1 c2 z.f z.e b { z with l := markK FR (b.fin) t z.l (k + 1), y := setT z.y z.f b.a t (2 ^ b.o) }) := by
                  rw [HS.out (fun h => hge h.1)]
                  exact HK4
                clear hgc4 hgf4
                go_wp2
                go_roundw
                case rel => exact ⟨k + 1, by omega, by go_num, HK6⟩
                case measure => simp [intOf]; omega
            · obtain rfl : k = n1 := by omega
              have HF : Hid (SInv w wr bs (some ⟨bb, 0, none⟩) a2 k n2 c1 c2 z.f z.e b (z.steal z.l[i] t)) := by
                have hh := HB.out
                subst hh
                have hf := HFR.out
                subst hf
                unfold Zn.steal
                rw [if_neg ho2, hmx2]
                have := HK3.out
                rw [show k = z.l.length by omega] at this
                rw [markK_all] at this
                rw [show k = z.l.length by omega]
                exact this
              go_wp2
              refine bodyPost_end (v := .tuple #[]) (by simp [results, Tryd.results84, go_sem]) rfl ⟨rfl, ?_, ?_⟩
              · have h7 := HF.out.own
                rw [HB.out] at h7
                exact h7
              · exact HF.out.bw

        · have hmx3 : ¬ (FR : Int) + 8 ≤ (b.fin : Int) := by omega
          have hmx2 : max b.fin (FR + 8) = FR + 8 := by omega
          go_wp2
          go_loopw [10, 11, 49] (fun _ _ s49 wr => ∃ k : Nat, k ≤ n1 ∧ s49 = .int .i64 (k : Int) ∧ Hid (SInv w wr bs (some ⟨bb, 0, none⟩) a2 n1 n2 c1 c2 z.f z.e b { z with l := markK FR (FR + 8) t z.l k, y := setT z.y z.f b.a t (2 ^ b.o) })) (fun _ _ s49 _ => n1 - (intOf s49).toNat)
          case atStart => exact ⟨0, Nat.zero_le _, rfl, HK2⟩
          case round =>
            obtain ⟨k, hk, rfl, HK3⟩ := hrel
            clear HK2 k32
            by_cases hlt : k < n1
            · have hkl : k < z.l.length := by omega
              have hkm : k < (markK FR (FR + 8) t z.l k).length := by rw [markK_length]; exact hkl
              have I := HK3.out
              have hHi := I.hi
              obtain ⟨bb', off', e', hbb', hc'⟩ := row_elem encBk_length (by decide) I.own.at.r1 hkm
              obtain ⟨rfl, rfl⟩ : bb = bb' ∧ 0 = off' := by simpa using e'
              rw [Nat.zero_add, markK_at FR (FR + 8) t z.l k hkl hkm] at hc'
              obtain ⟨hc0, hc1, hc2⟩ := encBk_cells (o := k * 3) hc'
              have hfx := (hz.2.fit _ (List.getElem_mem hkl)).1
              have HP : Hid (FR ≤ z.l[k].a ∧ z.l[k].fin ≤ FR + 8 → ∀ W, SInv w W bs (some ⟨bb, 0, none⟩) a2 n1 n2 c1 c2 z.f z.e b { z with l := markK FR (FR + 8) t z.l k, y := setT z.y z.f b.a t (2 ^ b.o) } → SInv w (W.setCell ⟨bb, k * 3 + 2, none⟩ (.int .i64 (t : Int))) bs (some ⟨bb, 0, none⟩) a2 n1 n2 c1 c2 z.f z.e b { z with l := markK FR (FR + 8) t z.l (k + 1), y := setT z.y z.f b.a t (2 ^ b.o) }) := by
                intro h W hW
                have h1 := hW.putT hkm rfl t
                rw [markK_put FR (FR + 8) t z.l k hkl hkm h]
                exact h1
              have HS := Hid.mk (markK_skip FR (FR + 8) t z.l k hkl)
              obtain ⟨g5, v5, e5, _, _, hgc, hgf⟩ := own_cell I.own.o1 (k * 3 + 2) (by rw [flat_length encBk_length]; show k * 3 + 2 < (markK FR (FR + 8) t z.l k).length * 3; omega)
              obtain rfl : bb = g5 := by simpa using e5
              clear hc' I e' hkm e5
              generalize z.l[k] = x at *
              have hwr : w.heap.size + 1 < wr.heap.size := by omega
              have hbn := below_alloc wr (.cells #[.int .i64 (x.a : Int), .int .i64 (x.o : Int), .int .i64 (x.t : Int)] 40)
              have HK4 := Hid.mk (HK3.out.below hbn hbs)
              have hgc4 := (hbn.cell (p := ⟨bb, k * 3 + 2, none⟩) hbb').trans hgc
              have hgf4 := (hbn.frozen (p := ⟨bb, k * 3 + 2, none⟩) hbb').trans hgf
              have K11 := box_new wr #[.int .i64 (x.a : Int), .int .i64 (x.o : Int), .int .i64 (x.t : Int)] 40
              have hkn : (k : Int) < n1 := by omega
              have h3a : x.a ≤ 1000 := by have := hfx.2.2.1; omega
              have hbx := Nat.lt_of_lt_of_le hbb' hbn.size
              clear hgc hgf hbb'
              by_cases hge : FR ≤ x.a
              · have hge2 : (FR : Int) ≤ x.a := by omega
                go_wp2_with fail
                clear hbn hc0 hc1 hc2 K11
                generalize wr.alloc (.cells #[.int .i64 (x.a : Int), .int .i64 (x.o : Int), .int .i64 (x.t : Int)] 40) = w4 at *
                refine (end_bk x _ hfx.1 h3a).mono ?_
                rintro ev w5 ⟨rfl, hb5⟩
                have HK5 := Hid.mk (HK4.out.below hb5 hbs)
                have hgc5 := (hb5.cell (p := ⟨bb, k * 3 + 2, none⟩) hbx).trans hgc4
                have hgf5 := (hb5.frozen (p := ⟨bb, k * 3 + 2, none⟩) hbx).trans hgf4
                have k32 := HK5.out.k3 2
                simp only [List.getElem?_toArray, List.getElem?_cons_zero, List.getElem?_cons_succ] at k32
                clear hb5 HK4 HK3 hgc4 hgf4
                dsimp only
                by_cases hle : x.fin ≤ FR + 8
                · have hle2 : (x.fin : Int) ≤ ((FR + 8 : Nat) : Int) := by omega
                  have HK6 := Hid.mk (HP.out ⟨hge, hle⟩ _ HK5.out)
                  push_cast at hle2
                  go_wp2
                  go_roundw
                  case rel => exact ⟨k + 1, by omega, by go_num, HK6⟩
                  case measure => simp [intOf]; omega
                · have hle2 : ¬ (x.fin : Int) ≤ ((FR + 8 : Nat) : Int) := by omega
                  push_cast at hle2
                  have HK6 : Hid (SInv w w5 bs (some ⟨bb, 0, none⟩) a2 n1 n2 c1 c2 z.f z.e b { z with l := markK FR (FR + 8) t z.l (k + 1), y := setT z.y z.f b.a t (2 ^ b.o) }) := by
                    rw [HS.out (fun h => hle h.2)]
                    exact HK5
                  go_wp2
                  go_roundw
                  case rel => exact ⟨k + 1, by omega, by go_num, HK6⟩
                  case measure => simp [intOf]; omega
              · have hge2 : ¬ (FR : Int) ≤ x.a := by omega
                have HK6 : Hid (SInv w (wr.alloc (.cells #[.int .i64 (x.a : Int), .int .i64 (x.o : Int), .int .i64 (x.t : Int)] 40)) bs (some ⟨bb, 0, none⟩) a2 n1 n2 c1 c2 z.f z.e b { z with l := markK FR (FR + 8) t z.l (k + 1), y := setT z.y z.f b.a t (2 ^ b.o) }) := by
                  rw [HS.out (fun h => hge h.1)]
                  exact HK4
                clear hgc4 hgf4
                go_wp2
                go_roundw
                case rel => exact ⟨k + 1, by omega, by go_num, HK6⟩
                case measure => simp [intOf]; omega
            · obtain rfl : k = n1 := by omega
              have HF : Hid (SInv w wr bs (some ⟨bb, 0, none⟩) a2 k n2 c1 c2 z.f z.e b (z.steal z.l[i] t)) := by
                have hh := HB.out
                subst hh
                have hf := HFR.out
                subst hf
                unfold Zn.steal
                rw [if_neg ho2, hmx2]
                have := HK3.out
                rw [show k = z.l.length by omega] at this
                rw [markK_all] at this
                rw [show k = z.l.length by omega]
                exact this
              go_wp2
              refine bodyPost_end (v := .tuple #[]) (by simp [results, Tryd.results84, go_sem]) rfl ⟨rfl, ?_, ?_⟩
              · have h7 := HF.out.own
                rw [HB.out] at h7
                exact h7
              · exact HF.out.bw

end Go.Proofs.YtjljcifpcljlaaaDoor
/- The state of buddy.Take; what the search answers; one step of splitting. -/
namespace Go.Proofs.YtjljcifpcljlaaaDoor
open Go.RowKit
set_option linter.unusedVariables false

theorem split_step {f e a t o : Nat} {l : List Bk} (he : e % 16 = 0) (ht : t < 3) (hl : OkL f e l) (hb : fitsB f e a (o + 1)) (hd : ∀ x ∈ l, apartB a (o + 1) x) :
    OkL f e (putIn l ⟨a + 2 ^ o, o, t⟩) ∧ fitsB f e a o ∧ ∀ x ∈ putIn l ⟨a + 2 ^ o, o, t⟩, apartB a o x := by
  obtain ⟨h1, h2, h3⟩ := fits_half he hb
  have hp := pow_pos' o
  have hps : 2 ^ (o + 1) = 2 ^ o + 2 ^ o := by rw [Nat.pow_succ]; omega
  refine ⟨hl.put h2 ht (fun x hx => ?_) (fun _ x hx hxo => ?_), h1, fun x hx => ?_⟩
  · have := hd x hx
    unfold apartB Bk.fin at *
    rw [hps] at this
    simp only
    omega
  · simp only at hxo ⊢
    rw [h3]
    have := hd x hx
    have hpx := pow_pos' x.o
    unfold apartB Bk.fin at this
    omega
  · unfold putIn at hx
    rw [List.mem_append, List.mem_cons] at hx
    rcases hx with hx | rfl | hx
    · have := hd x (List.mem_of_mem_take hx)
      unfold apartB at *
      omega
    · unfold apartB; simp only; omega
    · have := hd x (List.mem_of_mem_drop hx)
      unfold apartB at *
      omega
theorem apart_ne {a o : Nat} {x : Bk} (h : apartB a o x) : x.a ≠ a := by
  unfold apartB Bk.fin at h
  have := pow_pos' o
  have := pow_pos' x.o
  omega

/-- an index, or -1 -/
def encO : Option Nat → Int
  | none => -1
  | some i => i
theorem findI_low (l : List Bk) (o t : Nat) : findI (fun b => decide (b.o = o ∧ b.t = t)) l = encO (lowI l o t) := by
  unfold findI lowI encO
  cases l.findIdx? fun b => decide (b.o = o ∧ b.t = t) <;> rfl

/-- the table of the other types -/
structure Oth (w : World) : Prop where
  sz : 0 < w.heap.size
  c : ∀ i v, (#[.int .i64 2, .int .i64 1, .int .i64 2, .int .i64 0, .int .i64 0, .int .i64 1] : Array Value)[i]? = some v → w.cell? ⟨0, i, none⟩ = some v
theorem Oth.mono {w w' : World} (h : Oth w) {B : Nat} (hb : Below B w w') (hB : w.heap.size ≤ B) : Oth w' :=
  ⟨Nat.lt_of_lt_of_le h.sz hb.size, fun i v hv => ((hb.mono hB).cell (p := ⟨0, i, none⟩) h.sz).trans (h.c i v hv)⟩
theorem Oth.at {w : World} (h : Oth w) {t : Nat} (ht : t < 3) : w.cell? ⟨0, t * 2, none⟩ = some (.int .i64 (oth1 t : Int)) ∧ w.cell? ⟨0, t * 2 + 1, none⟩ = some (.int .i64 (oth2 t : Int)) := by
  obtain rfl | rfl | rfl : t = 0 ∨ t = 1 ∨ t = 2 := by omega
  · exact ⟨h.c 0 _ rfl, h.c 1 _ rfl⟩
  · exact ⟨h.c 2 _ rfl, h.c 3 _ rfl⟩
  · exact ⟨h.c 4 _ rfl, h.c 5 _ rfl⟩

/-- a row of blocks is not the box of a block that lies apart from all of them -/
theorem row_not_box {w : World} {B base n c : Nat} {a : Option Addr} {l : List Bk} {x y u : Value} (hK : ∀ i, w.cell? ⟨B, i, none⟩ = (#[x, y, u] : Array Value)[i]?) (hown : w.ownsRow base 40 3 (.slice a n c) n (flat encBk l)) (hl : 0 < l.length) (hx : ∀ b ∈ l, x ≠ .int .i64 (b.a : Int)) : (Value.slice a n c).ownBlock ≠ some B := by
  intro e
  have hfl := flat_length encBk_length l
  obtain ⟨g, ha, _, _, hc, _⟩ := own_at hown 0 (by omega)
  subst ha
  obtain rfl : g = B := by simpa [Value.ownBlock] using e
  cases l with
  | nil => simp at hl
  | cons b l =>
    have h0 := hK 0
    rw [h0] at hc
    have h1 : x = (flat encBk (b :: l))[0] := by simpa using hc
    exact hx b (by simp) h1

theorem GInv.stolen {w W W' : World} {a1 a2 : Option Addr} {n1 n2 c1 c2 : Nat} {z y : Zn} (h : GInv w W a1 a2 n1 n2 c1 c2 z) (ho : ZOwn W' (w.heap.size + 2) a1 a2 n1 n2 c1 c2 y) (hb : Below (w.heap.size + 2) W W') (hf : y.f = z.f) (he : y.e = z.e) : GInv w W' a1 a2 n1 n2 c1 c2 y := by
  have h2 := h.hi
  refine ⟨fun i => ?_, fun i => (hb.frozen (p := ⟨w.heap.size, i, none⟩) (by show w.heap.size < _; omega)).trans (h.f3 i), fun i => (hb.cell (p := ⟨w.heap.size + 1, i, none⟩) (by show w.heap.size + 1 < _; omega)).trans (h.k6 i), fun i => (hb.frozen (p := ⟨w.heap.size + 1, i, none⟩) (by show w.heap.size + 1 < _; omega)).trans (h.f6 i), ho, Nat.le_trans h2 hb.size, h.bw.trans (hb.mono (by omega))⟩
  rw [hf, he]
  exact (hb.cell (p := ⟨w.heap.size, i, none⟩) (by show w.heap.size < _; omega)).trans (h.k3 i)

/-- the state of buddy.Take behind the search: a zone and the block that was found -/
structure QInv (w W : World) (B : Nat) (a1 a2 : Option Addr) (n1 n2 c1 c2 : Nat) (z : Zn) (a o t : Nat) : Prop where
  g : GInv w W a1 a2 n1 n2 c1 c2 z
  k15 : ∀ i, W.cell? ⟨B, i, none⟩ = (#[.int .i64 a, .int .i64 o, .int .i64 t] : Array Value)[i]?
  f15 : ∀ i, W.frozen? ⟨B, i, none⟩ = false
  lo : w.heap.size + 2 ≤ B
  hB : B < W.heap.size
  nb : (Value.slice a1 n1 c1).ownBlock ≠ some B ∧ (Value.slice a2 n2 c2).ownBlock ≠ some B
section
variable {w W W' : World} {B : Nat} {a1 a2 : Option Addr} {n1 n2 c1 c2 : Nat} {z : Zn} {a o t : Nat}
theorem QInv.below (h : QInv w W B a1 a2 n1 n2 c1 c2 z a o t) (hb : Below W.heap.size W W') : QInv w W' B a1 a2 n1 n2 c1 c2 z a o t :=
  ⟨h.g.below hb, box_step h.k15 h.hB hb, frz_step h.f15 h.hB hb, h.lo, Nat.lt_of_lt_of_le h.hB hb.size, h.nb⟩
theorem QInv.put15 (h : QInv w W B a1 a2 n1 n2 c1 c2 z a o t) (i : Nat) (u : Int) {a' o' t' : Nat} (he : (#[.int .i64 a, .int .i64 o, .int .i64 t] : Array Value).setIfInBounds i (.int .i64 u) = #[.int .i64 a', .int .i64 o', .int .i64 t']) : QInv w (W.setCell ⟨B, i, none⟩ (.int .i64 u)) B a1 a2 n1 n2 c1 c2 z a' o' t' := by
  have h1 := h.lo
  have h2 := h.hB
  exact ⟨⟨box_set_other h.g.k3 (by omega) _ _, frz_set h.g.f3 _ _, box_set_other h.g.k6 (by omega) _ _, frz_set h.g.f6 _ _, h.g.own.set h.nb _ _, by simpa using h.g.hi, h.g.bw.setCell (by simp only; omega) _⟩, he ▸ box_set h.k15 i _, frz_set h.f15 _ _, h1, by simpa using h2, h.nb⟩
theorem QInv.putFar (h : QInv w W B a1 a2 n1 n2 c1 c2 z a o t) {G : Nat} (h1 : w.heap.size + 2 ≤ G) (h2 : G ≠ B) (h3 : (Value.slice a1 n1 c1).ownBlock ≠ some G ∧ (Value.slice a2 n2 c2).ownBlock ≠ some G) (i : Nat) (u : Value) : QInv w (W.setCell ⟨G, i, none⟩ u) B a1 a2 n1 n2 c1 c2 z a o t :=
  ⟨⟨box_set_other h.g.k3 (by omega) _ _, frz_set h.g.f3 _ _, box_set_other h.g.k6 (by omega) _ _, frz_set h.g.f6 _ _, h.g.own.set h3 _ _, by simpa using h.g.hi, h.g.bw.setCell (by simp only; omega) _⟩, box_set_other h.k15 (Ne.symm h2) _ _, frz_set h.f15 _ _, h.lo, by simpa using h.hB, h.nb⟩
/-- the list of free blocks is another; the zone's box does not know yet -/
structure QMid (w W : World) (B : Nat) (a1 a2 : Option Addr) (n1 n2 c1 c2 : Nat) (z : Zn) (a o t : Nat) (a1' : Option Addr) (n1' c1' : Nat) (l' : List Bk) : Prop where
  k3 : ∀ i, W.cell? ⟨w.heap.size, i, none⟩ = (#[.int .i64 z.f, .int .i64 z.e, .slice a1 n1 c1, .slice a2 n2 c2] : Array Value)[i]?
  f3 : ∀ i, W.frozen? ⟨w.heap.size, i, none⟩ = false
  k6 : ∀ i, W.cell? ⟨w.heap.size + 1, i, none⟩ = (#[.int .i64 0, .int .i64 0, .slice none 0 0, .slice none 0 0] : Array Value)[i]?
  f6 : ∀ i, W.frozen? ⟨w.heap.size + 1, i, none⟩ = false
  own : ZOwn W (w.heap.size + 2) a1' a2 n1' n2 c1' c2 { z with l := l' }
  hi : w.heap.size + 2 ≤ W.heap.size
  bw : Below w.heap.size w W
  k15 : ∀ i, W.cell? ⟨B, i, none⟩ = (#[.int .i64 a, .int .i64 o, .int .i64 t] : Array Value)[i]?
  f15 : ∀ i, W.frozen? ⟨B, i, none⟩ = false
  lo : w.heap.size + 2 ≤ B
  hB : B < W.heap.size
  nb : (Value.slice a1' n1' c1').ownBlock ≠ some B ∧ (Value.slice a2 n2 c2).ownBlock ≠ some B
theorem QInv.grown (h : QInv w W B a1 a2 n1 n2 c1 c2 z a o t) (hg : W.grownBy W' (Value.ownBlock (.slice a1 n1 c1))) {a1' : Option Addr} {n1' c1' : Nat} {l' : List Bk} (hl : l'.length = n1') (ho : W'.ownsRow (w.heap.size + 2) 40 3 (.slice a1' n1' c1') n1' (flat encBk l')) (hn : a1' = a1 ∨ (0 < l'.length ∧ ∀ b ∈ l', b.a ≠ a)) : QMid w W' B a1 a2 n1 n2 c1 c2 z a o t a1' n1' c1' l' := by
  have h1 := h.lo
  have h2 := h.hB
  have h3 := h.g.hi
  have m3 := (h.g.own.ne (g := w.heap.size) (.inl (by omega))).1
  have m6 := (h.g.own.ne (g := w.heap.size + 1) (.inl (by omega))).1
  have k15' : ∀ i, W'.cell? ⟨B, i, none⟩ = (#[.int .i64 a, .int .i64 o, .int .i64 t] : Array Value)[i]? := box_grown h.k15 h2 hg (fun e => h.nb.1 e.symm)
  refine ⟨box_grown h.g.k3 (by omega) hg (fun e => m3 e.symm), frz_grown h.g.f3 (by omega) hg (fun e => m3 e.symm), box_grown h.g.k6 (by omega) hg (fun e => m6 e.symm), frz_grown h.g.f6 (by omega) hg (fun e => m6 e.symm), ⟨hl, h.g.own.l2, ho, own_grown h.g.own.o2 hg (fun k hk e => own_diff h.g.own.o2 h.g.own.o1 (by decide) k hk e)⟩, Nat.le_trans h3 hg.size, ?_, k15', frz_grown h.f15 h2 hg (fun e => h.nb.1 e.symm), h1, Nat.lt_of_lt_of_le h2 hg.size, ?_, h.nb.2⟩
  · exact h.g.bw.grown hg h.g.bw.size (fun k hk => by have := (h.g.own.o1.lt k hk).1; omega)
  · rcases hn with rfl | ⟨hn1, hn2⟩
    · have := h.nb.1
      cases a1' with
      | none => simp [Value.ownBlock]
      | some x => simpa [Value.ownBlock] using this
    · exact row_not_box k15' ho hn1 (fun b hb e => hn2 b hb (by simp only [Value.int.injEq] at e; omega))
theorem QMid.put3 {a1' : Option Addr} {n1' c1' : Nat} {l' : List Bk} (h : QMid w W B a1 a2 n1 n2 c1 c2 z a o t a1' n1' c1' l') : QInv w (W.setCell ⟨w.heap.size, 2, none⟩ (.slice a1' n1' c1')) B a1' a2 n1' n2 c1' c2 { z with l := l' } a o t := by
  have h1 := h.lo
  have h2 := h.hB
  have h3 := h.hi
  exact ⟨⟨box_set h.k3 2 _, frz_set h.f3 _ _, box_set_other h.k6 (by omega) _ _, frz_set h.f6 _ _, h.own.set (h.own.ne (.inl (by omega))) _ _, by simpa using h3, h.bw.setCell (Nat.le_refl _) _⟩, box_set_other h.k15 (by omega) _ _, frz_set h.f15 _ _, h1, by simpa using h2, h.nb⟩
end
end Go.Proofs.YtjljcifpcljlaaaDoor
