/- texts of this claim, joined. -/
import Derived.Test.YtcmpmobhongkiaaGreatDoorCM0
import Derived.Test.YtcmpmobhongkiaaGreatDoorCM4
set_option linter.unusedVariables false
set_option linter.unusedSimpArgs false
namespace Go.Proofs.YtcmpmobhongkiaaGreatDoor
section
open Go.RowKit
attribute [local go_sem ↓] iO

theorem nZ {w w' : World} {b off : Nat} {cs : List Value} (h : Row w (some ⟨b, off, none⟩) cs) {row : Option Nat} (hg : w.grownBy w' row) (hne : some b ≠ row) : Row w' (some ⟨b, off, none⟩) cs := by
 intro j v hj
 obtain ⟨b', off', e, h1, h2⟩ := h j v hj
 obtain ⟨rfl, rfl⟩ : b = b' ∧ off = off' := by simpa using e
 refine ⟨b, off, rfl, gI h1 hg.size, ?_⟩
 rw [World.cell?_of_block (hg.block b h1 hne)]; exact h2

set_option maxHeartbeats 1000000 in
set_option maxRecDepth 100000 in
theorem Dz (base : Nat) (a : Option Addr) (n c g i : Nat) (l : List Bk) (b : Bk) (w : World) (hown : w.ownsRow base 63 3 (.slice a n c) n (flat aO l)) (hi : i < n) (hn : n ≤ 1000) (hc : n + 1 ≤ c) (hbase : base ≤ w.heap.size) (hgb : w.heap[g]? = some (.cells (aO b).toArray 63 (0, 0))) (hne : some g ≠ Value.ownBlock (.slice a n c)) (hv : Row w (some ⟨g, 0, none⟩) (aO b)) :
  Calls Tryz.prog 109 #[.slice a n c, .int .i64 i, .slice (some ⟨g, 0, none⟩) 1 1] w fun ev w' => ∃ a' c', ev = .returned (.slice a' (n + 1) c') ∧ w'.ownsRow base 63 3 (.slice a' (n + 1) c') (n + 1) (flat aO (l.take i ++ b :: l.drop i)) ∧ w.grownBy w' (Value.ownBlock (.slice a n c)) := by
 have hln : l.length = n := aZ aI (by decide) hown
 have hfl := flat_length aI l
 obtain ⟨g0, cur, rfl, hg0, hcs, hcm⟩ : ∃ g0 cur, a = some ⟨g0, 0, none⟩ ∧ w.heap[g0]? = some (.cells cur 63 (0, 0)) ∧ cur.size = c * 3 ∧ c ≤ maxLen := by
  rcases hown.2 with ⟨h', h2⟩ | ⟨g0, cap, cur, h', _, hg, _, hcm, hs, _⟩
  ·omega
  ·obtain ⟨rfl, rfl⟩ : a = some ⟨g0, 0, none⟩ ∧ c = cap := by simpa using h'
   exact ⟨g0, cur, rfl, hg, hs, hcm⟩
 have hgg : g ≠ g0 := fun e => hne (by rw [e]; rfl)
 have hcut : ∀ j, j ≤ n → bT (some ⟨g0, 0, none⟩) j c 3 = (some ⟨g0, 0, none⟩ : Option Addr).map (·.add (j * 3)) := fun j hj => by unfold bT; rw [if_neg (by omega)]
 have mY : bT (some ⟨g0, 0, none⟩) (i + 1) c 3 = some ⟨g0, (i + 1) * 3, none⟩ := by rw [hcut _ (by omega)]; simp [Addr.add_lit]
 have hsz : (Tryz.prog.info? 63).map (·.size) = some 3 := by kernel_rfl
 have hov : (callFunc 154 #[.slice (some ⟨g, 0, none⟩) 1 1, .slice (bT (some ⟨g0, 0, none⟩) (i + 1) c 3) (n - i) (c - (i + 1))]).run Tryz.prog w = .ok (.value (.bool false)) w := by
  rw [mY, run_callFunc_extern Tryz.func154 (by kernel_rfl) (by kernel_rfl) (by kernel_rfl) (e := Extern.SlicesOverlaps.overlaps #[42, 42] #[4]) (by kernel_rfl),
   Lib.run_overlaps_apart w 42 4 63 Tryz.underlying42 3 Tryz.sizeOf63 ⟨g, 0, none⟩ ⟨g0, (i + 1) * 3, none⟩ 1 1 _ _ hgg 63 63 3 (c * 3) (by simp [World.shape?, hgb, aO]) (by simp [World.shape?, hg0, hcs]) (by omega) (by simp [World.frozen?, hgb]) (by simp [World.frozen?, hgb])]
  rfl
 obtain ⟨ys, hyl, hroom⟩ := pW hown (show n ≤ n + 1 by omega) hc
 rw [show (n + 1 - n) * 3 = 3 by omega] at hyl
 have hdl : (flat aO (l.drop i)).length = (n - i) * 3 := by rw [flat_length aI, List.length_drop, hln]
 have htl : (flat aO (l.take i)).length = i * 3 := by rw [flat_length aI, List.length_take]; omega
 have hwd : Below w.heap.size w w.drew := (Below.refl w.heap.size w).drew
 have hroomd := own_below hroom hwd (Nat.le_refl _)
 have hrow := ((aY hown).below hwd).cut i c 3 ((n - i) * 3) (by omega)
 rw [List.take_of_length_le (by rw [List.length_drop, hfl]; omega), dQ aI] at hrow
 obtain ⟨w2, hcp1, hown2, hg2⟩ := iG (P := Tryz.prog) (w := w.drew) 42 42 3 63 Tryz.underlying42 3 hsz (bT (some ⟨g0, 0, none⟩) (i + 1) c 3) (bT (some ⟨g0, 0, none⟩) i c 3) (n - i) (c - (i + 1)) (n + 1 - i) (c - i) (flat aO (l.drop i)) (by rw [hdl, show Nat.min (n + 1 - i) (n - i) = n - i from Nat.min_eq_right (by omega)]) hrow (lV _) base (n + 1) c (i + 1) (some ⟨g0, 0, none⟩) _ hroomd (fun _ => hcut _ (by omega)) (fun h => by rw [hcut _ (by omega)] at h; simp at h) (by rw [hdl]; omega)
 have hX : ((flat aO l ++ ys).take ((i + 1) * 3) ++ flat aO (l.drop i) ++ (flat aO l ++ ys).drop ((i + 1) * 3 + (flat aO (l.drop i)).length)) = (flat aO l ++ ys).take ((i + 1) * 3) ++ flat aO (l.drop i) := by
  rw [show (flat aO l ++ ys).drop ((i + 1) * 3 + (flat aO (l.drop i)).length) = [] from List.drop_eq_nil_of_le (by rw [List.length_append, hfl, hdl]; omega), List.append_nil]
 rw [hX] at hown2
 have Ku : ((flat aO l ++ ys).take ((i + 1) * 3)).length = (i + 1) * 3 := by rw [List.length_take, List.length_append, hfl]; omega
 have hv2 := nZ (hv.below hwd) hg2 hne
 obtain ⟨w3, hcp2, hown3, hg3⟩ := iG (P := Tryz.prog) (w := w2) 42 42 3 63 Tryz.underlying42 3 hsz (bT (some ⟨g0, 0, none⟩) i c 3) (some ⟨g, 0, none⟩) (n + 1 - i) (c - i) 1 1 (aO b) (by rw [show Nat.min 1 (n + 1 - i) = 1 from Nat.min_eq_left (by omega)]; rfl) hv2 (by simp [aO, vI, Value.oneCell']) base (n + 1) c i (some ⟨g0, 0, none⟩) _ hown2 (fun _ => hcut _ (by omega)) (fun h => by rw [hcut _ (by omega)] at h; simp at h) (by rw [aI]; omega)
 have hY : ((flat aO l ++ ys).take ((i + 1) * 3) ++ flat aO (l.drop i)).take (i * 3) ++ aO b ++ ((flat aO l ++ ys).take ((i + 1) * 3) ++ flat aO (l.drop i)).drop (i * 3 + (aO b).length) = flat aO (l.take i ++ b :: l.drop i) := by
  rw [aI, show i * 3 + 3 = (i + 1) * 3 by omega, List.drop_left' Ku, List.take_append_of_le_length (by rw [Ku]; omega), List.take_take, show min (i * 3) ((i + 1) * 3) = i * 3 by omega, List.take_append_of_le_length (by rw [hfl]; omega), dP aI, aT, dG, List.append_assoc]
 rw [hY] at hown3
 have HO3 := gO hown3
 have HG3 : Hid (w.grownBy w3 (Value.ownBlock (.slice (some ⟨g0, 0, none⟩) n c))) :=
  ⟨hg3.os.trans hg2.os, hg3.tape.trans hg2.tape, hg3.output.trans hg2.output, gQ hg2.size hg3.size, fun k hk hnk => (hg3.block k (gI hk hg2.size) hnk).trans (hg2.block k hk hnk)⟩
 have b0 : (i : Int) ≤ n := by omega
 have b2 : (i : Int) ≤ c := by omega
 have b3 : ¬ (i : Int) = n := by omega
 have b4 : ¬ (c : Int) < (n : Int) + 1 := by omega
 have b5 : (i : Int) ≤ (n : Int) + 1 := by omega
 have b6 : (n : Int) + 1 ≤ c := by omega
 have b7 : ((i : Int) + 1) ≤ c := by omega
 have s1 : IntKind.i64.wrap ((i : Int) + 1) = (i : Int) + 1 := IntWalk.i64_in _ (by omega)
 have b8 : 0 ≤ (i : Int) + 1 := by omega
 have b9 : ((i : Int) + 1).toNat = i + 1 := by omega
 have b10 : (i : Int) + 1 ≤ (n : Int) + 1 := by omega
 have b11 : ((n : Int) + 1).toNat = n + 1 := by omega
 have b12 : c ≤ 9223372036854775807 := by unfold maxLen at hcm; omega
 clear hown hroom hroomd hrow hown2 hown3 hg2 hg3 hX hY hv hv2 hcut mY hg0 hgb hcs
 go_enter Tryz.func109, Tryz.ntmps109
 go_wp2_with (simp only [hov])
 go_still_tail 8, (by kernel_rfl)
 change wpList _ _ _ _ _ w.drew
 go_wp2
 go_ret
 exact ⟨_, _, rfl, HO3.out, HG3.out⟩

theorem kQ (base : Nat) (a : Option Addr) (n c g i : Nat) (l : List Bk) (b : Bk) (w : World) (hown : w.ownsRow base 63 3 (.slice a n c) n (flat aO l)) (hi : i ≤ n) (hn : n ≤ 1000) (hbase : base ≤ w.heap.size) (hgb : w.heap[g]? = some (.cells (aO b).toArray 63 (0, 0))) (hne : some g ≠ Value.ownBlock (.slice a n c)) :
  Calls Tryz.prog 109 #[.slice a n c, .int .i64 i, .slice (some ⟨g, 0, none⟩) 1 1] w fun ev w' => ∃ a' c', ev = .returned (.slice a' (n + 1) c') ∧ w'.ownsRow base 63 3 (.slice a' (n + 1) c') (n + 1) (flat aO (l.take i ++ b :: l.drop i)) ∧ w.grownBy w' (Value.ownBlock (.slice a n c)) := by
 have hlt : g < w.heap.size := (Array.getElem?_eq_some_iff.1 hgb).1
 have hv : Row w (some ⟨g, 0, none⟩) (aO b) := by
  intro j v hj
  exact ⟨g, 0, rfl, hlt, by rw [Nat.zero_add, cell_of_row _ _ _ _ _ _ hgb]; simpa using hj⟩
 have hln : l.length = n := aZ aI (by decide) hown
 by_cases he : i = n
 ·subst he
  have := Iz base a i c g l b w hown hn hbase hv
  rw [List.take_of_length_le (by omega), List.drop_eq_nil_of_le (by omega)]
  exact this
 ·by_cases hc : n + 1 ≤ c
  ·exact Dz base a n c g i l b w hown (by omega) hn hc hbase hgb hne hv
  ·exact Fa base a n c g i l b w hown (by omega) hn (by omega) hbase hv
end
section
open Go.RowKit

theorem BO (y : List Nat) (i t : Nat) : (flat fK y).set i (vI t) = flat fK (y.set i t) := by
 have h : ∀ y : List Nat, flat fK y = y.map fun (t : Nat) => vI t := fun y => by
  unfold flat fK
  induction y with
  | nil => rfl
  | cons x y ih => rw [List.flatMap_cons, ih]; rfl
 rw [h, h, List.map_set]
theorem MN (k v : Nat) : flat fK (List.replicate k v) = List.replicate k (vI v) := by
 unfold flat fK
 induction k with
 | zero => rfl
 | succ k ih => rw [List.replicate_succ, List.flatMap_cons, ih]; rfl

set_option maxHeartbeats 1000000 in
set_option maxRecDepth 100000 in
theorem IJ (f e k : Nat) (w : World) (h1 : f ≤ e) (h2 : e ≤ 256) (h3 : f % 16 = 0) (h4 : e % 16 = 0) (hk : k = (e - f) / 8) :
  Calls Tryz.prog 103 #[.int .i64 f, .int .i64 e] w fun ev w' => ∃ a2 c2, ev = .returned (.tuple #[.agg #[.int .i64 f, .int .i64 e, .slice none 0 0, .slice a2 k c2], .int .i64 0]) ∧ fG w' w.heap.size none a2 0 k 0 c2 ⟨f, e, [], List.replicate k 1⟩ ∧ Below w.heap.size w w' := by
 obtain ⟨i0, hi, hz, hsize, hby⟩ := info_parts l7
 have d1 : decide ((256 : Int) < e) = false := decide_eq_false (by omega)
 have d2 : decide (e < f) = false := decide_eq_false (by omega)
 have d3 : (f : Int) % 16 = 0 := by omega
 have d4 : (e : Int) % 16 = 0 := by omega
 have d5 : (f : Int) ≤ e := by omega
 have HK : ((e : Int) - f) / 8 = (k : Int) := by omega
 have hk2 : k ≤ 32 := by omega
 have hk8 : (k : Int) ≤ 32 := by omega
 clear hk
 obtain ⟨K0, F0, hsz0, hbw0⟩ := boxes1 w #[.int .i64 0, .int .i64 0, .slice none 0 0, .slice none 0 0] 102
 go_enter Tryz.func103, Tryz.ntmps103
 go_wp2_with (at_make; refine wpList_make_full _ rfl _ _ 39 rfl (w.alloc (.cells #[.int .i64 0, .int .i64 0, .slice none 0 0, .slice none 0 0] 102)).heap.size 3 i0 (.int .i64 0) 1 Tryz.underlying39 hi hz hsize .i64 .i64 _ _ k rfl rfl HK HK ?q1 ?q2 ?q3 ?_)
 case q1 => rw [hby]; omega
 case q2 => unfold maxLen; omega
 case q3 => exact Nat.le_refl _
 intro w1 hown hgrow
 rw [toList_madeCells_one] at hown
 have sK := hbw0.grown hgrow (by simp) (by simp)
 have hs1 : w.heap.size + 1 < w1.heap.size := by have := (hown.lt _ rfl).2; simpa using this
 have K4 : ∀ o, w1.cell? ⟨w.heap.size, o, none⟩ = (#[.int .i64 0, .int .i64 0, .slice none 0 0, .slice none 0 0] : Array Value)[o]? := fun o => by rw [World.cell?_of_block (hgrow.block w.heap.size (by simp) (by simp))]; exact K0 o
 have F4 : ∀ o, w1.frozen? ⟨w.heap.size, o, none⟩ = false := fun o => by rw [World.frozen?_of_block (hgrow.block w.heap.size (by simp) (by simp))]; exact F0 o
 have hb2 := aB w1 (.cells #[.int .i64 (f : Int), .int .i64 (e : Int), .slice none 0 0, .slice (some ⟨w.heap.size + 1, 0, none⟩) k k] 102)
 have hown2 := own_below hown hb2 (Nat.le_refl _)
 have K6 := bC w1 #[.int .i64 (f : Int), .int .i64 (e : Int), .slice none 0 0, .slice (some ⟨w.heap.size + 1, 0, none⟩) k k] 102
 have K4b := aC K4 (by omega) hb2
 have F4b := aJ F4 (by omega) hb2
 have hs2 : w1.heap.size < (w1.alloc (.cells #[.int .i64 (f : Int), .int .i64 (e : Int), .slice none 0 0, .slice (some ⟨w.heap.size + 1, 0, none⟩) k k] 102)).heap.size := by simp
 have hbw2 := Below.step sK hb2
 rw [show List.replicate k (Value.int .i64 0) = flat fK (List.replicate k 0) from (MN k 0).symm] at hown2
 have HO2 := gO hown2
 clear hown hown2 hgrow K4 F4 sK hb2 K0 F0
 go_wp2
 generalize w1.alloc (.cells #[.int .i64 (f : Int), .int .i64 (e : Int), .slice none 0 0, .slice (some ⟨w.heap.size + 1, 0, none⟩) k k] 102) = w2 at *
 generalize w1.heap.size = B6 at *
 go_loopw [7, 41] (fun _ s41 wr => ∃ i : Nat, i ≤ k ∧ s41 = .int .i64 i ∧ Hid (wr.ownsRow (w.heap.size + 1) 3 1 (.slice (some ⟨w.heap.size + 1, 0, none⟩) k k) k (flat fK (List.replicate i 1 ++ List.replicate (k - i) 0))) ∧ Hid (∀ o, wr.cell? ⟨B6, o, none⟩ = (#[.int .i64 (f : Int), .int .i64 (e : Int), .slice none 0 0, .slice (some ⟨w.heap.size + 1, 0, none⟩) k k] : Array Value)[o]?) ∧ Hid (∀ o, wr.cell? ⟨w.heap.size, o, none⟩ = (#[.int .i64 0, .int .i64 0, .slice none 0 0, .slice none 0 0] : Array Value)[o]?) ∧ Hid (∀ o, wr.frozen? ⟨w.heap.size, o, none⟩ = false) ∧ Below w.heap.size w wr) (fun _ s41 _ => k - (intOf s41).toNat)
 case atStart => exact ⟨0, Nat.zero_le _, rfl, by simpa [Hid] using HO2.out, K6, K4b, F4b, hbw2⟩
 case round =>
  obtain ⟨i, hi, rfl, hown, HK6, HK4, HF4, hb3⟩ := hrel
  clear HO2 K6 K4b F4b
  by_cases hlt : i < k
  ·obtain ⟨g, v, eg, hg, hgs, hc, hf⟩ := eF hown.out i (by rw [flat_length bM]; simp; omega)
   obtain rfl : w.heap.size + 1 = g := by simpa using eg
   have K6r := HK6.out
   have h := (World.ownsRow.stored hown.out i (vI 1)).1
   have hset : (flat fK (List.replicate i 1 ++ List.replicate (k - i) 0)).set i (vI 1) = flat fK (List.replicate (i + 1) 1 ++ List.replicate (k - (i + 1)) 0) := by
    rw [show (vI 1) = vI ((1 : Nat) : Int) from rfl, BO]
    congr 1
    rw [List.set_append_right _ _ (by simp), List.length_replicate, Nat.sub_self, show k - i = (k - (i + 1)) + 1 by omega, List.replicate_succ, gG, List.replicate_succ', List.append_assoc]
    rfl
   rw [hset] at h
   have HN := gO h
   have aCb := gO (aA K6r (c := w.heap.size + 1) (by omega) i (.int .i64 1))
   have aCc := gO (aA HK4.out (c := w.heap.size + 1) (by omega) i (.int .i64 1))
   have aCd := gO (aH HF4.out ⟨w.heap.size + 1, i, none⟩ (.int .i64 1))
   clear h hset hown HK4 HF4
   go_wp2
   go_roundw
   case rel => exact ⟨i + 1, by omega, by go_num, HN.out, aCb.out, aCc.out, aCd.out, hb3.setCell (by simp only; omega) _⟩
   case measure => simp [intOf]; omega
  ·obtain rfl : i = k := by omega
   rw [Nat.sub_self, List.replicate_zero, List.append_nil] at hown
   have K6r := HK6.out
   have K4r := HK4.out
   have F4r := HF4.out
   have HZ := gO (show fG wr (w.heap.size + 1) none (some ⟨w.heap.size + 1, 0, none⟩) 0 i 0 i ⟨f, e, [], List.replicate i 1⟩ from ⟨rfl, by simp, World.ownsRow_nil _ _ _ _, hown.out⟩)
   clear hown HK6 HK4 HF4
   go_wp2
   have nn := HZ.out.ne (g := w.heap.size) (.inl (by omega))
   refine bodyPost_ret (v := .tuple #[.agg #[.int .i64 f, .int .i64 e, .slice none 0 0, .slice (some ⟨w.heap.size + 1, 0, none⟩) i i], .int .i64 0]) (by simp [results, Tryz.results103, go_sem, K4r]) rfl ⟨some ⟨w.heap.size + 1, 0, none⟩, i, rfl, ((((HZ.out.set nn _ _).set nn _ _).set nn _ _).set nn _ _).base (by omega), ?_⟩
   exact Below.setCell (Below.setCell (Below.setCell (Below.setCell hb3 (by simp only; omega) _) (by simp only; omega) _) (by simp only; omega) _) (by simp only; omega) _
end
end Go.Proofs.YtcmpmobhongkiaaGreatDoor
