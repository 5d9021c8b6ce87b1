/- Contracts of package boot: Ranges. -/
import Derived.Test.YteonmoncofcajaaBoot7
namespace Go.Proofs.Yteonmoncofcajaa
open Go.RowKit
set_option linter.unusedVariables false

/-- the pages that are there and not reserved -/
def freeF (b : Bt) (p : Nat) : Bool := inRg b.m p && !inRg b.r p
def freeOf (b : Bt) : List Rg := regionsOf (freeF b)

set_option maxHeartbeats 2000000 in
set_option maxRecDepth 100000 in
theorem ranges_ok (a1 a2 : Option Addr) (n1 n2 c1 c2 : Nat) (b : Bt) (w : World) (hat : BtAt w a1 a2 n1 n2 b) (h1 : listOk b.m = true) (h2 : listOk b.r = true) :
    Calls Try.prog 22 #[.agg #[.slice a1 n1 c1, .slice a2 n2 c2]] w fun e w' => ∃ a' c', e = .returned (.tuple #[.slice a' (freeOf b).length c', .int .i64 0]) ∧ w'.ownsRow w.heap.size 51 2 (.slice a' (freeOf b).length c') (freeOf b).length (flat encRg (freeOf b)) ∧ Below w.heap.size w w' := by
  have hb1 := listOk_len h1
  have hb2 := listOk_len h2
  obtain ⟨K0, F0, hsz, hbw⟩ := boxes1 w #[.slice a1 n1 c1, .slice a2 n2 c2] 42
  obtain ⟨l1, l2, q1, q2⟩ := hat.below hbw
  have hsm1 := listOk_small h1
  have hsm2 := listOk_small h2
  have hok1 := listOk_all h1
  have hok2 := listOk_all h2
  generalize hF : freeOf b = F
  have HF := Hid.mk hF
  clear hat hF
  go_enter Try.func22, Try.ntmps22
  go_wp2_with fail
  generalize w.alloc (.cells #[.slice a1 n1 c1, .slice a2 n2 c2] 42) = w0 at *
  refine (bootCheck_ok _ _ _ _ _ _ b.m b.r _ l1 l2 (by omega) (by omega) q1 q2 hsm1 hsm2 h1 h2).mono ?_
  rintro e w1 ⟨rfl, hb1'⟩
  have K0a := box_step K0 hsz hb1'
  have q1a := q1.below hb1'
  have q2a := q2.below hb1'
  have hbw1 := Below.step hbw hb1'
  have hsz1 : w.heap.size < w1.heap.size := Nat.lt_of_lt_of_le hsz hb1'.size
  clear K0 F0 q1 q2 hsm1 hsm2 hb1' h1 h2
  have LK0 : ∀ W, Below w1.heap.size w1 W → ∀ o, W.cell? ⟨w.heap.size, o, none⟩ = (#[.slice a1 n1 c1, .slice a2 n2 c2] : Array Value)[o]? := fun W h o => box_step K0a hsz1 h o
  go_upto_region 4 with fail
  go_cut [5, 6] (fun s5 s6 wx => ∃ (g5 g6 : Nat) (c5 c6 : Nat), s5 = .slice (some ⟨g5, 0, none⟩) 256 c5 ∧ s6 = .slice (some ⟨g6, 0, none⟩) 256 c6 ∧ wx.ownsRow w1.heap.size 4 1 (.slice (some ⟨g5, 0, none⟩) 256 c5) 256 ((bl (inRg b.m)).map vB) ∧ wx.ownsRow w1.heap.size 4 1 (.slice (some ⟨g6, 0, none⟩) 256 c6) 256 ((bl (inRg b.r)).map vB) ∧ g5 ≠ g6 ∧ Below w1.heap.size w1 wx)
  case first =>
    go_region_held3 (fun W => Below w1.heap.size w1 W) ((repeat (first | assumption | exact Below.refl _ _ | apply Below.drew | refine Below.step ?_ (by assumption)))) (first | (go_at_call_of 38 (Value.slice a1 n1 c1); refine (pages_any _ _ _ b.m _ l1 (q1a.below (by assumption)) hok1 (by omega)).mono ?_; rintro e wm ⟨am, cm, rfl, hom, hbm⟩) | (go_at_call_of 38 (Value.slice a2 n2 c2); refine (pages_any _ _ _ b.r _ l2 (q2a.below (by assumption)) hok2 (by omega)).mono ?_; rintro e wr ⟨ar, cr, rfl, hor, hbr⟩))
    all_goals (go_wp2_with fail; go_meet)
    · obtain ⟨g5, _, rfl, hg5, hs5, _, _⟩ := own_cell hom 0 (by rw [List.length_map, bl_length]; omega)
      obtain ⟨g6, _, rfl, hg6, hs6, _, _⟩ := own_cell hor 0 (by rw [List.length_map, bl_length]; omega)
      exact ⟨g5, g6, cm, cr, rfl, rfl, own_base (own_below hom hbr (Nat.le_refl _)) (Nat.le_refl _), own_base hor (by have := hbm.size; simpa using this), by omega, by assumption⟩
  case rest =>
    obtain ⟨g5, g6, c5, c6, rfl, rfl, ho5, ho6, hne, hbx⟩ := hcut
    have hbw2 := Below.step hbw1 hbx
    have HO5 := Hid.mk ho5
    have HO6 := Hid.mk ho6
    clear LK0 K0a q1a q2a hok1 hok2 ho5 ho6
    go_wp2
    go_loopw [7, 21] (fun _ s21 wq => ∃ i : Nat, i ≤ 256 ∧ s21 = .int .i64 i ∧ Hid (wq.ownsRow w1.heap.size 4 1 (.slice (some ⟨g5, 0, none⟩) 256 c5) 256 ((bl (fun p => inRg b.m p && !(decide (p < i) && inRg b.r p))).map vB)) ∧ Hid (wq.ownsRow w1.heap.size 4 1 (.slice (some ⟨g6, 0, none⟩) 256 c6) 256 ((bl (inRg b.r)).map vB)) ∧ Below w.heap.size w wq) (fun _ s21 _ => 256 - (intOf s21).toNat)
    case atStart =>
      refine ⟨0, by omega, rfl, ?_, HO6, hbw2⟩
      rw [show bl (fun p => inRg b.m p && !(decide (p < 0) && inRg b.r p)) = bl (inRg b.m) from bl_congr fun p _ => by simp]
      exact HO5
    case round =>
      obtain ⟨i, hi, rfl, hown5, hown6, hb3⟩ := hrel
      clear HO5 HO6
      by_cases hlt : i < 256
      · obtain ⟨b5, off5, e5, hb5, hc5⟩ := bool_at (own_row hown5.out) hlt
        obtain ⟨rfl, rfl⟩ : g5 = b5 ∧ 0 = off5 := by simpa using e5
        obtain ⟨b6, off6, e6, hb6, hc6⟩ := bool_at (own_row hown6.out) hlt
        obtain ⟨rfl, rfl⟩ : g6 = b6 ∧ 0 = off6 := by simpa using e6
        obtain ⟨g, v, eg, hg, hgs, hcg, hfg⟩ := own_cell hown5.out i (by rw [List.length_map, bl_length]; omega)
        obtain rfl : g5 = g := by simpa using eg
        rw [decide_eq_false (show ¬ i < i by omega), Bool.false_and, Bool.not_false, Bool.and_true, Nat.zero_add] at hc5
        rw [Nat.zero_add] at hc6
        have HN : Hid (∀ v, v = (inRg b.m i && !inRg b.r i) → ((wr.setCell ⟨g5, i, none⟩ (.bool v)).ownsRow w1.heap.size 4 1 (.slice (some ⟨g5, 0, none⟩) 256 c5) 256 ((bl (fun p => inRg b.m p && !(decide (p < i + 1) && inRg b.r p))).map vB))) := fun v hv => by
          have h := (World.ownsRow.stored hown5.out i (vB v)).1
          rw [← List.map_set, bl_set] at h
          rw [show bl (fun p => inRg b.m p && !(decide (p < i + 1) && inRg b.r p)) = bl (fun p => if p = i then v else inRg b.m p && !(decide (p < i) && inRg b.r p)) from bl_congr fun p _ => by
            by_cases e : p = i
            · subst e
              rw [if_pos rfl, hv, decide_eq_true (Nat.lt_succ_self p), Bool.true_and]
            · rw [if_neg e, decide_eq_decide.2 (show p < i + 1 ↔ p < i by omega)]]
          exact h
        have HM : Hid (∀ v, ((wr.setCell ⟨g5, i, none⟩ (.bool v)).ownsRow w1.heap.size 4 1 (.slice (some ⟨g6, 0, none⟩) 256 c6) 256 ((bl (inRg b.r)).map vB))) := fun v => own_set hown6.out (by simp [Value.ownBlock]; exact fun h => hne h.symm) _
        have hz := hbw1.size
        clear hown5 hown6 hcg e5 e6 eg
        cases hm : inRg b.m i with
        | false =>
          rw [hm] at hc5
          go_wp2
          go_roundw
          case rel => exact ⟨i + 1, by omega, by go_num, HN.out _ (by rw [hm]; rfl), HM.out _, hb3.setCell (by simp only; omega) _⟩
          case measure => simp [intOf]; omega
        | true =>
          rw [hm] at hc5
          cases hr : inRg b.r i with
          | false =>
            rw [hr] at hc6
            go_wp2
            go_roundw
            case rel => exact ⟨i + 1, by omega, by go_num, HN.out _ (by rw [hm, hr]; rfl), HM.out _, hb3.setCell (by simp only; omega) _⟩
            case measure => simp [intOf]; omega
          | true =>
            rw [hr] at hc6
            go_wp2
            go_roundw
            case rel => exact ⟨i + 1, by omega, by go_num, HN.out _ (by rw [hm, hr]; rfl), HM.out _, hb3.setCell (by simp only; omega) _⟩
            case measure => simp [intOf]; omega
      · obtain rfl : i = 256 := by omega
        have hrow := own_row hown5.out
        clear hown5 hown6
        go_wp2_with fail
        refine (regions_any _ _ _ _ hrow).mono ?_
        rw [show regionsOf (fun p => inRg b.m p && !(decide (p < 256) && inRg b.r p)) = F from by
          rw [← HF.out]
          exact regionsOf_congr fun p hp => by rw [decide_eq_true hp, Bool.true_and]; rfl]
        rintro e w5 ⟨a', c', rfl, hown5, hb6⟩
        have H5 := Hid.mk (own_base hown5 hb3.size)
        clear hown5
        go_wp2
        go_ret2
        exact ⟨a', c', rfl, H5.out, Below.step hb3 hb6⟩
end Go.Proofs.Yteonmoncofcajaa
