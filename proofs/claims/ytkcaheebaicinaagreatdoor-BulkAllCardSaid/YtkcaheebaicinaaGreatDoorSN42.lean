/- Pp12, Pp15, Boot8, Hn: texts of this claim, joined. -/
import Derived.Test.YtkcaheebaicinaaGreatDoorSN11
import Derived.Test.YtkcaheebaicinaaGreatDoorSN23
import Derived.Test.YtkcaheebaicinaaGreatDoorSN34
import Derived.Test.YtkcaheebaicinaaGreatDoorSN35
import Derived.Test.YtkcaheebaicinaaGreatDoorSN41
import Derived.Lib.SliceRun
import Derived.Deep.RegionHeld3
import Derived.Deep.DeepCutAuto
/- Contract of package pages: attempt, on the heap behind a pointer. -/
namespace Go.Proofs.YtkcaheebaicinaaGreatDoor
open Go.RowKit
set_option linter.unusedVariables false

/-- what is left to try -/
def Hp.tries (h : Hp) (cpu order t : Nat) (u lo : Bool) : Nat → Option (Hp × Nat)
  | 0 => none
  | r + 1 => match h.ask cpu r order t u lo with
    | some x => some x
    | none => Hp.tries h cpu order t u lo r
theorem attempt_tries (h : Hp) (cpu order t : Nat) (u lo : Bool) : h.attempt cpu order t u lo = h.tries cpu order t u lo (if lo then 1 else 2) := by
  unfold Hp.attempt
  cases lo with
  | true =>
    simp only [if_true, Hp.tries]
    cases h.ask cpu 0 order t u true <;> rfl
  | false =>
    simp only [Bool.false_eq_true, if_false, Hp.tries]
    cases h.ask cpu 1 order t u false with
    | some x => rfl
    | none => simp only; cases h.ask cpu 0 order t u false <;> rfl

set_option maxHeartbeats 8000000 in
set_option maxRecDepth 100000 in
theorem attempt_pg (G cpu order t flags : Nat) (X : Nat → Prop) (h : Hp) (c : Hc) (w : World) (hs : HS w G X h c) (hk : HOk h) (hc : cpu < h.cpus) (hor : order ≤ 4) (ht : t < 3) (hf : flags ≤ 15) (ho : Oth w) (hx0 : X 1) :
    Calls Tryz.prog 79 #[.pointer (some ⟨G, 0, none⟩), .int .i64 cpu, .int .i64 order, .int .i64 t, .int .i64 flags] w (Res (h.attempt cpu order t (decide (flags / 8 % 2 = 1)) (decide (flags % 2 = 1))) G X h c w) := by
  obtain ⟨K4, F4, hsz, hbw⟩ := boxes1 w #[.int .i64 1, .int .i64 0] 3
  have HS0 := Hid.mk (hs.new hbw)
  have HSF0 := Hid.mk (Safe.ofBelow (X := X) hbw)
  have HO0 := Hid.mk (ho.below hbw)
  have HK := Hid.mk hk
  have KZ := Hid.mk K4
  have HXW := Hid.mk hs.r.xs
  obtain ⟨hb8, hb1⟩ := and_bits flags hf
  have HA := Hid.mk (attempt_tries h cpu order t (decide (flags / 8 % 2 = 1)) (decide (flags % 2 = 1)))
  clear hs hk hbw ho K4 F4
  by_cases hlo : flags % 2 = 1
  · rw [if_pos hlo] at hb1
    have HA2 : Hid (h.attempt cpu order t (decide (flags / 8 % 2 = 1)) (decide (flags % 2 = 1)) = h.tries cpu order t (decide (flags / 8 % 2 = 1)) (decide (flags % 2 = 1)) 1) := by
      unfold Hid
      rw [HA.out]
      congr 1
      simp [hlo]
    go_enter Tryz.func79, Tryz.ntmps79
    go_wp2_with fail
    generalize w.alloc (.cells #[.int .i64 1, .int .i64 0] 3) = w1 at *
    go_loopw [25] (fun s25 wr => ∃ i : Nat, i ≤ 1 ∧ s25 = .int .i64 (i : Int) ∧ Hid (HS wr G (fun k => X k ∨ (w.heap.size ≤ k ∧ k < w1.heap.size)) h c) ∧ Hid (Safe (fun k => X k ∨ (w.heap.size ≤ k ∧ k < w1.heap.size)) w1 wr) ∧ Hid (h.attempt cpu order t (decide (flags / 8 % 2 = 1)) (decide (flags % 2 = 1)) = h.tries cpu order t (decide (flags / 8 % 2 = 1)) (decide (flags % 2 = 1)) (1 - i))) (fun s25 _ => 1 - (intOf s25).toNat)
    case atStart => exact ⟨0, by omega, rfl, HS0, Safe.refl _ _, HA2⟩
    case round =>
      obtain ⟨i, hi, rfl, HSr, SFr, HTR⟩ := hrel
      clear HA HA2
      have HOr := Hid.mk (HO0.out.safe SFr.out (Or.inl hx0))
      have KZr := SFr.out.box KZ.out hsz (show (fun k => X k ∨ (w.heap.size ≤ k ∧ k < w1.heap.size)) w.heap.size from .inr ⟨Nat.le_refl _, hsz⟩)
      have z0 := KZr 0
      have z1 := KZr 1
      simp only [List.getElem?_toArray, List.getElem?_cons_zero, List.getElem?_cons_succ] at z0 z1
      clear KZr
      obtain rfl | rfl : i = 0 ∨ i = 1 := by omega
      · skip
        have HRT : Hid (h.attempt cpu order t (decide (flags / 8 % 2 = 1)) (decide (flags % 2 = 1)) = match h.ask cpu 0 order t (decide (flags / 8 % 2 = 1)) (decide (flags % 2 = 1)) with
          | some x => some x
          | none => h.tries cpu order t (decide (flags / 8 % 2 = 1)) (decide (flags % 2 = 1)) 0) := HTR.out
        by_cases h0 : order = 0
        · have d0 : ((order : Int) == 0) = true := by rw [beq_iff_eq]; omega
          have H0 := Hid.mk h0
          clear h0
          go_wp2_with fail
          refine (single_pg G cpu 0 t flags (fun k => X k ∨ (w.heap.size ≤ k ∧ k < w1.heap.size)) h c wr HSr.out HK.out hc (by omega) ht hf HOr.out (Or.inl hx0)).mono ?_
          rintro ev w4 (⟨hno, rfl, hs', sf'⟩ | ⟨h', a, c', hso, rfl, hs', sf'⟩)
          · have HN : Hid (h.ask cpu 0 order t (decide (flags / 8 % 2 = 1)) (decide (flags % 2 = 1)) = none) := by
              unfold Hid Hp.ask
              rw [if_pos H0.out]
              exact hno
            have HRT2 : Hid (h.attempt cpu order t (decide (flags / 8 % 2 = 1)) (decide (flags % 2 = 1)) = h.tries cpu order t (decide (flags / 8 % 2 = 1)) (decide (flags % 2 = 1)) (1 - 1)) := by
              unfold Hid
              rw [HRT.out, HN.out]
            have HS4 := Hid.mk hs'
            have SF4 := Hid.mk (SFr.out.trans sf')
            clear hno hs' sf'
            go_wp2
            go_roundw
            case rel => exact ⟨1, by omega, by go_num, HS4, SF4, HRT2⟩
            case measure => simp [intOf]
          · have HN : Hid (h.attempt cpu order t (decide (flags / 8 % 2 = 1)) (decide (flags % 2 = 1)) = some (h', a)) := by
              have e : h.ask cpu 0 order t (decide (flags / 8 % 2 = 1)) (decide (flags % 2 = 1)) = some (h', a) := by
                unfold Hp.ask
                rw [if_pos H0.out]
                exact hso
              unfold Hid
              rw [HRT.out, e]
            have HS4 := Hid.mk (hs'.sub (Y := X) fun k hk => .inl hk)
            have SF4 := Hid.mk (HSF0.out.trans ((SFr.out.trans sf').sub fun k _ hk => .inl hk))
            clear hso hs' sf'
            go_wp2
            go_ret2
            exact .inr ⟨h', a, c', HN.out, rfl, HS4.out, SF4.out⟩
        · have d0 : ((order : Int) == 0) = false := by rw [beq_eq_false_iff_ne]; omega
          have H0 := Hid.mk h0
          clear h0
          go_wp2_with fail
          refine (take_pg G 0 order t flags (fun k => X k ∨ (w.heap.size ≤ k ∧ k < w1.heap.size)) h c wr HSr.out HK.out (by omega) hor ht hf HOr.out).mono ?_
          rintro ev w4 (⟨hno, rfl, hs', sf'⟩ | ⟨h', a, y0', y1', hso, rfl, hs', sf'⟩)
          · have HN : Hid (h.ask cpu 0 order t (decide (flags / 8 % 2 = 1)) (decide (flags % 2 = 1)) = none) := by
              unfold Hid Hp.ask
              rw [if_neg H0.out]
              exact hno
            have HRT2 : Hid (h.attempt cpu order t (decide (flags / 8 % 2 = 1)) (decide (flags % 2 = 1)) = h.tries cpu order t (decide (flags / 8 % 2 = 1)) (decide (flags % 2 = 1)) (1 - 1)) := by
              unfold Hid
              rw [HRT.out, HN.out]
            have HS4 := Hid.mk hs'
            have SF4 := Hid.mk (SFr.out.trans sf')
            clear hno hs' sf'
            go_wp2
            go_roundw
            case rel => exact ⟨1, by omega, by go_num, HS4, SF4, HRT2⟩
            case measure => simp [intOf]
          · have HN : Hid (h.attempt cpu order t (decide (flags / 8 % 2 = 1)) (decide (flags % 2 = 1)) = some (h', a)) := by
              have e : h.ask cpu 0 order t (decide (flags / 8 % 2 = 1)) (decide (flags % 2 = 1)) = some (h', a) := by
                unfold Hp.ask
                rw [if_neg H0.out]
                exact hso
              unfold Hid
              rw [HRT.out, e]
            have HS4 := Hid.mk (hs'.sub (Y := X) fun k hk => .inl hk)
            have SF4 := Hid.mk (HSF0.out.trans ((SFr.out.trans sf').sub fun k _ hk => .inl hk))
            clear hso hs' sf'
            go_wp2
            go_ret2
            exact .inr ⟨h', a, _, HN.out, rfl, HS4.out, SF4.out⟩
      · have HS4 := Hid.mk (HSr.out.sub (Y := X) fun k hk => .inl hk)
        have SF4 := Hid.mk (HSF0.out.trans (SFr.out.sub fun k _ hk => .inl hk))
        go_wp2
        go_ret2
        exact .inl ⟨HTR.out, rfl, HS4.out, SF4.out⟩
  · rw [if_neg hlo] at hb1
    have HA2 : Hid (h.attempt cpu order t (decide (flags / 8 % 2 = 1)) (decide (flags % 2 = 1)) = h.tries cpu order t (decide (flags / 8 % 2 = 1)) (decide (flags % 2 = 1)) 2) := by
      unfold Hid
      rw [HA.out]
      congr 1
      simp [hlo]
    go_enter Tryz.func79, Tryz.ntmps79
    go_wp2_with fail
    generalize w.alloc (.cells #[.int .i64 1, .int .i64 0] 3) = w1 at *
    go_loopw [25] (fun s25 wr => ∃ i : Nat, i ≤ 2 ∧ s25 = .int .i64 (i : Int) ∧ Hid (HS wr G (fun k => X k ∨ (w.heap.size ≤ k ∧ k < w1.heap.size)) h c) ∧ Hid (Safe (fun k => X k ∨ (w.heap.size ≤ k ∧ k < w1.heap.size)) w1 wr) ∧ Hid (h.attempt cpu order t (decide (flags / 8 % 2 = 1)) (decide (flags % 2 = 1)) = h.tries cpu order t (decide (flags / 8 % 2 = 1)) (decide (flags % 2 = 1)) (2 - i))) (fun s25 _ => 2 - (intOf s25).toNat)
    case atStart => exact ⟨0, by omega, rfl, HS0, Safe.refl _ _, HA2⟩
    case round =>
      obtain ⟨i, hi, rfl, HSr, SFr, HTR⟩ := hrel
      clear HA HA2
      have HOr := Hid.mk (HO0.out.safe SFr.out (Or.inl hx0))
      have KZr := SFr.out.box KZ.out hsz (show (fun k => X k ∨ (w.heap.size ≤ k ∧ k < w1.heap.size)) w.heap.size from .inr ⟨Nat.le_refl _, hsz⟩)
      have z0 := KZr 0
      have z1 := KZr 1
      simp only [List.getElem?_toArray, List.getElem?_cons_zero, List.getElem?_cons_succ] at z0 z1
      clear KZr
      obtain rfl | rfl | rfl : i = 0 ∨ i = 1 ∨ i = 2 := by omega
      · skip
        have HRT : Hid (h.attempt cpu order t (decide (flags / 8 % 2 = 1)) (decide (flags % 2 = 1)) = match h.ask cpu 1 order t (decide (flags / 8 % 2 = 1)) (decide (flags % 2 = 1)) with
          | some x => some x
          | none => h.tries cpu order t (decide (flags / 8 % 2 = 1)) (decide (flags % 2 = 1)) 1) := HTR.out
        by_cases h0 : order = 0
        · have d0 : ((order : Int) == 0) = true := by rw [beq_iff_eq]; omega
          have H0 := Hid.mk h0
          clear h0
          go_wp2_with fail
          refine (single_pg G cpu 1 t flags (fun k => X k ∨ (w.heap.size ≤ k ∧ k < w1.heap.size)) h c wr HSr.out HK.out hc (by omega) ht hf HOr.out (Or.inl hx0)).mono ?_
          rintro ev w4 (⟨hno, rfl, hs', sf'⟩ | ⟨h', a, c', hso, rfl, hs', sf'⟩)
          · have HN : Hid (h.ask cpu 1 order t (decide (flags / 8 % 2 = 1)) (decide (flags % 2 = 1)) = none) := by
              unfold Hid Hp.ask
              rw [if_pos H0.out]
              exact hno
            have HRT2 : Hid (h.attempt cpu order t (decide (flags / 8 % 2 = 1)) (decide (flags % 2 = 1)) = h.tries cpu order t (decide (flags / 8 % 2 = 1)) (decide (flags % 2 = 1)) (2 - 1)) := by
              unfold Hid
              rw [HRT.out, HN.out]
            have HS4 := Hid.mk hs'
            have SF4 := Hid.mk (SFr.out.trans sf')
            clear hno hs' sf'
            go_wp2
            go_roundw
            case rel => exact ⟨1, by omega, by go_num, HS4, SF4, HRT2⟩
            case measure => simp [intOf]
          · have HN : Hid (h.attempt cpu order t (decide (flags / 8 % 2 = 1)) (decide (flags % 2 = 1)) = some (h', a)) := by
              have e : h.ask cpu 1 order t (decide (flags / 8 % 2 = 1)) (decide (flags % 2 = 1)) = some (h', a) := by
                unfold Hp.ask
                rw [if_pos H0.out]
                exact hso
              unfold Hid
              rw [HRT.out, e]
            have HS4 := Hid.mk (hs'.sub (Y := X) fun k hk => .inl hk)
            have SF4 := Hid.mk (HSF0.out.trans ((SFr.out.trans sf').sub fun k _ hk => .inl hk))
            clear hso hs' sf'
            go_wp2
            go_ret2
            exact .inr ⟨h', a, c', HN.out, rfl, HS4.out, SF4.out⟩
        · have d0 : ((order : Int) == 0) = false := by rw [beq_eq_false_iff_ne]; omega
          have H0 := Hid.mk h0
          clear h0
          go_wp2_with fail
          refine (take_pg G 1 order t flags (fun k => X k ∨ (w.heap.size ≤ k ∧ k < w1.heap.size)) h c wr HSr.out HK.out (by omega) hor ht hf HOr.out).mono ?_
          rintro ev w4 (⟨hno, rfl, hs', sf'⟩ | ⟨h', a, y0', y1', hso, rfl, hs', sf'⟩)
          · have HN : Hid (h.ask cpu 1 order t (decide (flags / 8 % 2 = 1)) (decide (flags % 2 = 1)) = none) := by
              unfold Hid Hp.ask
              rw [if_neg H0.out]
              exact hno
            have HRT2 : Hid (h.attempt cpu order t (decide (flags / 8 % 2 = 1)) (decide (flags % 2 = 1)) = h.tries cpu order t (decide (flags / 8 % 2 = 1)) (decide (flags % 2 = 1)) (2 - 1)) := by
              unfold Hid
              rw [HRT.out, HN.out]
            have HS4 := Hid.mk hs'
            have SF4 := Hid.mk (SFr.out.trans sf')
            clear hno hs' sf'
            go_wp2
            go_roundw
            case rel => exact ⟨1, by omega, by go_num, HS4, SF4, HRT2⟩
            case measure => simp [intOf]
          · have HN : Hid (h.attempt cpu order t (decide (flags / 8 % 2 = 1)) (decide (flags % 2 = 1)) = some (h', a)) := by
              have e : h.ask cpu 1 order t (decide (flags / 8 % 2 = 1)) (decide (flags % 2 = 1)) = some (h', a) := by
                unfold Hp.ask
                rw [if_neg H0.out]
                exact hso
              unfold Hid
              rw [HRT.out, e]
            have HS4 := Hid.mk (hs'.sub (Y := X) fun k hk => .inl hk)
            have SF4 := Hid.mk (HSF0.out.trans ((SFr.out.trans sf').sub fun k _ hk => .inl hk))
            clear hso hs' sf'
            go_wp2
            go_ret2
            exact .inr ⟨h', a, _, HN.out, rfl, HS4.out, SF4.out⟩
      · skip
        have HRT : Hid (h.attempt cpu order t (decide (flags / 8 % 2 = 1)) (decide (flags % 2 = 1)) = match h.ask cpu 0 order t (decide (flags / 8 % 2 = 1)) (decide (flags % 2 = 1)) with
          | some x => some x
          | none => h.tries cpu order t (decide (flags / 8 % 2 = 1)) (decide (flags % 2 = 1)) 0) := HTR.out
        by_cases h0 : order = 0
        · have d0 : ((order : Int) == 0) = true := by rw [beq_iff_eq]; omega
          have H0 := Hid.mk h0
          clear h0
          go_wp2_with fail
          refine (single_pg G cpu 0 t flags (fun k => X k ∨ (w.heap.size ≤ k ∧ k < w1.heap.size)) h c wr HSr.out HK.out hc (by omega) ht hf HOr.out (Or.inl hx0)).mono ?_
          rintro ev w4 (⟨hno, rfl, hs', sf'⟩ | ⟨h', a, c', hso, rfl, hs', sf'⟩)
          · have HN : Hid (h.ask cpu 0 order t (decide (flags / 8 % 2 = 1)) (decide (flags % 2 = 1)) = none) := by
              unfold Hid Hp.ask
              rw [if_pos H0.out]
              exact hno
            have HRT2 : Hid (h.attempt cpu order t (decide (flags / 8 % 2 = 1)) (decide (flags % 2 = 1)) = h.tries cpu order t (decide (flags / 8 % 2 = 1)) (decide (flags % 2 = 1)) (2 - 2)) := by
              unfold Hid
              rw [HRT.out, HN.out]
            have HS4 := Hid.mk hs'
            have SF4 := Hid.mk (SFr.out.trans sf')
            clear hno hs' sf'
            go_wp2
            go_roundw
            case rel => exact ⟨2, by omega, by go_num, HS4, SF4, HRT2⟩
            case measure => simp [intOf]
          · have HN : Hid (h.attempt cpu order t (decide (flags / 8 % 2 = 1)) (decide (flags % 2 = 1)) = some (h', a)) := by
              have e : h.ask cpu 0 order t (decide (flags / 8 % 2 = 1)) (decide (flags % 2 = 1)) = some (h', a) := by
                unfold Hp.ask
                rw [if_pos H0.out]
                exact hso
              unfold Hid
              rw [HRT.out, e]
            have HS4 := Hid.mk (hs'.sub (Y := X) fun k hk => .inl hk)
            have SF4 := Hid.mk (HSF0.out.trans ((SFr.out.trans sf').sub fun k _ hk => .inl hk))
            clear hso hs' sf'
            go_wp2
            go_ret2
            exact .inr ⟨h', a, c', HN.out, rfl, HS4.out, SF4.out⟩
        · have d0 : ((order : Int) == 0) = false := by rw [beq_eq_false_iff_ne]; omega
          have H0 := Hid.mk h0
          clear h0
          go_wp2_with fail
          refine (take_pg G 0 order t flags (fun k => X k ∨ (w.heap.size ≤ k ∧ k < w1.heap.size)) h c wr HSr.out HK.out (by omega) hor ht hf HOr.out).mono ?_
          rintro ev w4 (⟨hno, rfl, hs', sf'⟩ | ⟨h', a, y0', y1', hso, rfl, hs', sf'⟩)
          · have HN : Hid (h.ask cpu 0 order t (decide (flags / 8 % 2 = 1)) (decide (flags % 2 = 1)) = none) := by
              unfold Hid Hp.ask
              rw [if_neg H0.out]
              exact hno
            have HRT2 : Hid (h.attempt cpu order t (decide (flags / 8 % 2 = 1)) (decide (flags % 2 = 1)) = h.tries cpu order t (decide (flags / 8 % 2 = 1)) (decide (flags % 2 = 1)) (2 - 2)) := by
              unfold Hid
              rw [HRT.out, HN.out]
            have HS4 := Hid.mk hs'
            have SF4 := Hid.mk (SFr.out.trans sf')
            clear hno hs' sf'
            go_wp2
            go_roundw
            case rel => exact ⟨2, by omega, by go_num, HS4, SF4, HRT2⟩
            case measure => simp [intOf]
          · have HN : Hid (h.attempt cpu order t (decide (flags / 8 % 2 = 1)) (decide (flags % 2 = 1)) = some (h', a)) := by
              have e : h.ask cpu 0 order t (decide (flags / 8 % 2 = 1)) (decide (flags % 2 = 1)) = some (h', a) := by
                unfold Hp.ask
                rw [if_neg H0.out]
                exact hso
              unfold Hid
              rw [HRT.out, e]
            have HS4 := Hid.mk (hs'.sub (Y := X) fun k hk => .inl hk)
            have SF4 := Hid.mk (HSF0.out.trans ((SFr.out.trans sf').sub fun k _ hk => .inl hk))
            clear hso hs' sf'
            go_wp2
            go_ret2
            exact .inr ⟨h', a, _, HN.out, rfl, HS4.out, SF4.out⟩
      · have HS4 := Hid.mk (HSr.out.sub (Y := X) fun k hk => .inl hk)
        have SF4 := Hid.mk (HSF0.out.trans (SFr.out.sub fun k _ hk => .inl hk))
        go_wp2
        go_ret2
        exact .inl ⟨HTR.out, rfl, HS4.out, SF4.out⟩
end Go.Proofs.YtkcaheebaicinaaGreatDoor
/- Contract of package pages: Drain. -/
namespace Go.Proofs.YtkcaheebaicinaaGreatDoor
open Go.RowKit
set_option linter.unusedVariables false

end Go.Proofs.YtkcaheebaicinaaGreatDoor
/- Contracts of package boot: Ranges. -/
namespace Go.Proofs.YtkcaheebaicinaaGreatDoor
open Go.RowKit
set_option linter.unusedVariables false

/-- the pages that are there and not reserved -/
def freeF (b : Bt) (p : Nat) : Bool := inRg b.m p && !inRg b.r p
def freeOf (b : Bt) : List Rg := regionsOf (freeF b)

set_option maxHeartbeats 2000000 in
set_option maxRecDepth 100000 in
theorem ranges_ok (a1 a2 : Option Addr) (n1 n2 c1 c2 : Nat) (b : Bt) (w : World) (hat : BtAt w a1 a2 n1 n2 b) (h1 : listOk b.m = true) (h2 : listOk b.r = true) :
    Calls Tryz.prog 19 #[.agg #[.slice a1 n1 c1, .slice a2 n2 c2]] w fun e w' => ∃ a' c', e = .returned (.tuple #[.slice a' (freeOf b).length c', .int .i64 0]) ∧ w'.ownsRow w.heap.size 24 2 (.slice a' (freeOf b).length c') (freeOf b).length (flat encRg (freeOf b)) ∧ Below w.heap.size w w' := by
  have hb1 := listOk_len h1
  have hb2 := listOk_len h2
  obtain ⟨K0, F0, hsz, hbw⟩ := boxes1 w #[.slice a1 n1 c1, .slice a2 n2 c2] 27
  obtain ⟨l1, l2, q1, q2⟩ := hat.below hbw
  have hsm1 := listOk_small h1
  have hsm2 := listOk_small h2
  have hok1 := listOk_all h1
  have hok2 := listOk_all h2
  generalize hF : freeOf b = F
  have HF := Hid.mk hF
  clear hat hF
  go_enter Tryz.func19, Tryz.ntmps19
  go_wp2_with fail
  generalize w.alloc (.cells #[.slice a1 n1 c1, .slice a2 n2 c2] 27) = w0 at *
  refine (bootCheck_ok _ _ _ _ _ _ b.m b.r _ l1 l2 (by omega) (by omega) q1 q2 hsm1 hsm2 h1 h2).mono ?_
  rintro e w1 ⟨rfl, hb1'⟩
  have K0a := box_step K0 hsz hb1'
  have q1a := q1.below hb1'
  have q2a := q2.below hb1'
  have hbw1 := Below.step hbw hb1'
  have hsz1 : w.heap.size < w1.heap.size := Nat.lt_of_lt_of_le hsz hb1'.size
  clear K0 F0 q1 q2 hsm1 hsm2 hb1' h1 h2
  have LK0 : ∀ W, Below w1.heap.size w1 W → ∀ o, W.cell? ⟨w.heap.size, o, none⟩ = (#[.slice a1 n1 c1, .slice a2 n2 c2] : Array Value)[o]? := fun W h o => box_step K0a hsz1 h o
  go_upto_region 4 with fail
  go_cut [5, 6] (fun s5 s6 wx => ∃ (g5 g6 : Nat) (c5 c6 : Nat), s5 = .slice (some ⟨g5, 0, none⟩) 256 c5 ∧ s6 = .slice (some ⟨g6, 0, none⟩) 256 c6 ∧ wx.ownsRow w1.heap.size 4 1 (.slice (some ⟨g5, 0, none⟩) 256 c5) 256 ((bl (inRg b.m)).map vB) ∧ wx.ownsRow w1.heap.size 4 1 (.slice (some ⟨g6, 0, none⟩) 256 c6) 256 ((bl (inRg b.r)).map vB) ∧ g5 ≠ g6 ∧ Below w1.heap.size w1 wx)
  case first =>
    go_region_held3 (fun W => Below w1.heap.size w1 W) ((repeat (first | assumption | exact Below.refl _ _ | apply Below.drew | refine Below.step ?_ (by assumption)))) (first | (go_at_call_of 51 (Value.slice a1 n1 c1); refine (pages_any _ _ _ b.m _ l1 (q1a.below (by assumption)) hok1 (by omega)).mono ?_; rintro e wm ⟨am, cm, rfl, hom, hbm⟩) | (go_at_call_of 51 (Value.slice a2 n2 c2); refine (pages_any _ _ _ b.r _ l2 (q2a.below (by assumption)) hok2 (by omega)).mono ?_; rintro e wr ⟨ar, cr, rfl, hor, hbr⟩))
    all_goals (go_wp2_with fail; go_meet)
    · obtain ⟨g5, _, rfl, hg5, hs5, _, _⟩ := own_cell hom 0 (by rw [List.length_map, bl_length]; omega)
      obtain ⟨g6, _, rfl, hg6, hs6, _, _⟩ := own_cell hor 0 (by rw [List.length_map, bl_length]; omega)
      exact ⟨g5, g6, cm, cr, rfl, rfl, own_base (own_below hom hbr (Nat.le_refl _)) (Nat.le_refl _), own_base hor (by have := hbm.size; simpa using this), by omega, by assumption⟩
  case rest =>
    obtain ⟨g5, g6, c5, c6, rfl, rfl, ho5, ho6, hne, hbx⟩ := hcut
    have hbw2 := Below.step hbw1 hbx
    have HO5 := Hid.mk ho5
    have HO6 := Hid.mk ho6
    clear LK0 K0a q1a q2a hok1 hok2 ho5 ho6
    go_wp2
    go_loopw [7, 21] (fun _ s21 wq => ∃ i : Nat, i ≤ 256 ∧ s21 = .int .i64 i ∧ Hid (wq.ownsRow w1.heap.size 4 1 (.slice (some ⟨g5, 0, none⟩) 256 c5) 256 ((bl (fun p => inRg b.m p && !(decide (p < i) && inRg b.r p))).map vB)) ∧ Hid (wq.ownsRow w1.heap.size 4 1 (.slice (some ⟨g6, 0, none⟩) 256 c6) 256 ((bl (inRg b.r)).map vB)) ∧ Below w.heap.size w wq) (fun _ s21 _ => 256 - (intOf s21).toNat)
    case atStart =>
      refine ⟨0, by omega, rfl, ?_, HO6, hbw2⟩
      rw [show bl (fun p => inRg b.m p && !(decide (p < 0) && inRg b.r p)) = bl (inRg b.m) from bl_congr fun p _ => by simp]
      exact HO5
    case round =>
      obtain ⟨i, hi, rfl, hown5, hown6, hb3⟩ := hrel
      clear HO5 HO6
      by_cases hlt : i < 256
      · obtain ⟨b5, off5, e5, hb5, hc5⟩ := bool_at (own_row hown5.out) hlt
        obtain ⟨rfl, rfl⟩ : g5 = b5 ∧ 0 = off5 := by simpa using e5
        obtain ⟨b6, off6, e6, hb6, hc6⟩ := bool_at (own_row hown6.out) hlt
        obtain ⟨rfl, rfl⟩ : g6 = b6 ∧ 0 = off6 := by simpa using e6
        obtain ⟨g, v, eg, hg, hgs, hcg, hfg⟩ := own_cell hown5.out i (by rw [List.length_map, bl_length]; omega)
        obtain rfl : g5 = g := by simpa using eg
        rw [decide_eq_false (show ¬ i < i by omega), Bool.false_and, Bool.not_false, Bool.and_true, Nat.zero_add] at hc5
        rw [Nat.zero_add] at hc6
        have HN : Hid (∀ v, v = (inRg b.m i && !inRg b.r i) → ((wr.setCell ⟨g5, i, none⟩ (.bool v)).ownsRow w1.heap.size 4 1 (.slice (some ⟨g5, 0, none⟩) 256 c5) 256 ((bl (fun p => inRg b.m p && !(decide (p < i + 1) && inRg b.r p))).map vB))) := fun v hv => by
          have h := (World.ownsRow.stored hown5.out i (vB v)).1
          rw [← List.map_set, bl_set] at h
          rw [show bl (fun p => inRg b.m p && !(decide (p < i + 1) && inRg b.r p)) = bl (fun p => if p = i then v else inRg b.m p && !(decide (p < i) && inRg b.r p)) from bl_congr fun p _ => by
            by_cases e : p = i
            · subst e
              rw [if_pos rfl, hv, decide_eq_true (Nat.lt_succ_self p), Bool.true_and]
            · rw [if_neg e, decide_eq_decide.2 (show p < i + 1 ↔ p < i by omega)]]
          exact h
        have HM : Hid (∀ v, ((wr.setCell ⟨g5, i, none⟩ (.bool v)).ownsRow w1.heap.size 4 1 (.slice (some ⟨g6, 0, none⟩) 256 c6) 256 ((bl (inRg b.r)).map vB))) := fun v => own_set hown6.out (by simp [Value.ownBlock]; exact fun h => hne h.symm) _
        have hz := hbw1.size
        clear hown5 hown6 hcg e5 e6 eg
        cases hm : inRg b.m i with
        | false =>
          rw [hm] at hc5
          go_wp2
          go_roundw
          case rel => exact ⟨i + 1, by omega, by go_num, HN.out _ (by rw [hm]; rfl), HM.out _, hb3.setCell (by simp only; omega) _⟩
          case measure => simp [intOf]; omega
        | true =>
          rw [hm] at hc5
          cases hr : inRg b.r i with
          | false =>
            rw [hr] at hc6
            go_wp2
            go_roundw
            case rel => exact ⟨i + 1, by omega, by go_num, HN.out _ (by rw [hm, hr]; rfl), HM.out _, hb3.setCell (by simp only; omega) _⟩
            case measure => simp [intOf]; omega
          | true =>
            rw [hr] at hc6
            go_wp2
            go_roundw
            case rel => exact ⟨i + 1, by omega, by go_num, HN.out _ (by rw [hm, hr]; rfl), HM.out _, hb3.setCell (by simp only; omega) _⟩
            case measure => simp [intOf]; omega
      · obtain rfl : i = 256 := by omega
        have hrow := own_row hown5.out
        clear hown5 hown6
        go_wp2_with fail
        refine (regions_any _ _ _ _ hrow).mono ?_
        rw [show regionsOf (fun p => inRg b.m p && !(decide (p < 256) && inRg b.r p)) = F from by
          rw [← HF.out]
          exact regionsOf_congr fun p hp => by rw [decide_eq_true hp, Bool.true_and]; rfl]
        rintro e w5 ⟨a', c', rfl, hown5, hb6⟩
        have H5 := Hid.mk (own_base hown5 hb3.size)
        clear hown5
        go_wp2
        go_ret2
        exact ⟨a', c', rfl, H5.out, Below.step hb3 hb6⟩
end Go.Proofs.YtkcaheebaicinaaGreatDoor
/- A new heap of pages, in plain words. No program in sight. -/
namespace Go.Proofs.YtkcaheebaicinaaGreatDoor
set_option linter.unusedVariables false
def Rg.lo (r : Rg) (split : Nat) : Nat := min (r.f.toNat + r.s.toNat) split - r.f.toNat
def newStep (split : Nat) (z : Zn × Zn) (r : Rg) : Zn × Zn := (giveTo z.1 r.f.toNat (r.lo split), giveTo z.2 (r.f.toNat + r.lo split) (r.s.toNat - r.lo split))
def newZs (split : Nat) (l : List Rg) : Zn × Zn := l.foldl (newStep split) (⟨0, split, [], List.replicate (split / 8) 1⟩, ⟨split, 256, [], List.replicate ((256 - split) / 8) 1⟩)
def newH (l : List Rg) (split least cpus : Nat) : Hp := ⟨(newZs split l).1, (newZs split l).2, least, least, cpus, [], []⟩

theorem rg_pairs : ∀ (l : List Rg) (q : Option Rg), rgFrom q l = true → l.Pairwise fun a b => a.f + a.s < b.f
  | [], _, _ => List.Pairwise.nil
  | r :: l, q, h => by
    simp only [rgFrom, Bool.and_eq_true] at h
    exact List.Pairwise.cons (rgFrom_low l r h.2) (rg_pairs l _ h.2)
structure NewInv (split : Nat) (l : List Rg) (z : Zn × Zn) : Prop where
  o0 : z.1.ok
  o1 : z.2.ok
  f0 : z.1.f = 0
  e0 : z.1.e = split
  f1 : z.2.f = split
  e1 : z.2.e = 256
  c0 : ∀ q, covL z.1.l q ↔ (q < split ∧ inRg l q = true)
  c1 : ∀ q, covL z.2.l q ↔ (split ≤ q ∧ inRg l q = true)
theorem zn_empty {f e : Nat} (h1 : f ≤ e) (h2 : e ≤ 256) (h3 : f % 16 = 0) (h4 : e % 16 = 0) : (⟨f, e, [], List.replicate ((e - f) / 8) 1⟩ : Zn).ok :=
  ⟨(okZ_iff _ _ _).2 ⟨h1, h2, h3, h4, by simp, fun t ht => by rw [(List.mem_replicate.1 ht).2]; omega⟩, (okL_iff _ _ _).2 ⟨by simp, List.Pairwise.nil, by simp⟩⟩
theorem newInv_nil {split : Nat} (h1 : split ≤ 256) (h2 : split % 16 = 0) : NewInv split [] (⟨0, split, [], List.replicate (split / 8) 1⟩, ⟨split, 256, [], List.replicate ((256 - split) / 8) 1⟩) :=
  ⟨zn_empty (Nat.zero_le _) h1 rfl h2, zn_empty h1 (Nat.le_refl _) h2 rfl, rfl, rfl, rfl, rfl, fun q => by simp [covL, inRg], fun q => by simp [covL, inRg]⟩
/-- what one region asks of both zones, and what comes of it -/
structure NewStep (split : Nat) (l : List Rg) (r : Rg) (z : Zn × Zn) : Prop where
  f : r.f = (r.f.toNat : Int)
  s : r.s = (r.s.toNat : Int)
  fs : r.f.toNat + r.s.toNat ≤ 256
  s1 : 1 ≤ r.s.toNat
  lo : r.lo split ≤ r.s.toNat
  le : 0 < r.lo split → r.f.toNat + r.lo split ≤ split
  hi : r.lo split < r.s.toNat → split ≤ r.f.toNat + r.lo split
  d0 : ∀ q, r.f.toNat ≤ q → q < r.f.toNat + r.lo split → ¬ covL z.1.l q
  d1 : ∀ q, r.f.toNat + r.lo split ≤ q → q < r.f.toNat + r.lo split + (r.s.toNat - r.lo split) → ¬ covL z.2.l q
  next : NewInv split (l ++ [r]) (newStep split z r)
theorem newInv_step {split : Nat} {l : List Rg} {r : Rg} {z : Zn × Zn} (h : NewInv split l z) (hck : ckRg r = true) (hlt : ∀ x ∈ l, x.f + x.s < r.f) (hsp : split ≤ 256) : NewStep split l r z := by
  have hc := ck_parts hck
  have hf : r.f = (r.f.toNat : Int) := by omega
  have hs : r.s = (r.s.toNat : Int) := by omega
  obtain ⟨F, hF⟩ : ∃ F, r.f.toNat = F := ⟨_, rfl⟩
  obtain ⟨S, hS⟩ : ∃ S, r.s.toNat = S := ⟨_, rfl⟩
  have hno : ∀ q, F ≤ q → inRg l q = false := fun q hq => by
    rw [Bool.eq_false_iff]
    intro hi
    obtain ⟨x, hx, h1, h2⟩ := (inRg_iff l q).1 hi
    have := hlt x hx
    omega
  have hone : ∀ q, inRg (l ++ [r]) q = true ↔ (inRg l q = true ∨ (F ≤ q ∧ q < F + S)) := fun q => by
    rw [inRg_append, inRg_one, Bool.or_eq_true]
    unfold inOne
    rw [decide_eq_true_eq]
    refine or_congr Iff.rfl ⟨fun h => ?_, fun h => ?_⟩ <;> omega
  have hlo : r.lo split = min (F + S) split - F := by unfold Rg.lo; rw [hF, hS]
  have d0 : ∀ q, F ≤ q → q < F + r.lo split → ¬ covL z.1.l q := fun q h1 h2 hc => by
    have := ((h.c0 q).1 hc).2
    rw [hno q h1] at this
    cases this
  have d1 : ∀ q, F + r.lo split ≤ q → q < F + r.lo split + (S - r.lo split) → ¬ covL z.2.l q := fun q h1 h2 hc => by
    have := ((h.c1 q).1 hc).2
    rw [hno q (by omega)] at this
    cases this
  rw [← hF] at d0 d1
  rw [← hS] at d1
  have g0 : (giveTo z.1 F (r.lo split)).ok ∧ (giveTo z.1 F (r.lo split)).f = z.1.f ∧ (giveTo z.1 F (r.lo split)).e = z.1.e ∧ ∀ q, covL (giveTo z.1 F (r.lo split)).l q ↔ (covL z.1.l q ∨ (F ≤ q ∧ q < F + r.lo split)) := by
    by_cases h0 : r.lo split = 0
    · rw [h0]
      refine ⟨h.o0, rfl, rfl, fun q => ⟨.inl, ?_⟩⟩
      rintro (h1 | h1)
      · exact h1
      · omega
    · rw [hF] at d0
      exact giveG_ok h.o0 d0 (by rw [h.f0]; exact Nat.zero_le _) (by rw [h.e0]; omega) _ (Nat.le_refl _)
  have g1 : (giveTo z.2 (F + r.lo split) (S - r.lo split)).ok ∧ (giveTo z.2 (F + r.lo split) (S - r.lo split)).f = z.2.f ∧ (giveTo z.2 (F + r.lo split) (S - r.lo split)).e = z.2.e ∧ ∀ q, covL (giveTo z.2 (F + r.lo split) (S - r.lo split)).l q ↔ (covL z.2.l q ∨ (F + r.lo split ≤ q ∧ q < F + r.lo split + (S - r.lo split))) := by
    by_cases h0 : S - r.lo split = 0
    · rw [h0]
      refine ⟨h.o1, rfl, rfl, fun q => ⟨.inl, ?_⟩⟩
      rintro (h1 | h1)
      · exact h1
      · omega
    · rw [hF, hS] at d1
      exact giveG_ok h.o1 d1 (by rw [h.f1]; omega) (by rw [h.e1]; omega) _ (Nat.le_refl _)
  refine ⟨hf, hs, by omega, by omega, by omega, by omega, by omega, d0, d1, ?_⟩
  unfold newStep
  rw [hF, hS]
  refine ⟨g0.1, g1.1, by rw [g0.2.1]; exact h.f0, by rw [g0.2.2.1]; exact h.e0, by rw [g1.2.1]; exact h.f1, by rw [g1.2.2.1]; exact h.e1, fun q => ?_, fun q => ?_⟩
  · simp only
    rw [g0.2.2.2, h.c0, hone]
    constructor
    · rintro (⟨h1, h2⟩ | h1)
      · exact ⟨h1, .inl h2⟩
      · exact ⟨by omega, .inr (by omega)⟩
    · rintro ⟨h1, h2 | h2⟩
      · exact .inl ⟨h1, h2⟩
      · exact .inr (by omega)
  · simp only
    rw [g1.2.2.2, h.c1, hone]
    constructor
    · rintro (⟨h1, h2⟩ | h1)
      · exact ⟨h1, .inl h2⟩
      · exact ⟨by omega, .inr (by omega)⟩
    · rintro ⟨h1, h2 | h2⟩
      · exact .inl ⟨h1, h2⟩
      · exact .inr (by omega)
theorem newZs_take (split : Nat) (l : List Rg) (k : Nat) (hk : k < l.length) : newZs split (l.take (k + 1)) = newStep split (newZs split (l.take k)) l[k] := by
  unfold newZs
  rw [List.take_succ_eq_append_getElem hk, List.foldl_append]
  rfl
theorem newInv_take {split : Nat} {l : List Rg} (hl : listOk l = true) (h1 : split ≤ 256) (h2 : split % 16 = 0) : ∀ k, k ≤ l.length → NewInv split (l.take k) (newZs split (l.take k))
  | 0, _ => newInv_nil h1 h2
  | k + 1, hk => by
    rw [newZs_take split l k hk, List.take_succ_eq_append_getElem hk]
    refine (newInv_step (newInv_take hl h1 h2 k (by omega)) (listOk_all hl _ (List.getElem_mem hk)) (fun x hx => ?_) h1).next
    simp only [listOk, Bool.and_eq_true] at hl
    obtain ⟨j, hj, rfl⟩ := List.mem_take_iff_getElem.1 hx
    exact List.pairwise_iff_getElem.1 (rg_pairs l none hl.2) _ _ _ hk (by omega)
theorem newInv_at {split : Nat} {l : List Rg} (hl : listOk l = true) (h1 : split ≤ 256) (h2 : split % 16 = 0) {k : Nat} (hk : k < l.length) : NewStep split (l.take k) l[k] (newZs split (l.take k)) := by
  refine newInv_step (newInv_take hl h1 h2 k (by omega)) (listOk_all hl _ (List.getElem_mem hk)) (fun x hx => ?_) h1
  simp only [listOk, Bool.and_eq_true] at hl
  obtain ⟨j, hj, rfl⟩ := List.mem_take_iff_getElem.1 hx
  exact List.pairwise_iff_getElem.1 (rg_pairs l none hl.2) _ _ _ hk (by omega)
/-- what a new heap is -/
theorem newH_ok {l : List Rg} (hl : listOk l = true) {split least cpus : Nat} (h1 : split ≤ 256) (h2 : split % 16 = 0) (h3 : least ≤ 256) (h4 : 1 ≤ cpus ∧ cpus ≤ 4) :
    HOk (newH l split least cpus) ∧ ∀ p, cnt (newH l split least cpus).all p = if inRg l p then 1 else 0 := by
  have hi := newInv_take hl h1 h2 l.length (Nat.le_refl _)
  rw [List.take_length] at hi
  have hc : ∀ p, cnt (newH l split least cpus).all p = if inRg l p then 1 else 0 := fun p => by
    rw [cnt_all]
    show cnt (newZs split l).1.l p + cnt (newZs split l).2.l p + 0 + 0 = _
    have a0 := cnt_apart (sep_apart hi.o0.2.sep) p
    have a1 := cnt_apart (sep_apart hi.o1.2.sep) p
    have b0 := (cnt_pos (l := (newZs split l).1.l) (p := p)).trans (hi.c0 p)
    have b1 := (cnt_pos (l := (newZs split l).2.l) (p := p)).trans (hi.c1 p)
    cases hp : inRg l p with
    | true =>
      simp only [hp, and_true] at b0 b1
      simp only [if_true]
      omega
    | false =>
      simp only [hp, Bool.false_eq_true, and_false, iff_false] at b0 b1
      simp
      omega
  refine ⟨⟨hi.o0, hi.o1, hi.f0, hi.e0.trans hi.f1.symm, hi.e1, h3, h3, h4, List.Pairwise.nil, by simp [newH], by simp [newH], List.Pairwise.nil, fun p => ?_⟩, hc⟩
  rw [hc]
  split <;> omega
end Go.Proofs.YtkcaheebaicinaaGreatDoor
