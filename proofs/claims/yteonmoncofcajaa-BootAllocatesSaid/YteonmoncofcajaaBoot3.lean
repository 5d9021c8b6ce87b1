/- Contracts of package boot: regions (of marked pages). -/
import Derived.Test.YteonmoncofcajaaRgs
namespace Go.Proofs.Yteonmoncofcajaa
open Go.RowKit
set_option linter.unusedVariables false

theorem info_rg : (Try.prog.info? 51).map (fun i => (i.zero, i.size, i.bytes)) = some (some (.agg #[.int .i64 0, .int .i64 0]), 2, 16) := by kernel_rfl
theorem encRg_one (l : List Rg) : ∀ u ∈ flat encRg l, u.oneCell' = true := by
  intro u hu
  obtain ⟨r, _, hr⟩ := List.mem_flatMap.1 hu
  simp only [encRg, List.mem_cons, List.not_mem_nil, or_false] at hr
  rcases hr with rfl | rfl <;> rfl

/-- cells of a new block -/
theorem row_new (w : World) (vs : List Value) (t : TypeId) : Row (w.alloc (.cells vs.toArray t)) (some ⟨w.heap.size, 0, none⟩) vs := by
  intro j u hj
  exact ⟨w.heap.size, 0, rfl, by simp, by rw [Nat.zero_add, box_new]; simpa using hj⟩

theorem regTo_len (f : Nat → Bool) : ∀ i, (regTo f i).length ≤ i
  | 0 => by simp [regTo]
  | i + 1 => by
    have ih := regTo_len f i
    unfold regTo
    split
    · unfold regPush
      split
      · split
        · have : 0 < i + 1 := by omega
          simp only [List.length_append, List.length_dropLast, List.length_cons, List.length_nil]; omega
        · simp; omega
      · simp
    · omega

theorem bool_at {w : World} {a : Option Addr} {f : Nat → Bool} (hr : Row w a ((bl f).map vB)) {k : Nat} (h : k < 256) :
    ∃ b off, a = some ⟨b, off, none⟩ ∧ b < w.heap.size ∧ w.cell? ⟨b, off + k, none⟩ = some (.bool (f k)) :=
  hr k (vB (f k)) (by rw [List.getElem?_map, bl_get f k h]; rfl)

set_option maxRecDepth 100000 in
theorem regions_any (a : Option Addr) (cap : Nat) (f : Nat → Bool) (w : World) (hr : Row w a ((bl f).map vB)) :
    Calls Try.prog 39 #[.slice a 256 cap] w fun e w' => ∃ a' c', e = .returned (.slice a' (regionsOf f).length c') ∧ w'.ownsRow w.heap.size 51 2 (.slice a' (regionsOf f).length c') (regionsOf f).length (flat encRg (regionsOf f)) ∧ Below w.heap.size w w' := by
  go_enter Try.func39, Try.ntmps39
  go_wp2
  go_loopw [3, 4, 5, 6, 9] (fun s3 _ _ _ s9 wr => ∃ (i : Nat) (a3 : Option Addr) (c3 : Nat), i ≤ 256 ∧ s9 = .int .i64 i ∧ s3 = .slice a3 (regTo f i).length c3 ∧ Hid (wr.ownsRow w.heap.size 51 2 (.slice a3 (regTo f i).length c3) (regTo f i).length (flat encRg (regTo f i))) ∧ Below w.heap.size w wr) (fun _ _ _ _ s9 _ => 256 - (intOf s9).toNat)
  case atStart => exact ⟨0, none, 0, by omega, rfl, rfl, World.ownsRow_nil _ _ _ _, Below.refl _ _⟩
  case round =>
    obtain ⟨i, a3, c3, hi, rfl, rfl, hown, hbw⟩ := hrel
    by_cases hlt : i < 256
    · obtain ⟨b, off, rfl, hb, hc⟩ := bool_at (hr.below hbw) hlt
      have hlen := regTo_len f i
      cases hf : f i with
      | false =>
        have hs : regTo f (i + 1) = regTo f i := by conv => lhs; unfold regTo; rw [hf]; simp
        have HS := Hid.mk hs
        rw [hf] at hc
        clear hs hf
        go_wp2
        go_roundw
        case rel => exact ⟨i + 1, a3, c3, by omega, by go_num, by rw [HS.out], by rw [HS.out]; exact hown, hbw⟩
        case measure => simp [intOf]; omega
      | true =>
        have hs : regTo f (i + 1) = regPush (regTo f i) i := by conv => lhs; unfold regTo; rw [hf]; simp
        have HS := Hid.mk hs
        rw [hf] at hc
        clear hs hf
        generalize hL : regTo f i = L at *
        have hinv : RegInv f i L := by rw [← hL]; exact regTo_inv f i
        clear hL
        rcases List.eq_nil_or_concat L with rfl | ⟨M, r, rfl⟩
        · have HO := Hid.mk (own_below hown.out (below_alloc wr (.cells #[.int .i64 (i : Int), .int .i64 1] 51)) (Nat.le_refl _))
          have HN := Hid.mk (row_new wr (encRg ⟨i, 1⟩) 51)
          have hsz := hbw.size
          have hb1 : Below w.heap.size w (wr.alloc (.cells #[.int .i64 (i : Int), .int .i64 1] 51)) := Below.step hbw (below_alloc _ _)
          go_wp2_with (at_builtin; refine wpList_app rfl _ _ 40 rfl w.heap.size 51 (.agg #[.int .i64 0, .int .i64 0]) 2 16 Try.underlying40 info_rg rfl (by decide) (by decide) _ _ _ _ rfl HO.out (some ⟨wr.heap.size, 0, none⟩) 1 1 (encRg ⟨i, 1⟩) rfl rfl HN.out (by simp [encRg, vI, Value.oneCell']) (by simp) (by simp; omega) ?_)
          intro a' c' w2 hown2 hgrow
          have hb2 := below_grown hb1 HO.out hgrow (Nat.le_refl _) (by simp; omega)
          have HO2 := Hid.mk hown2
          clear hown2 HO HN hgrow
          go_wp2
          go_roundw
          case rel => exact ⟨i + 1, a', c', by omega, by go_num, by rw [HS.out]; rfl, by rw [HS.out]; exact HO2.out, hb2⟩
          case measure => simp [intOf]; omega
        · simp only [List.concat_eq_append, List.length_append, List.length_cons, List.length_nil, Nat.zero_add] at hown hlen HS hinv ⊢
          have hlow := hinv.low r (by simp)
          have hsm : r.small := by unfold Rg.small; omega
          obtain ⟨g, rfl, hg, hgs, hcell, hfrz⟩ := own_elem encRg_length (by decide) hown.out (j := M.length) (by simp)
          have hmr : (M ++ [r])[M.length]'(by simp) = r := by simp
          rw [hmr] at hcell
          have hc0 := hcell 0 (vI r.f) rfl
          have hc1 := hcell 1 (vI r.s) rfl
          have hf1 := hfrz (M.length * 2 + 1)
          simp only [vI, Nat.add_zero] at hc0 hc1
          have hlm : M.length ≤ 255 := by omega
          have hsz := hbw.size
          clear hcell hfrz hmr hinv
          cases he : (r.f + r.s == (i : Int)) with
          | true =>
            have hp : regPush (M ++ [r]) i = M ++ [⟨r.f, r.s + 1⟩] := by
              unfold regPush
              rw [List.getLast?_concat]
              simp only [List.dropLast_concat]
              rw [if_pos (eq_of_beq he)]
            rw [hp] at HS
            clear hp
            go_wp2_with (go_at_call 42; refine (end_any r _ hsm).mono ?_; rintro e w4 ⟨rfl, hb4⟩; have hc40 := (hb4.cell (p := ⟨g, M.length * 2, none⟩) hgs).trans hc0; have hc41 := (hb4.cell (p := ⟨g, M.length * 2 + 1, none⟩) hgs).trans hc1; have hf41 := (hb4.frozen (p := ⟨g, M.length * 2 + 1, none⟩) hgs).trans hf1)
            have h := (World.ownsRow.stored (own_below hown.out hb4 (Nat.le_refl _)) (M.length * 2 + 1) (vI (r.s + 1))).1
            have hset : (flat encRg (M ++ [r])).set (M.length * 2 + 1) (vI (r.s + 1)) = flat encRg (M ++ [⟨r.f, r.s + 1⟩]) := by
              rw [flat_append, flat_append, List.set_append_right _ _ (by rw [flat_length encRg_length]; omega), flat_length encRg_length, Nat.add_sub_cancel_left]
              rfl
            rw [hset] at h
            have HH := Hid.mk h
            clear h hset
            go_roundw
            case rel =>
              refine ⟨i + 1, some ⟨g, 0, none⟩, c3, by omega, by go_num, by rw [HS.out]; simp, ?_, (Below.step hbw hb4).setCell hg _⟩
              rw [HS.out]
              have h2 := HH.out
              simp only [List.length_append, List.length_cons, List.length_nil, Nat.zero_add] at h2 ⊢
              exact h2
            case measure => simp [intOf]; omega
          | false =>
            have hp : regPush (M ++ [r]) i = (M ++ [r]) ++ [⟨i, 1⟩] := by
              unfold regPush
              rw [List.getLast?_concat]
              simp only
              rw [if_neg (by rw [beq_eq_false_iff_ne] at he; exact he)]
            rw [hp] at HS
            clear hp
            go_wp2_with fail
            refine (end_any r _ hsm).mono ?_
            rintro e w4 ⟨rfl, hb4⟩
            have HO4 := Hid.mk (own_below (own_below hown.out hb4 (Nat.le_refl _)) (below_alloc w4 (.cells #[.int .i64 (i : Int), .int .i64 1] 51)) (Nat.le_refl _))
            have HN4 := Hid.mk (row_new w4 (encRg ⟨i, 1⟩) 51)
            have hb5 := Below.step hbw hb4
            have hsz4 := hb5.size
            have hb6 : Below w.heap.size w (w4.alloc (.cells #[.int .i64 (i : Int), .int .i64 1] 51)) := Below.step hb5 (below_alloc _ _)
            go_wp2_with (at_builtin; refine wpList_app rfl _ _ 40 rfl w.heap.size 51 (.agg #[.int .i64 0, .int .i64 0]) 2 16 Try.underlying40 info_rg rfl (by decide) (by decide) _ _ _ _ rfl HO4.out (some ⟨w4.heap.size, 0, none⟩) 1 1 (encRg ⟨i, 1⟩) rfl rfl HN4.out (by simp [encRg, vI, Value.oneCell']) (by omega) (by simp; omega) ?_)
            intro a' c' w5 hown5 hgrow
            have hb7 := below_grown hb6 HO4.out hgrow (Nat.le_refl _) (by simp; omega)
            have HO5 := Hid.mk hown5
            clear hown5 HO4 HN4 hgrow
            go_wp2
            go_roundw
            case rel =>
              refine ⟨i + 1, a', c', by omega, by go_num, by rw [HS.out]; simp, ?_, hb7⟩
              rw [HS.out]
              have h2 := HO5.out
              rw [flat_append]
              simp only [List.length_append, List.length_cons, List.length_nil, Nat.zero_add] at h2 ⊢
              exact h2
            case measure => simp [intOf]; omega
    · obtain rfl : i = 256 := by omega
      go_wp2
      go_ret
      exact ⟨a3, c3, rfl, hown.out, hbw⟩
end Go.Proofs.Yteonmoncofcajaa
