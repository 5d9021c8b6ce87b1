/- Contracts of package boot: joined. -/
import Derived.Test.YteonmoncofcajaaBoot3
import Derived.Lib.SliceRun
namespace Go.Proofs.Yteonmoncofcajaa
open Go.RowKit
set_option linter.unusedVariables false

theorem joined_any (a : Option Addr) (n cap : Nat) (l : List Rg) (f s : Nat) (v : Bool) (w : World) (hn : l.length = n) (hl : n ≤ 9223372036854775807) (hr : Row w a (flat encRg l)) (hok : ∀ r ∈ l, ckRg r = true) (hs1 : 1 ≤ s) (hfs : f + s ≤ 256) :
    Calls Try.prog 47 #[.slice a n cap, .agg #[.int .i64 f, .int .i64 s], .bool v] w fun e w' => ∃ a' c', e = .returned (.slice a' (regionsOf (upd (inRg l) f (f + s) v)).length c') ∧ w'.ownsRow w.heap.size 51 2 (.slice a' (regionsOf (upd (inRg l) f (f + s) v)).length c') (regionsOf (upd (inRg l) f (f + s) v)).length (flat encRg (regionsOf (upd (inRg l) f (f + s) v))) ∧ Below w.heap.size w w' := by
  have hsm : (⟨(f : Int), (s : Int)⟩ : Rg).small := by unfold Rg.small; simp only; omega
  generalize hR : regionsOf (upd (inRg l) f (f + s) v) = R
  have HR := Hid.mk hR
  clear hR
  have hal := below_alloc w (.cells #[.int .i64 (f : Int), .int .i64 (s : Int)] 51)
  have hra := hr.below hal
  clear hr
  go_enter Try.func47, Try.ntmps47
  go_wp2_with fail
  refine (pages_any _ _ _ l _ hn hra hok hl).mono ?_
  rintro e w1 ⟨a1, c1, rfl, hown1, hb1⟩
  have B1 := box_call hb1
  have hs2 := box_size hb1
  have hbw1 : Below w.heap.size w w1 := Below.step hal hb1
  have HO1 := Hid.mk (own_base hown1 hal.size)
  have HG := Hid.mk hown1
  clear hown1
  go_wp2
  go_loopw [8] (fun s8 wq => ∃ i : Nat, f ≤ i ∧ i ≤ f + s ∧ s8 = .int .i64 i ∧ Hid (wq.ownsRow (w.heap.size + 1) 4 1 (.slice a1 256 c1) 256 ((bl (upd (inRg l) f i v)).map vB)) ∧ Below w.heap.size w wq ∧ Hid (∀ o, wq.cell? ⟨w.heap.size, o, none⟩ = (#[.int .i64 (f : Int), .int .i64 (s : Int)] : Array Value)[o]?) ∧ w.heap.size < wq.heap.size) (fun s8 _ => 256 - (intOf s8).toNat)
  case atStart =>
    refine ⟨f, Nat.le_refl _, by omega, rfl, ?_, hbw1, B1, hs2⟩
    rw [show bl (upd (inRg l) f f v) = bl (inRg l) from bl_congr fun p _ => by unfold upd; rw [if_neg (by omega)]]
    simpa [Hid] using HG.out
  case round =>
    obtain ⟨i, hi1, hi2, rfl, hown3, hb3, HB3, hs3⟩ := hrel
    have B3 := HB3.out
    clear B1
    by_cases hlti : i < f + s
    · go_wp2_with fail
      refine (end_any ⟨(f : Int), (s : Int)⟩ _ hsm).mono ?_
      rintro e w4 ⟨rfl, hb4⟩
      have B4 := box_step B3 hs3 hb4
      have hown4 := own_below hown3.out hb4 (Nat.le_refl _)
      have hb5 := Below.step hb3 hb4
      have hs4 : w.heap.size < w4.heap.size := Nat.lt_of_lt_of_le hs3 hb4.size
      obtain ⟨g, vv, rfl, hg, hgs, hcg, hfg⟩ := own_cell hown4 i (by rw [List.length_map, bl_length]; omega)
      have HO4 := Hid.mk hown4
      clear B3 hown4 hown3
      go_wp2
      go_roundw
      case rel =>
        refine ⟨i + 1, by omega, by omega, by go_num, ?_, hb5.setCell (by simp only; omega) _, ?_, by simpa using hs4⟩
        · have h := (World.ownsRow.stored HO4.out i (vB v)).1
          rw [← List.map_set, bl_set] at h
          rw [show bl (upd (inRg l) f (i + 1) v) = bl (fun p => if p = i then v else upd (inRg l) f i v p) from bl_congr fun p _ => by
            unfold upd
            by_cases e : p = i
            · subst e
              rw [if_pos (by omega), if_pos rfl]
            · rw [if_neg e]
              by_cases h : f ≤ p ∧ p < i
              · rw [if_pos h, if_pos (by omega)]
              · rw [if_neg h, if_neg (by omega)]]
          exact h
        · intro o
          simp [go_sem, B4]
      case measure => simp [intOf]; omega
    · obtain rfl : i = f + s := by omega
      go_wp2_with fail
      refine (end_any ⟨(f : Int), (s : Int)⟩ _ hsm).mono ?_
      rintro e w4 ⟨rfl, hb4⟩
      have hb5 := Below.step hb3 hb4
      have hrow := (own_row hown3.out).below hb4
      clear B3 hown3
      go_wp2_with fail
      refine (regions_any _ _ _ _ hrow).mono ?_
      rw [HR.out]
      rintro e w5 ⟨a', c', rfl, hown5, hb6⟩
      have H5 := Hid.mk (own_base hown5 hb5.size)
      clear hown5
      go_wp2
      go_ret
      exact ⟨a', c', rfl, H5.out, Below.step hb5 hb6⟩

/-- slices.Clone at api.Region -/
theorem cloneRg (a : Option Addr) (n cap : Nat) (xs : List Rg) (w : World) (hn : xs.length = n) (hl : n * 16 ≤ 140737488355328) (hr : Row w a (flat encRg xs)) :
    Calls Try.prog 46 #[.slice a n cap] w fun e w' => ∃ a' c', e = .returned (.slice a' n c') ∧ w'.ownsRow w.heap.size 51 2 (.slice a' n c') n (flat encRg xs) ∧ Below w.heap.size w w' := by
  have q22 : ∀ (w : World) (a : Option Addr) (n c n' c' : Nat), (binOp .eql 40 (.slice a n c) (.slice none n' c')).run Try.prog w = .ok (.bool a.isNone) w := fun w a n c n' c' => Lib.run_eql_slice_nil w _ _ a n c n' c' Try.underlying40
  subst hn
  cases a with
  | none =>
    have hx : xs = [] := by
      cases xs with
      | nil => rfl
      | cons u l => obtain ⟨b, off, e1, _⟩ := row_elem encRg_length (by decide) hr (j := 0) (by simp); cases e1
    subst hx
    go_enter Try.func46, Try.ntmps46
    go_wp2
    go_ret
    exact ⟨none, 0, rfl, World.ownsRow_nil _ _ _ _, Below.refl _ _⟩
  | some ad =>
    go_enter Try.func46, Try.ntmps46
    go_wp2_with (at_builtin; refine wpList_app rfl _ _ 40 rfl w.heap.size 51 (.agg #[.int .i64 0, .int .i64 0]) 2 16 Try.underlying40 info_rg rfl (by decide) (by decide) _ _ _ _ rfl (World.ownsRow_made w #[] 0 (Nat.le_refl _) (Nat.zero_le _) (by simp)) (some ad) xs.length cap (flat encRg xs) rfl ?q1 ?q2 ?q3 ?q4 ?q5 ?_)
    case q1 => exact flat_length encRg_length xs
    case q2 => exact hr.below (below_alloc _ _)
    case q3 => exact encRg_one xs
    case q4 => rw [Nat.zero_add]; exact hl
    case q5 => simp
    intro a' c' w1 hown hgrow
    go_wp2
    go_ret
    exact ⟨a', c', rfl, hown, (below_alloc w _).grown hgrow (by simp) (by intro k hk; simp [Value.ownBlock] at hk; omega)⟩

end Go.Proofs.Yteonmoncofcajaa
