/- paddockkeep.LayoutFits returns true for every size, and leaves all as it was. Conditions: none. (Its frame was written by the proof skeleton.) -/
import Derived.Test.YtcomljehcmnlmaaLow1
import Derived.WalkKit
import Derived.ProofKit
import Derived.OpenShut
namespace Go.Proofs.Ytcomljehcmnlmaa.layoutFits
open Go.ChangeShapes Go.WideShapes Go.ChangeAt Go.RowKit
set_option linter.unusedVariables false

theorem own : ownKnob Try.prog.godebug = none := by kernel_rfl

/-! ### STEP 1: THE WALK: the Go text returns true. 'Grown w w'': the world has at most new blocks (Derived/RowKit3.lean). Part the cases AHEAD of 'go_enter' where a test parts the walk; take each callee by a contract of your own. -/
theorem div_facts (m k : Int) (h1 : 1 ≤ k) (hm : 0 ≤ m) : m / k * k ≤ m ∧ m < (m / k + 1) * k := by
  have h := Int.mul_ediv_add_emod m k
  have h2 := Int.emod_nonneg m (show k ≠ 0 by omega)
  have h3 := Int.emod_lt_of_pos m (show 0 < k by omega)
  rw [Int.add_mul, Int.one_mul, Int.mul_comm]
  omega

theorem wrap_eq (a : Int) (h1 : 0 ≤ a) (h2 : a ≤ 100000) : wrap64 a = a := IntWalk.wrap64_in _ (by omega)

theorem walk (a0 : Int) (w0 : (Lit.int .i64 a0).wf = true) (w : World) :
    Calls Try.prog 3 #[.int .i64 a0] w fun e w' => e = .returned (.bool true) ∧ Grown w w' := by
  have hb := bounds_i64 w0
  have p1 := pk_nonneg a0 64 (by omega)
  have p2 := pk_lt a0 64 (by omega)
  obtain ⟨f16, g16⟩ := div_facts 16 (1 + pk a0 64) (by omega) (by omega)
  obtain ⟨f32, g32⟩ := div_facts 32 (1 + pk a0 64) (by omega) (by omega)
  obtain ⟨f64, g64⟩ := div_facts 64 (1 + pk a0 64) (by omega) (by omega)
  have hpos : 1 ≤ 64 / (1 + pk a0 64) := Int.le_ediv_of_mul_le (by omega) (by omega)
  have hup : 64 / (1 + pk a0 64) ≤ 64 := Int.ediv_le_self _ (by omega)
  have hup2 : 32 / (1 + pk a0 64) ≤ 32 := Int.ediv_le_self _ (by omega)
  have hup3 : 16 / (1 + pk a0 64) ≤ 16 := Int.ediv_le_self _ (by omega)
  have q16 : 0 ≤ 16 / (1 + pk a0 64) := Int.ediv_nonneg (by omega) (by omega)
  have q32 : 0 ≤ 32 / (1 + pk a0 64) := Int.ediv_nonneg (by omega) (by omega)
  have e (d : Int) (h0 : 0 ≤ d) (h1 : d * (1 + pk a0 64) ≤ 64) : wrap64 (d * (1 + pk a0 64)) = d * (1 + pk a0 64) ∧ wrap64 ((d + 1) * (1 + pk a0 64)) = (d + 1) * (1 + pk a0 64) := by
    have h2 : 0 ≤ d * (1 + pk a0 64) := Int.mul_nonneg h0 (by omega)
    have h3 : (d + 1) * (1 + pk a0 64) = d * (1 + pk a0 64) + (1 + pk a0 64) := by rw [Int.add_mul, Int.one_mul]
    exact ⟨wrap_eq _ h2 (by omega), wrap_eq _ (by omega) (by omega)⟩
  by_cases h3 : 4 ≤ 16 / (1 + pk a0 64)
  · obtain ⟨e1, e2⟩ := e _ q16 (by omega)
    clear e f32 g32 f64 g64 hpos hup hup2 q32
    go_enter Try.func3, Try.ntmps3
    go_wp2_with (go_at_call 11; refine (picked_any _ _ _ (by omega) (by omega) (by omega) (by omega)).mono ?_; rintro e w' ⟨rfl, rfl⟩)
    refine (layout_0 _ _ (by omega) (by omega) h3).mono ?_; rintro e w' ⟨rfl, rfl⟩
    go_wp2_with fail
    refine (layout_bad _ _ (by omega) (by omega)).mono ?_; rintro e w' ⟨rfl, rfl⟩
    go_wp2
    all_goals go_ret
    all_goals exact ⟨rfl, Grown.refl _⟩
  · by_cases h4 : 4 ≤ 32 / (1 + pk a0 64)
    · obtain ⟨e1, e2⟩ := e _ q32 (by omega)
      clear e f16 g16 f64 g64 hpos hup
      go_enter Try.func3, Try.ntmps3
      go_wp2_with (go_at_call 11; refine (picked_any _ _ _ (by omega) (by omega) (by omega) (by omega)).mono ?_; rintro e w' ⟨rfl, rfl⟩)
      refine (layout_1 _ _ (by omega) (by omega) (by omega) h4).mono ?_; rintro e w' ⟨rfl, rfl⟩
      go_wp2_with fail
      refine (layout_bad _ _ (by omega) (by omega)).mono ?_; rintro e w' ⟨rfl, rfl⟩
      go_wp2
      all_goals go_ret
      all_goals exact ⟨rfl, Grown.refl _⟩
    · obtain ⟨e1, e2⟩ := e (64 / (1 + pk a0 64)) (by omega) (by omega)
      clear e f16 g16 f32 g32
      go_enter Try.func3, Try.ntmps3
      go_wp2_with (go_at_call 11; refine (picked_any _ _ _ (by omega) (by omega) (by omega) (by omega)).mono ?_; rintro e w' ⟨rfl, rfl⟩)
      refine (layout_2 _ _ (by omega) (by omega) (by omega) (by omega)).mono ?_; rintro e w' ⟨rfl, rfl⟩
      go_wp2_with fail
      refine (layout_bad _ _ (by omega) (by omega)).mono ?_; rintro e w' ⟨rfl, rfl⟩
      go_wp2
      all_goals go_ret
      all_goals exact ⟨rfl, Grown.refl _⟩

/-! ### THE ROW's STEP: WRITTEN OUT: LEAVE IT -/
set_option maxRecDepth 100000 in
theorem lifted (os : Os) (started : os.Started) (H : Type) (enc : TypeId × Value → H) :
    ReturnsInHanded {} Try.checked os 3 .any (Rows.layoutFitsSpec.pre6 enc Try.prog Try.f3 Rows.layoutFitsRow.domain false) (Rows.layoutFitsSpec.post enc Try.prog Try.f3 false true false false) := by
  refine returnsInHanded_of_change (C := Try.checked) own started (by kernel_rfl) Try.func3
    (ChangeSpec.witness6 (enc := enc) (C := Try.checked) false ⟨#[], #[.int .i64 0], []⟩ 8 (by kernel_rfl) (by kernel_rfl) (by kernel_rfl) (by kernel_rfl)) ?_
  intro W base args ds gs before hval0 hW hcnd _
  have hval : ∀ (j : Nat) t v, Try.f3.params[j]? = some t → args[j]? = some v → Value.okWide Try.prog W .any base t v := hval0
  have hW' := hW
  obtain ⟨p, q, hA0, hV, rfl, hfz, hnd⟩ := hW
  have hA : DataW.TrodAll enc Try.prog W 0 (fun _ => true) true Try.f3.params.toList args.toList ds p := hA0
  rw [Try.params3] at hA hval
  obtain ⟨v0, vs0, d0, ds0, p0, q0, hargs, rfl, rfl, h0, r0⟩ := trodAll_cons hA
  obtain ⟨rfl, rfl, rfl⟩ := trodAll_nil r0
  obtain rfl : args = #[v0] := by cases args; simp_all
  obtain ⟨rfl, rfl⟩ := trodVars_none hV
  obtain ⟨a0, rfl, rfl, rfl, w0⟩ := open_int Try.underlying3 (hval 0 3 v0 rfl rfl) h0
  clear hA0 hval0
  simp only [List.append_nil] at hW'
  refine (walk a0 w0 W).mono fun e W' ⟨he, hg⟩ => ?_
  subst he
  exact ⟨_, rfl, post_of_same (pa := []) (pv := []) hW' (fun _ _ _ => (trodAll_cons_mk (shut_bool Try.underlying4 _) trodAll_mk0)) (fun sp _ => (trodAll_cons_mk (shut_int Try.underlying3 w0) trodAll_mk0)) (fun _ _ => rfl) rfl
    (hg.frame _) hg.2.1 (ok_one (by kernel_rfl) rfl (okWide_bool_mk Try.underlying4 _))⟩

theorem over : Rows.layoutFitsRow.holds Try.pinned (OpenSpec.ofChange Rows.layoutFitsSpec) :=
  OpenClaim.holds_of_wide 3 Try.f3 rfl rfl rfl rfl rfl rfl rfl ⟨rfl, rfl, rfl, rfl, rfl⟩ rfl rfl rfl rfl rfl (by kernel_rfl) Try.func3 (by kernel_rfl)
    (of_decide_eq_true (by kernel_rfl)) (by unfold Func.isWrapper; first | (rw [if_pos (by decide +kernel)]; kernel_rfl) | (rw [if_neg (by decide +kernel)]; exact ⟨rfl, rfl⟩))
    (fun os started H enc _ => lifted os started H enc)

/-- ████ THE STATEMENT ████ -/
theorem proved : Rows.LayoutFitsSaid :=
  over
#print axioms proved
end Go.Proofs.Ytcomljehcmnlmaa.layoutFits
