/- Tells, RwS, PagesHeldWalk, ArgRoom: texts of this claim, joined. -/
import Derived.Test.YtjljcifpcljlaaaDoorPM1
import Derived.Test.YtjljcifpcljlaaaDoorPM13
import Derived.Test.YtjljcifpcljlaaaDoorPM15
import Derived.OpenShut
import Derived.ProofKit
import Derived.SizedLaws
/- Contract of pagesTells. -/
namespace Go.Proofs.YtjljcifpcljlaaaDoor
open Go.RowKit
set_option linter.unusedVariables false
set_option maxHeartbeats 4000000 in
set_option maxRecDepth 100000 in
theorem pagesTells_ok (w : World) (hoth : Oth w) : Calls Tryd.prog 22 #[] w fun ev w' => ev = .returned (.bool true) ∧ Below w.heap.size w w' := by
  have HO := Hid.mk hoth
  clear hoth
  go_enter Tryd.func22, Tryd.ntmps22
  go_wp2_with fail
  refine (setup_ok 0 0 0 w (by decide) (by decide) (by decide)).mono ?_
  rintro ev w1 ⟨m1, d1, m2, d2, rfl, hbt1, hb1⟩
  have HBT := Hid.mk hbt1
  have HB1 := Hid.mk hb1
  clear hbt1 hb1
  obtain ⟨p9, hp9⟩ : ∃ p, 16 * pk 0 9 = p := ⟨_, rfl⟩
  obtain ⟨p12, hp12⟩ : ∃ p, pk 0 12 = p := ⟨_, rfl⟩
  obtain ⟨p4, hp4⟩ : ∃ p, 1 + pk 0 4 = p := ⟨_, rfl⟩
  have hcall := paged_su none 0 0 [] m1 m2 d1 d2 0 0 0 0 w1 rfl (Nat.le_refl _) (Nat.zero_le _) (Row.nil _ _) (by simp) (by omega) HBT.out (HO.out.mono HB1.out (Nat.le_refl _))
  rw [hp9, hp12, hp4] at hcall ⊢
  clear hp9 hp12 hp4
  go_wp2_with fail
  refine hcall.mono ?_
  rintro ev w5 hd5
  obtain ⟨⟨h1, hc1, aw1, ca1, away1, rfl, hh5, hrw5, _, _, hnil, _⟩, hb5⟩ := hd5
  have HB5 := Hid.mk (Below.step HB1.out hb5)
  clear hcall hh5 hrw5 hnil hb5
  unfold Hc.vals
  have hb6 := below_alloc w5 (.cells #[.slice hc1.az 2 hc1.cz, .slice hc1.am 2 hc1.cm, .int .i64 (h1.cpus : Int), .slice hc1.al hc1.lc.length hc1.cl, .slice hc1.av h1.live.length hc1.cv] 34)
  have HB6 := Hid.mk (Below.step HB5.out hb6)
  clear hb6
  go_wp2
  go_ret
  exact ⟨rfl, HB6.out⟩
end Go.Proofs.YtjljcifpcljlaaaDoor
/- Raw numbers: slices.Clone, and a store into an element. -/
namespace Go.Proofs.YtjljcifpcljlaaaDoor
open Go.RowKit
set_option linter.unusedVariables false

theorem info_rw : (Tryd.prog.info? 61).map (fun i => (i.zero, i.size, i.bytes)) = some (some (.agg #[.int .i64 0, .int .i64 0, .int .i64 0, .int .i64 0]), 4, 32) := by kernel_rfl
theorem encRw_one (l : List Rw) : ∀ u ∈ flat encRw l, u.oneCell' = true := by
  intro u hu
  obtain ⟨r, _, hr⟩ := List.mem_flatMap.1 hu
  simp only [encRw, vI, List.mem_cons, List.not_mem_nil, or_false] at hr
  rcases hr with rfl | rfl | rfl | rfl <;> rfl

/-- slices.Clone at paddockkeep.Raw -/
theorem cloneRw (a : Option Addr) (n cap : Nat) (xs : List Rw) (w : World) (hn : xs.length = n) (hl : n * 32 ≤ 140737488355328) (hr : Row w a (flat encRw xs)) :
    Calls Tryd.prog 23 #[.slice a n cap] w fun e w' => ∃ a' c', e = .returned (.slice a' n c') ∧ w'.ownsRow w.heap.size 61 4 (.slice a' n c') n (flat encRw xs) ∧ Below w.heap.size w w' := by
  have q22 : ∀ (w : World) (a : Option Addr) (n c n' c' : Nat), (binOp .eql 22 (.slice a n c) (.slice none n' c')).run Tryd.prog w = .ok (.bool a.isNone) w := fun w a n c n' c' => Lib.run_eql_slice_nil w _ _ a n c n' c' Tryd.underlying22
  subst hn
  cases a with
  | none =>
    have hx : xs = [] := by
      cases xs with
      | nil => rfl
      | cons u l => obtain ⟨b, off, e1, _⟩ := row_elem encRw_length (by decide) hr (j := 0) (by simp); cases e1
    subst hx
    go_enter Tryd.func23, Tryd.ntmps23
    go_wp2
    go_ret
    exact ⟨none, 0, rfl, World.ownsRow_nil _ _ _ _, Below.refl _ _⟩
  | some ad =>
    go_enter Tryd.func23, Tryd.ntmps23
    go_wp2_with (at_builtin; refine wpList_app rfl _ _ 22 rfl w.heap.size 61 (.agg #[.int .i64 0, .int .i64 0, .int .i64 0, .int .i64 0]) 4 32 Tryd.underlying22 info_rw rfl (by decide) (by decide) _ _ _ _ rfl (World.ownsRow_made w #[] 0 (Nat.le_refl _) (Nat.zero_le _) (by simp)) (some ad) xs.length cap (flat encRw xs) rfl ?q1 ?q2 ?q3 ?q4 ?q5 ?_)
    case q1 => exact flat_length encRw_length xs
    case q2 => exact hr.below (below_alloc _ _)
    case q3 => exact encRw_one xs
    case q4 => rw [Nat.zero_add]; exact hl
    case q5 => simp
    intro a' c' w1 hown hgrow
    go_wp2
    go_ret
    exact ⟨a', c', rfl, hown, (below_alloc w _).grown hgrow (by simp) (by intro k hk; simp [Value.ownBlock] at hk; omega)⟩


/-- the last number of a raw becomes 0 -/
def Rw.c0 (r : Rw) : Rw := ⟨r.k, r.a, r.b, 0⟩
theorem Rw.c0_wf {r : Rw} (h : r.wf) : r.c0.wf := ⟨h.1, h.2.1, h.2.2.1, by unfold Rw.c0 in64; simp⟩
theorem row_c0 {w : World} {g : Nat} {l : List Rw} (h : Row w (some ⟨g, 0, none⟩) (flat encRw l)) {i : Nat} (hi : i < l.length) : Row (w.setCell ⟨g, i * 4 + 3, none⟩ (.int .i64 0)) (some ⟨g, 0, none⟩) (flat encRw (l.set i l[i].c0)) := by
  intro j v hj
  have hjl : j < (l.set i l[i].c0).length * 4 := by have := (List.getElem?_eq_some_iff.1 hj).1; rwa [flat_length encRw_length] at this
  have hjl2 : j < l.length * 4 := by rwa [List.length_set] at hjl
  have hdm := Nat.div_add_mod j 4
  have hlt : j % 4 < 4 := Nat.mod_lt _ (by omega)
  have hq : j / 4 < l.length := by omega
  have hq2 : j / 4 < (l.set i l[i].c0).length := by rwa [List.length_set]
  rw [show j = j / 4 * 4 + j % 4 by omega, flat_get encRw_length _ (j / 4) hq2 (j % 4) hlt] at hj
  have hg : g < w.heap.size := by
    obtain ⟨b, off, e, hb, _⟩ := row_elem encRw_length (by decide) h hi
    simp only [Option.some.injEq, Addr.mk.injEq, and_true] at e
    rw [e.1]; exact hb
  have old : ∀ u, (encRw l[j / 4])[j % 4]? = some u → w.cell? ⟨g, 0 + j, none⟩ = some u := fun u hu => by
    obtain ⟨b, off, e, hb, hc⟩ := h j u (by rw [show j = j / 4 * 4 + j % 4 by omega, flat_get encRw_length _ (j / 4) hq (j % 4) hlt]; simpa [show (j / 4 * 4 + j % 4) / 4 = j / 4 by omega, show (j / 4 * 4 + j % 4) % 4 = j % 4 by omega] using hu)
    simp only [Option.some.injEq, Addr.mk.injEq, and_true] at e
    obtain ⟨rfl, rfl⟩ := e
    exact hc
  refine ⟨g, 0, rfl, by simpa using hg, ?_⟩
  by_cases hji : j = i * 4 + 3
  · obtain ⟨u, hu⟩ : ∃ u, (encRw l[j / 4])[j % 4]? = some u := ⟨_, List.getElem?_eq_getElem (l := encRw l[j / 4]) (i := j % 4) (show j % 4 < 4 from hlt)⟩
    have h1 := old u hu
    rw [Nat.zero_add] at h1 ⊢
    have e1 : j / 4 = i := by omega
    have e2 : j % 4 = 3 := by omega
    simp only [e1, e2, List.getElem_set_self] at hj
    have hv : v = .int .i64 0 := by simpa [encRw, Rw.c0, vI] using hj.symm
    subst hv
    rw [← hji]
    exact World.cell?_setCell_same _ _ _ h1
  · rw [World.cell?_setCell_other _ _ _ _ (fun e => hji (by simpa using (congrArg Addr.off e).symm))]
    refine old v ?_
    by_cases e1 : j / 4 = i
    · have e3 : j % 4 ≠ 3 := by omega
      simp only [e1, List.getElem_set_self] at hj
      have : j % 4 = 0 ∨ j % 4 = 1 ∨ j % 4 = 2 := by omega
      subst e1
      rcases this with e | e | e <;> rw [e] at hj ⊢ <;> exact hj
    · rw [List.getElem_set_ne (fun e => e1 e.symm)] at hj
      exact hj
end Go.Proofs.YtjljcifpcljlaaaDoor
/- The walk of paddockkeep.PagesHeld. -/
namespace Go.Proofs.YtjljcifpcljlaaaDoor
open Go.RowKit Go.WideShapes Go.ChangeShapes
set_option linter.unusedVariables false
set_option linter.unusedSimpArgs false

theorem suH_min (a b c : Int) (i : Nat) : (suH a b c).min i = (pk b 12).toNat := by
  unfold suH newH Hp.min
  split <;> rfl

set_option maxHeartbeats 8000000 in
set_option maxRecDepth 100000 in
theorem pagesHeld_walk (a : Option Addr) (n c : Nat) (l : List Rw) (hl : l.length = n) {w : World} (hr : Row w a (flat encRw l)) (hnc : n ≤ c) (hcm : c ≤ maxLen) (hwf : ∀ r ∈ l, r.wf) (x : Int) (hx : (Lit.int .i64 x).wf = true) (y : Int) (hy : (Lit.int .i64 y).wf = true) (z : Int) (hz : (Lit.int .i64 z).wf = true) (hoth : Oth w) (hroom : n * 32 ≤ 140737488355328) :
    Calls Tryd.prog 6 #[.slice a n c, .int .i64 x, .int .i64 y, .int .i64 z] w fun ev w' => ev = .returned (.bool true) ∧ Below w.heap.size w w' := by
  have hbx := bounds_i64 hx
  have hby := bounds_i64 hy
  have hbz := bounds_i64 hz
  have HR1 := Hid.mk hr
  have HO := Hid.mk hoth
  clear hr hoth
  go_enter Tryd.func6, Tryd.ntmps6
  go_wp2_with fail
  refine (pagesTells_ok w HO.out).mono ?_
  rintro ev w0 ⟨rfl, hb0⟩
  go_wp2_with fail
  refine (setup_ok x y z w0 hbx hby hbz).mono ?_
  rintro ev w1 ⟨m1, d1, m2, d2, rfl, hbt1, hb1⟩
  have hb1 := Below.step hb0 hb1
  go_upto_region 4 with fail
  have hb2 := below_alloc w1 (.cells #[.slice m1 2 d1, .slice m2 2 d2, .int .i64 (16 * pk x 9), .int .i64 (pk y 12), .int .i64 (1 + pk z 4)] 27)
  have KU := box_new w1 #[.slice m1 2 d1, .slice m2 2 d2, .int .i64 (16 * pk x 9), .int .i64 (pk y 12), .int .i64 (1 + pk z 4)] 27
  have hsu : w1.heap.size < (w1.alloc (.cells #[.slice m1 2 d1, .slice m2 2 d2, .int .i64 (16 * pk x 9), .int .i64 (pk y 12), .int .i64 (1 + pk z 4)] 27)).heap.size := by simp
  have HBT := Hid.mk (hbt1.below hb2)
  have HB2 := Hid.mk (Below.step hb1 hb2)
  have u0 := KU 0
  have u1 := KU 1
  have u2 := KU 2
  have u3 := KU 3
  have u4 := KU 4
  simp only [List.getElem?_toArray, List.getElem?_cons_zero, List.getElem?_cons_succ] at u0 u1 u2 u3 u4
  clear hbt1 hb1 hb2
  generalize w1.alloc (.cells #[.slice m1 2 d1, .slice m2 2 d2, .int .i64 (16 * pk x 9), .int .i64 (pk y 12), .int .i64 (1 + pk z 4)] 27) = w2 at *
  obtain ⟨U, hU⟩ : ∃ U, w1.heap.size = U := ⟨_, rfl⟩
  rw [hU] at KU hsu u0 u1 u2 u3 u4 ⊢
  clear hU
  have HKU := Hid.mk KU
  have HR2 := Hid.mk (HR1.out.below HB2.out)
  clear HR1 u0 u1 u2 u3 u4
  go_wp2_with fail
  go_loopw [0, 10, 31] (fun s0 _ s31 wr => ∃ (i c' : Nat) (a' : Option Addr) (l' : List Rw), i ≤ n ∧ s31 = .int .i64 (i : Int) ∧ s0 = .slice a' n c' ∧ Hid (Row wr a' (flat encRw l')) ∧ l'.length = n ∧ n ≤ c' ∧ c' ≤ maxLen ∧ Hid (∀ r ∈ l', r.wf) ∧ Hid (∀ r ∈ l'.take i, pk r.c 5 ≠ 4) ∧ Hid (Below w2.heap.size w2 wr)) (fun _ _ s31 _ => n - (intOf s31).toNat)
  case atStart => exact ⟨0, c, a, l, Nat.zero_le _, rfl, rfl, HR2, hl, hnc, hcm, hwf, by simp [Hid], Below.refl _ _⟩
  case round =>
    obtain ⟨i, c', a', l', hi, rfl, rfl, HRW, hll, hnc', hcm', HWF, HNO, HBR⟩ := hrel
    by_cases hlt : i < n
    · have hlti : (i : Int) < n := by omega
      have hi2 : i < l'.length := by omega
      obtain ⟨bb, off, ha1, hbb, hc⟩ := row_elem encRw_length (by decide) HRW.out hi2
      obtain ⟨d0, d1, d2, d3⟩ := encRw_cells hc
      have hwfi := (HWF.out _ (List.getElem_mem hi2)).2.2.2
      obtain rfl := ha1
      clear hc
      obtain ⟨cv, hcv⟩ : ∃ v, l'[i].c = v := ⟨_, rfl⟩
      rw [hcv] at d3 hwfi
      clear d0 d1 d2
      go_wp2_with fail
      refine (picked_any cv 5 _ hwfi.1 hwfi.2 (by omega) (by omega)).mono ?_
      rintro ev _ ⟨rfl, rfl⟩
      clear d3
      by_cases h4 : pk cv 5 = 4
      · have hq : ((pk cv 5 == 4) : Bool) = true := by rw [h4]; rfl
        rw [h4]
        go_wp2_with fail
        refine (cloneRw _ _ _ l' wr hll hroom HRW.out).mono ?_
        rintro ev wk ⟨a2, c2, rfl, hown, hbk⟩
        obtain ⟨g, rfl, hg1, hg2, hgc, hgf⟩ := own_elem encRw_length (by decide) hown hi2
        have hnc2 : n ≤ c2 ∧ c2 ≤ maxLen := by
          rcases hown.2 with ⟨h1, h2⟩ | ⟨g', cap, cur, h1, _, _, h3, h4, _⟩
          · omega
          · simp only [Value.slice.injEq] at h1
            obtain ⟨_, _, rfl⟩ := h1
            exact ⟨h3, h4⟩
        have HR7 := Hid.mk (row_c0 (own_row hown) hi2)
        have hf3 := hgf (i * 4 + 3)
        obtain ⟨_, _, _, hc3⟩ := encRw_cells hgc
        have HB7 := Hid.mk (Below.setCell (Below.step HBR.out hbk) (show w2.heap.size ≤ (⟨g, i * 4 + 3, none⟩ : Addr).block from Nat.le_trans HBR.out.size hg1) (.int .i64 0))
        have HWF7 : Hid (∀ r ∈ l'.set i l'[i].c0, r.wf) := fun r hr => by
          rcases List.mem_or_eq_of_mem_set hr with h9 | h9
          · exact HWF.out r h9
          · rw [h9]; exact Rw.c0_wf (HWF.out _ (List.getElem_mem hi2))
        have HNO7 : Hid (∀ r ∈ (l'.set i l'[i].c0).take (i + 1), pk r.c 5 ≠ 4) := fun r hr => by
          rw [List.take_succ_eq_append_getElem (by rw [List.length_set]; exact hi2), List.getElem_set_self, List.take_set_of_le (Nat.le_refl _)] at hr
          rcases List.mem_append.1 hr with h9 | h9
          · exact HNO.out r h9
          · rw [List.mem_singleton.1 h9]; exact (by decide : pk 0 5 ≠ 4)
        have hll7 : (l'.set i l'[i].c0).length = n := by rw [List.length_set]; exact hll
        clear hown hgc hgf hbk HRW HBR HWF HNO
        go_wp2_with fail
        go_roundw
        case rel => exact ⟨i + 1, c2, some ⟨g, 0, none⟩, l'.set i l'[i].c0, by omega, by go_num, rfl, HR7, hll7, hnc2.1, hnc2.2, HWF7, HNO7, HB7⟩
        case measure => simp [intOf]; omega
      · have hq : ((pk cv 5 == 4) : Bool) = false := by rw [beq_eq_false_iff_ne]; exact h4
        have HNO7 : Hid (∀ r ∈ l'.take (i + 1), pk r.c 5 ≠ 4) := fun r hr => by
          rw [List.take_succ_eq_append_getElem hi2] at hr
          rcases List.mem_append.1 hr with h9 | h9
          · exact HNO.out r h9
          · rw [List.mem_singleton.1 h9, hcv]; exact h4
        clear HNO
        go_wp2_with fail
        go_roundw
        case rel => exact ⟨i + 1, c', some ⟨bb, off, none⟩, l', by omega, by go_num, rfl, HRW, hll, hnc', hcm', HWF, HNO7, HBR⟩
        case measure => simp [intOf]; omega
    · have hie : i = n := by omega
      have HALL : Hid (∀ r ∈ l', pk r.c 5 ≠ 4) := fun r hr => HNO.out r (by rw [List.take_of_length_le (by omega)]; exact hr)
      subst hie
      have HBTr := Hid.mk (HBT.out.below HBR.out)
      have KUr := box_step HKU.out hsu HBR.out
      have hsur := Nat.lt_of_lt_of_le hsu HBR.out.size
      have HBr := Hid.mk (Below.step HB2.out HBR.out)
      have u0 := KUr 0
      have u1 := KUr 1
      have u2 := KUr 2
      have u3 := KUr 3
      have u4 := KUr 4
      simp only [List.getElem?_toArray, List.getElem?_cons_zero, List.getElem?_cons_succ] at u0 u1 u2 u3 u4
      clear HNO HBR HKU HBT HB2 HR2
      go_wp2_with fail
      refine (paged_su none 0 0 [] m1 m2 d1 d2 x y z 0 wr rfl (Nat.le_refl _) (Nat.zero_le _) (Row.nil _ _) (by simp) (by omega) HBTr.out (HO.out.mono HBr.out (Nat.le_refl _))).mono ?_
      rintro ev w3 hd3
      obtain ⟨⟨h1, hc1, aw1, ca1, away1, rfl, hh3, _, hpi0, _, hnil, _⟩, hb3⟩ := hd3
      obtain ⟨rfl, rfl⟩ := hnil rfl
      have HK0 := Hid.mk hpi0.ok
      have HRW3 := Hid.mk (HRW.out.below hb3)
      have HBT3 := Hid.mk (HBTr.out.below hb3)
      have KU3 := box_step KUr hsur hb3
      have hsu3 := Nat.lt_of_lt_of_le hsur hb3.size
      have HB3 := Hid.mk (Below.step HBr.out hb3)
      have HMIN := Hid.mk (suH_min x y z)
      clear u0 u1 u2 u3 u4 KUr hsur HRW HBTr HBr hnil hpi0 hb3
      unfold Hc.vals
      go_upto_region 12 with fail
      have hb4 := below_alloc w3 (.cells #[.slice hc1.az 2 hc1.cz, .slice hc1.am 2 hc1.cm, .int .i64 ((suH x y z).cpus : Int), .slice hc1.al hc1.lc.length hc1.cl, .slice hc1.av (suH x y z).live.length hc1.cv] 34)
      have K11 := box_new w3 #[.slice hc1.az 2 hc1.cz, .slice hc1.am 2 hc1.cm, .int .i64 ((suH x y z).cpus : Int), .slice hc1.al hc1.lc.length hc1.cl, .slice hc1.av (suH x y z).live.length hc1.cv] 34
      have hs11 := box_lt w3 (.cells #[.slice hc1.az 2 hc1.cz, .slice hc1.am 2 hc1.cm, .int .i64 ((suH x y z).cpus : Int), .slice hc1.al hc1.lc.length hc1.cl, .slice hc1.av (suH x y z).live.length hc1.cv] 34)
      have KU4 := box_step KU3 hsu3 hb4
      have hsu4 := Nat.lt_of_lt_of_le hsu3 hb4.size
      have HF4 := Hid.mk (hh3.below hb4)
      have HRW4 := Hid.mk (HRW3.out.below hb4)
      have HBT4 := Hid.mk (HBT3.out.below hb4)
      have HB4 := Hid.mk (Below.step HB3.out hb4)
      clear hb4 KU3 hsu3 hh3 HRW3 HBT3 HB3
      generalize w3.alloc (.cells #[.slice hc1.az 2 hc1.cz, .slice hc1.am 2 hc1.cm, .int .i64 ((suH x y z).cpus : Int), .slice hc1.al hc1.lc.length hc1.cl, .slice hc1.av (suH x y z).live.length hc1.cv] 34) = w4 at *
      obtain ⟨B11, hB11⟩ : ∃ B, w3.heap.size = B := ⟨_, rfl⟩
      rw [hB11] at K11 hs11 ⊢
      clear hB11
      have u0 := KU4 0
      have u1 := KU4 1
      have u2 := KU4 2
      have u3 := KU4 3
      have u4 := KU4 4
      simp only [List.getElem?_toArray, List.getElem?_cons_zero, List.getElem?_cons_succ] at u0 u1 u2 u3 u4
      go_wp2_with fail
      refine (paged_su a' _ c' l' m1 m2 d1 d2 x y z 70 w4 hll hnc' hcm' HRW4.out HWF.out (by omega) HBT4.out (HO.out.mono HB4.out (Nat.le_refl _))).mono ?_
      rintro ev w5 hd5
      obtain ⟨⟨h, hc, aw, ca, away, rfl, hh5, _, hpi, _, _, hheld⟩, hb5⟩ := hd5
      have HPI := Hid.mk hpi
      have HHE := Hid.mk (hheld HALL.out)
      have K11a := box_step K11 hs11 hb5
      have hs11a := Nat.lt_of_lt_of_le hs11 hb5.size
      have KU5 := box_step KU4 hsu4 hb5
      have hsu5 := Nat.lt_of_lt_of_le hsu4 hb5.size
      have HF5 := Hid.mk (HF4.out.below hb5)
      have HB5 := Hid.mk (Below.step HB4.out hb5)
      clear u0 u1 u2 u3 u4 K11 hs11 KU4 hsu4 HF4 HRW4 HBT4 HB4 hpi hheld hb5 HALL
      unfold Hc.vals
      obtain ⟨h0, hh0⟩ : ∃ h0, suH x y z = h0 := ⟨_, rfl⟩
      rw [hh0] at HF5 HPI HK0 HHE K11a HMIN ⊢
      clear hh0
      go_upto_region 13 with fail
      have hb6 := below_alloc w5 (.cells #[.slice hc.az 2 hc.cz, .slice hc.am 2 hc.cm, .int .i64 (h.cpus : Int), .slice hc.al hc.lc.length hc.cl, .slice hc.av h.live.length hc.cv] 34)
      have K14 := box_new w5 #[.slice hc.az 2 hc.cz, .slice hc.am 2 hc.cm, .int .i64 (h.cpus : Int), .slice hc.al hc.lc.length hc.cl, .slice hc.av h.live.length hc.cv] 34
      have hs14 := box_lt w5 (.cells #[.slice hc.az 2 hc.cz, .slice hc.am 2 hc.cm, .int .i64 (h.cpus : Int), .slice hc.al hc.lc.length hc.cl, .slice hc.av h.live.length hc.cv] 34)
      have K11b := box_step K11a hs11a hb6
      have hs11b := Nat.lt_of_lt_of_le hs11a hb6.size
      have KU6 := box_step KU5 hsu5 hb6
      have hsu6 := Nat.lt_of_lt_of_le hsu5 hb6.size
      have HF6 := Hid.mk (HF5.out.below hb6)
      have HH6 := Hid.mk (hh5.below hb6)
      have HB6 := Hid.mk (Below.step HB5.out hb6)
      clear hb6 K11a hs11a KU5 hsu5 HF5 hh5 HB5
      generalize w5.alloc (.cells #[.slice hc.az 2 hc.cz, .slice hc.am 2 hc.cm, .int .i64 (h.cpus : Int), .slice hc.al hc.lc.length hc.cl, .slice hc.av h.live.length hc.cv] 34) = w6 at *
      obtain ⟨B14, hB14⟩ : ∃ B, w5.heap.size = B := ⟨_, rfl⟩
      rw [hB14] at K14 hs14 ⊢
      clear hB14
      have v0 := K14 0
      simp only [List.getElem?_toArray, List.getElem?_cons_zero, List.getElem?_cons_succ] at v0
      obtain ⟨wo, rfl⟩ : ∃ wo, wo = wr := ⟨_, rfl⟩
      go_wp2_with fail
      clear v0
      go_loopw [64] (fun s64 wr => ∃ k : Nat, k ≤ 2 ∧ s64 = .int .i64 (k : Int) ∧ Hid (Below w6.heap.size w6 wr)) (fun s64 _ => 2 - (intOf s64).toNat)
      case atStart => exact ⟨0, Nat.zero_le _, rfl, Below.refl _ _⟩
      case round =>
        obtain ⟨k, hk, rfl, HBk⟩ := hrel
        by_cases hlt2 : k < 2
        · have hlti : (k : Int) < 2 := by omega
          have HHr := Hid.mk (HH6.out.below HBk.out)
          obtain ⟨b, off, zc, hzc, hb, ⟨e0, e1, e2, e3⟩, hzt⟩ := HHr.out.zc hlt2
          have hzk := HPI.out.ok.zone k
          have hheld := HHE.out k hlt2
          have hzk0 := HK0.out.zone k
          have hmin := HMIN.out k
          have HZT := Hid.mk hzt
          have HZK := Hid.mk hzk
          have HZK0 := Hid.mk hzk0
          rw [hzc]
          clear hzt hzk hzk0
          generalize h.zone k = z9 at *
          go_upto_region 16 with fail
          have hbz := below_alloc wr (.cells #[.int .i64 (z9.f : Int), .int .i64 (z9.e : Int), .slice zc.a1 zc.n1 zc.c1, .slice zc.a2 zc.n2 zc.c2] 55)
          have KZ := box_new wr #[.int .i64 (z9.f : Int), .int .i64 (z9.e : Int), .slice zc.a1 zc.n1 zc.c1, .slice zc.a2 zc.n2 zc.c2] 55
          have HZT5 := Hid.mk (HZT.out.below hbz)
          have HB7 := Hid.mk (Below.step HBk.out hbz)
          clear hbz e0 e1 e2 e3 hb HHr HZT
          generalize wr.alloc (.cells #[.int .i64 (z9.f : Int), .int .i64 (z9.e : Int), .slice zc.a1 zc.n1 zc.c1, .slice zc.a2 zc.n2 zc.c2] 55) = w7 at *
          obtain ⟨BZ, hBZ⟩ : ∃ BZ, wr.heap.size = BZ := ⟨_, rfl⟩
          rw [hBZ] at KZ ⊢
          clear hBZ
          have q0 := KZ 0
          have q1 := KZ 1
          have q2 := KZ 2
          have q3 := KZ 3
          simp only [List.getElem?_toArray, List.getElem?_cons_zero, List.getElem?_cons_succ] at q0 q1 q2 q3
          go_wp2_with fail
          refine (pages_ok _ _ _ _ _ _ z9 w7 HZT5.out HZK.out).mono ?_
          rintro ev w8 ⟨rfl, hb8⟩
          have HB8 := Hid.mk (Below.step HB7.out hb8)
          clear q0 q1 q2 q3 KZ hb8
          have f0 := (box_step K11b hs11b HB8.out) 0
          have u3 := (box_step KU6 hsu6 HB8.out) 3
          have hsu8 := Nat.lt_of_lt_of_le hsu6 HB8.out.size
          simp only [List.getElem?_toArray, List.getElem?_cons_zero, List.getElem?_cons_succ] at f0 u3
          have HF8 := Hid.mk (HF6.out.below HB8.out)
          obtain ⟨b2, off2, zc2, hzc2, hb2', ⟨e0, e1, e2, e3⟩, hzt2⟩ := HF8.out.zc hlt2
          have HZT2 := Hid.mk hzt2
          rw [hzc2] at f0
          clear hzt2 hzc2
          generalize h0.zone k = z8 at *
          go_wp2_with fail
          refine (pages_ok _ _ _ _ _ _ z8 w8 HZT2.out HZK0.out).mono ?_
          rintro ev w9 ⟨rfl, hb9⟩
          have HB9 := Hid.mk (Below.step HB8.out hb9)
          have u3' := (hb9.cell (p := ⟨U, 3, none⟩) hsu8).trans u3
          have hle9 : min (pk y 12) ((sumB z8.l : Nat) : Int) ≤ ((sumB z9.l : Nat) : Int) := by
            rw [sumB_sz, sumB_sz]
            rw [hmin] at hheld
            have p12 := pk_in y (m := 12) (by decide)
            omega
          clear f0 u3 e0 e1 e2 e3 hheld hmin HF8 hb2' hb9
          generalize sumB z8.l = S8 at *
          generalize sumB z9.l = S9 at *
          by_cases hms : (S8 : Int) < pk y 12
          · skip
            have hnlt : ¬ (S9 : Int) < S8 := by omega
            have hdec : decide ((S9 : Int) < S8) = false := decide_eq_false hnlt
            go_wp2_with fail
            go_roundw
            case rel => exact ⟨k + 1, by omega, by go_num, HB9⟩
            case measure => simp [intOf]; omega
          · skip
            have hnlt : ¬ (S9 : Int) < pk y 12 := by omega
            have hdec : decide ((S9 : Int) < pk y 12) = false := decide_eq_false hnlt
            go_wp2_with fail
            go_roundw
            case rel => exact ⟨k + 1, by omega, by go_num, HB9⟩
            case measure => simp [intOf]; omega
        · obtain rfl : k = 2 := by omega
          have HB9 := Hid.mk (Below.step HB6.out HBk.out)
          go_wp2
          go_ret
          exact ⟨rfl, HB9.out⟩
end Go.Proofs.YtjljcifpcljlaaaDoor
/- How many raw numbers a slice that came in may have. -/
namespace Go.Proofs.YtjljcifpcljlaaaDoor
open Go.RowKit Go.WideShapes Go.ChangeShapes
set_option linter.unusedVariables false
theorem arg_room {H : Type} {enc : TypeId × Value → H} {W : World} {a : Option Addr} {n c : Nat} {d : DataW H} {p : List MemPlace}
    (h : DataW.Trod enc Tryd.prog W 0 (fun _ => true) true 22 (.slice a n c) d p) : n = 0 ∨ ∃ elems spare, d = .slice elems spare ∧ elems.length = n := by
  obtain ⟨fuel, hf⟩ := h
  rcases DataW.trod_slice Tryd.underlying22 hf with ⟨hcs, _⟩ | ⟨ad, len, cap, elems, rest, m, _, hcs, hx, _, hl, hm, hlen, hel, _, _⟩
  · simp only [Value.cells, List.cons.injEq, Value.slice.injEq, and_true] at hcs
    exact .inl hcs.2.1
  · simp only [Value.cells, List.cons.injEq, Value.slice.injEq, and_true] at hcs
    obtain ⟨rfl, rfl, rfl⟩ := hcs
    simp only [Prod.mk.injEq] at hx
    exact .inr ⟨_, _, hx.1, by rw [List.length_map]; exact hlen⟩
end Go.Proofs.YtjljcifpcljlaaaDoor
