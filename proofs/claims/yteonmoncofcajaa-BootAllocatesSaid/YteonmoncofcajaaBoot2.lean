/- Contracts of package boot: pages (which pages are in regions). -/
import Derived.Test.YteonmoncofcajaaBoot1
namespace Go.Proofs.Yteonmoncofcajaa
open Go.RowKit
set_option linter.unusedVariables false

def vB (b : Bool) : Value := .bool b
/-- 256 marks -/
def bl (f : Nat → Bool) : List Bool := (List.range 256).map f
theorem bl_length (f : Nat → Bool) : (bl f).length = 256 := by simp [bl]
theorem bl_congr {f g : Nat → Bool} (h : ∀ p, p < 256 → f p = g p) : bl f = bl g := List.map_congr_left fun p hp => h p (List.mem_range.1 hp)
theorem bl_get (f : Nat → Bool) (i : Nat) (h : i < 256) : (bl f)[i]? = some (f i) := by simp [bl, h]
theorem bl_set (f : Nat → Bool) (i : Nat) (v : Bool) : (bl f).set i v = bl (fun p => if p = i then v else f p) := by
  apply List.ext_getElem?
  intro j
  rw [List.getElem?_set]
  by_cases hj : j < 256
  · rw [bl_get _ j hj, bl_get _ j hj, bl_length]
    by_cases e : i = j
    · subst e; simp [hj]
    · rw [if_neg e, if_neg (fun h => e h.symm)]
  · have h1 : (bl f)[j]? = none := List.getElem?_eq_none (by rw [bl_length]; omega)
    have h2 : (bl (fun p => if p = i then v else f p))[j]? = none := List.getElem?_eq_none (by rw [bl_length]; omega)
    rw [h1, h2, bl_length]
    split
    · rw [if_neg (by omega)]
    · rfl

def inOne (r : Rg) (p : Nat) : Bool := decide (r.f ≤ (p : Int) ∧ (p : Int) < r.f + r.s)
def inRg (l : List Rg) (p : Nat) : Bool := l.any fun r => inOne r p

theorem ck_small {r : Rg} (h : ckRg r = true) : r.small := by
  have := ck_parts h
  unfold Rg.small
  omega

theorem rgFrom_all : ∀ (l : List Rg) (p : Option Rg), rgFrom p l = true → ∀ r ∈ l, ckRg r = true
  | [], _, _, r, hr => by simp at hr
  | x :: l, p, h, r, hr => by
    simp only [rgFrom, Bool.and_eq_true] at h
    rcases List.mem_cons.1 hr with rfl | hr
    · exact h.1.1
    · exact rgFrom_all l (some x) h.2 r hr
theorem listOk_all {l : List Rg} (h : listOk l = true) : ∀ r ∈ l, ckRg r = true := by
  simp only [listOk, Bool.and_eq_true] at h
  exact rgFrom_all l none h.2
theorem listOk_small {l : List Rg} (h : listOk l = true) : ∀ r ∈ l, r.small := fun r hr => ck_small (listOk_all h r hr)
theorem listOk_len {l : List Rg} (h : listOk l = true) : l.length ≤ 40 := by
  simp only [listOk, Bool.and_eq_true, decide_eq_true_eq] at h
  exact h.1

theorem info_bool : (Try.prog.info? 4).map (fun i => (i.zero, i.size, i.bytes)) = some (some (.bool false), 1, 1) := by kernel_rfl
theorem bl_zero : (List.replicate 256 (Value.bool false)) = (bl fun _ => false).map vB := by
  rw [show (bl fun _ => false) = List.replicate 256 false from by decide +kernel, List.map_replicate]
  rfl

theorem inRg_take_succ (l : List Rg) (k : Nat) (hk : k < l.length) (p : Nat) : inRg (l.take (k + 1)) p = (inRg (l.take k) p || inOne l[k] p) := by
  unfold inRg
  rw [List.take_succ_eq_append_getElem hk, List.any_append]
  simp

theorem pages_any (a : Option Addr) (n cap : Nat) (l : List Rg) (w : World) (hn : l.length = n) (hr : Row w a (flat encRg l)) (hok : ∀ r ∈ l, ckRg r = true) (hl : n ≤ 9223372036854775807) :
    Calls Try.prog 38 #[.slice a n cap] w fun e w' => ∃ a' c', e = .returned (.slice a' 256 c') ∧ w'.ownsRow w.heap.size 4 1 (.slice a' 256 c') 256 ((bl (inRg l)).map vB) ∧ Below w.heap.size w w' := by
  subst hn
  obtain ⟨i0, hi, hz, hsize, hby⟩ := info_parts info_bool
  go_enter Try.func38, Try.ntmps38
  go_wp2_with (at_make; refine wpList_make_full _ rfl _ _ 68 rfl w.heap.size 4 i0 (.bool false) 1 Try.underlying68 hi hz hsize .i64 .i64 _ _ 256 rfl rfl rfl rfl ?q1 ?q2 ?q3 ?_)
  case q1 => rw [hby]; omega
  case q2 => unfold maxLen; omega
  case q3 => exact Nat.le_refl _
  intro w1 hown hgrow
  rw [toList_madeCells_one, bl_zero] at hown
  have HO := Hid.mk hown
  have hbw := (Below.refl w.heap.size w).grown hgrow (Nat.le_refl _) (by simp)
  clear hown hgrow
  go_wp2
  go_loopw [5, 6, 10] (fun _ _ s10 wr => ∃ k : Nat, k ≤ l.length ∧ s10 = .int .i64 k ∧ Hid (wr.ownsRow w.heap.size 4 1 (.slice (some ⟨w.heap.size, 0, none⟩) 256 256) 256 ((bl (inRg (l.take k))).map vB)) ∧ Below w.heap.size w wr) (fun _ _ s10 _ => l.length - (intOf s10).toNat)
  case atStart => exact ⟨0, Nat.zero_le _, rfl, HO, hbw⟩
  case round =>
    obtain ⟨k, hk, rfl, hown, hbw⟩ := hrel
    by_cases hlt : k < l.length
    · obtain ⟨b, off, rfl, hb, hc⟩ := row_elem encRg_length (by decide) (hr.below hbw) hlt
      have hc0 := hc 0 (vI l[k].f) rfl
      have hc1 := hc 1 (vI l[k].s) rfl
      simp only [vI, Nat.add_zero] at hc0 hc1
      have hck := hok l[k] (List.getElem_mem hlt)
      obtain ⟨g1, g2, g3, g4⟩ := ck_parts hck
      have hsm := ck_small hck
      have hsucc := inRg_take_succ l k hlt
      generalize hrr : l[k] = r at *
      clear hrr hok
      obtain ⟨f, s⟩ := r
      simp only at g1 g2 g3 g4 hc0 hc1
      obtain ⟨f, rfl⟩ := Int.eq_ofNat_of_zero_le g1
      obtain ⟨s, rfl⟩ := Int.eq_ofNat_of_zero_le (show (0 : Int) ≤ s by omega)
      have HSUCC := Hid.mk hsucc
      clear hsucc
      go_wp2
      have hb2 : Below w.heap.size w (wr.alloc (.cells #[.int .i64 (f : Int), .int .i64 (s : Int)] 51)) := hbw.alloc hbw.size _
      have B2 := box_new wr #[.int .i64 (f : Int), .int .i64 (s : Int)] 51
      have hs2 : wr.heap.size < (wr.alloc (.cells #[.int .i64 (f : Int), .int .i64 (s : Int)] 51)).heap.size := by simp
      have HO2 := Hid.mk (own_below hown.out (below_alloc wr (.cells #[.int .i64 (f : Int), .int .i64 (s : Int)] 51)) (Nat.le_refl _))
      have hne : w.heap.size < wr.heap.size := by
        obtain ⟨g, v, e, _, h, _⟩ := own_cell hown.out 0 (by simp [bl_length])
        obtain rfl : w.heap.size = g := by simpa using e
        exact h
      generalize wr.alloc (.cells #[.int .i64 (f : Int), .int .i64 (s : Int)] 51) = w2 at *
      generalize wr.heap.size = bb at *
      go_loopw [6] (fun s6 wq => ∃ i : Nat, f ≤ i ∧ i ≤ f + s ∧ s6 = .int .i64 i ∧ Hid (wq.ownsRow w.heap.size 4 1 (.slice (some ⟨w.heap.size, 0, none⟩) 256 256) 256 ((bl (fun p => inRg (l.take k) p || (decide (f ≤ p) && decide (p < i)))).map vB)) ∧ Below w.heap.size w wq ∧ Hid (∀ o, wq.cell? ⟨bb, o, none⟩ = (#[.int .i64 (f : Int), .int .i64 (s : Int)] : Array Value)[o]?) ∧ bb < wq.heap.size) (fun s6 _ => 256 - (intOf s6).toNat)
      case atStart =>
        refine ⟨f, Nat.le_refl _, by omega, rfl, ?_, hb2, B2, hs2⟩
        rw [show bl (fun p => inRg (l.take k) p || (decide (f ≤ p) && decide (p < f))) = bl (inRg (l.take k)) from bl_congr fun p _ => by
          have : (decide (f ≤ p) && decide (p < f)) = false := by
            by_cases h : f ≤ p
            · rw [decide_eq_false (show ¬ p < f by omega), Bool.and_false]
            · rw [decide_eq_false h, Bool.false_and]
          rw [this, Bool.or_false]]
        exact HO2
      case round =>
        obtain ⟨i, hi1, hi2, rfl, hown3, hb3, HB3, hs3⟩ := hrel
        have B3 := HB3.out
        clear B2 HO2 HO hs2 hb2
        by_cases hlti : i < f + s
        · go_wp2_with fail
          refine (end_any ⟨(f : Int), (s : Int)⟩ _ hsm).mono ?_
          rintro e w4 ⟨rfl, hb4⟩
          have B4 := box_step B3 hs3 hb4
          have hown4 := own_below hown3.out hb4 (Nat.le_refl _)
          have hb5 := Below.step hb3 hb4
          have hs4 : bb < w4.heap.size := Nat.lt_of_lt_of_le hs3 hb4.size
          obtain ⟨g, v, e, hg, hgs, hcg, hfg⟩ := own_cell hown4 i (by rw [List.length_map, bl_length]; omega)
          obtain rfl : w.heap.size = g := by simpa using e
          have HO4 := Hid.mk hown4
          clear B3 hown4 hown3 e
          go_wp2
          go_roundw
          case rel =>
            refine ⟨i + 1, by omega, by omega, by go_num, ?_, hb5.setCell (Nat.le_refl _) _, ?_, by simpa using hs4⟩
            · have h := (World.ownsRow.stored HO4.out i (vB true)).1
              rw [← List.map_set, bl_set] at h
              rw [show bl (fun p => inRg (l.take k) p || (decide (f ≤ p) && decide (p < i + 1))) = bl (fun p => if p = i then true else inRg (l.take k) p || (decide (f ≤ p) && decide (p < i))) from bl_congr fun p _ => by
                by_cases e : p = i
                · subst e
                  rw [if_pos rfl, decide_eq_true hi1, decide_eq_true (Nat.lt_succ_self p)]; simp
                · rw [if_neg e, decide_eq_decide.2 (show p < i + 1 ↔ p < i by omega)]]
              exact h
            · intro o
              simp [go_sem, B4]
          case measure => simp [intOf]; omega
        · obtain rfl : i = f + s := by omega
          go_wp2_with fail
          refine (end_any ⟨(f : Int), (s : Int)⟩ _ hsm).mono ?_
          rintro e w4 ⟨rfl, hb4⟩
          have hb5 := Below.step hb3 hb4
          have hown4 := Hid.mk (own_below hown3.out hb4 (Nat.le_refl _))
          clear B3 hown3
          go_wp2
          go_roundw
          case rel =>
            refine ⟨k + 1, by omega, by go_num, ?_, hb5⟩
            rw [show bl (inRg (l.take (k + 1))) = bl (fun p => inRg (l.take k) p || (decide (f ≤ p) && decide (p < f + s))) from bl_congr fun p _ => by
              rw [HSUCC.out p]
              congr 1
              unfold inOne
              rw [← Bool.decide_and]
              exact decide_eq_decide.2 (by simp only; omega)]
            exact hown4.out
          case measure => simp [intOf]; omega
    · obtain rfl : k = l.length := by omega
      rw [List.take_of_length_le (Nat.le_refl _)] at hown
      go_wp2
      go_ret
      exact ⟨_, _, rfl, hown.out, hbw⟩
end Go.Proofs.Yteonmoncofcajaa
