/- Rgc, Mb, PagesApartWalk: texts of this claim, joined. -/
import Derived.Test.YtjljcifpcljlaaaDoorPM1
import Derived.Test.YtjljcifpcljlaaaDoorPM15
import Derived.Test.YtjljcifpcljlaaaDoorPM4
import Derived.Test.YtjljcifpcljlaaaDoorPM6
import Derived.Shelf.Abstract
import Derived.OpenShut
import Derived.ProofKit
/- Contracts: slices.IndexFunc and slices.ContainsFunc at Region. -/
namespace Go.Proofs.YtjljcifpcljlaaaDoor
open Go.RowKit
set_option linter.unusedVariables false

theorem encRg_cells {w : World} {b o : Nat} {r : Rg} (hc : ∀ i v, (encRg r)[i]? = some v → w.cell? ⟨b, o + i, none⟩ = some v) : w.cell? ⟨b, o, none⟩ = some (.int .i64 r.f) ∧ w.cell? ⟨b, o + 1, none⟩ = some (.int .i64 r.s) := ⟨hc 0 _ rfl, hc 1 _ rfl⟩

/-- slices.IndexFunc at api.Region, with a predicate that may lay blocks of its own -/
theorem indexFuncRg (a : Option Addr) (n cap : Nat) (l : List Rg) (g : Nat) (lb : Array Value) (p : Rg → Bool) (w : World) (hn : l.length = n) (hl : n ≤ 9223372036854775807) (hr : Row w a (flat encRg l)) (eg : ∀ args w, (callFunc g args).run Tryd.prog w = .ok (.enter g args) w)
    (hp : ∀ W, Below w.heap.size w W → ∀ x ∈ l, Calls Tryd.prog g (#[.agg (encRg x).toArray] ++ lb) W fun e w' => e = .returned (.bool (p x)) ∧ Below W.heap.size W w') :
    Calls Tryd.prog 38 #[.slice a n cap, .func (.func g) #[] lb] w fun e w' => e = .returned (.int .i64 (findI p l)) ∧ Below w.heap.size w w' := by
  subst hn
  go_enter Tryd.func38, Tryd.ntmps38
  go_wp2
  go_loopw [5, 8] (fun _ s8 wr => ∃ k : Nat, k ≤ l.length ∧ s8 = .int .i64 k ∧ Hid (∀ x ∈ l.take k, p x = false) ∧ Below w.heap.size w wr) (fun _ s8 _ => l.length - (intOf s8).toNat)
  case atStart => exact ⟨0, Nat.zero_le _, rfl, by simp [Hid], Below.refl _ _⟩
  case round =>
    obtain ⟨k, hk, rfl, hnot, hbw⟩ := hrel
    by_cases hlt : k < l.length
    · obtain ⟨b, off, rfl, hb, hc⟩ := row_elem encRg_length (by decide) (hr.below hbw) hlt
      obtain ⟨hc0, hc1⟩ := encRg_cells hc
      skip
      have hcall := hp wr hbw l[k] (List.getElem_mem hlt)
      clear hr hp hc
      cases hv : p l[k] with
      | true =>
        have HH := Hid.mk (findI_hit hlt hv hnot.out)
        rw [hv] at hcall
        generalize l[k] = y at *
        go_wp2_with (go_at_fn g; refine hcall.mono ?_; rintro e w' ⟨rfl, hb'⟩)
        go_ret
        exact ⟨ret_int HH.out.symm, Below.step hbw hb'⟩
      | false =>
        rw [hv] at hcall
        have HH : Hid (∀ x ∈ l.take (k + 1), p x = false) := fun x hx => by
          rw [List.take_succ_eq_append_getElem hlt, List.mem_append, List.mem_singleton] at hx
          rcases hx with hx | rfl
          · exact hnot.out x hx
          · exact hv
        generalize l[k] = y at *
        go_wp2_with (go_at_fn g; refine hcall.mono ?_; rintro e w' ⟨rfl, hb'⟩)
        go_roundw
        case rel => exact ⟨k + 1, by omega, by go_num, HH.out, Below.step hbw hb'⟩
        case measure => simp [intOf]; omega
    · obtain rfl : k = l.length := by omega
      go_wp2
      go_ret
      exact ⟨ret_int (findI_miss (by simpa [Hid] using hnot)).symm, hbw⟩

/-- slices.ContainsFunc at api.Region -/
theorem containsFuncRg (a : Option Addr) (n cap : Nat) (l : List Rg) (g : Nat) (lb : Array Value) (p : Rg → Bool) (w : World) (hn : l.length = n) (hl : n ≤ 9223372036854775807) (hr : Row w a (flat encRg l)) (eg : ∀ args w, (callFunc g args).run Tryd.prog w = .ok (.enter g args) w)
    (hp : ∀ W, Below w.heap.size w W → ∀ x ∈ l, Calls Tryd.prog g (#[.agg (encRg x).toArray] ++ lb) W fun e w' => e = .returned (.bool (p x)) ∧ Below W.heap.size W w') :
    Calls Tryd.prog 14 #[.slice a n cap, .func (.func g) #[] lb] w fun e w' => e = .returned (.bool (l.any p)) ∧ Below w.heap.size w w' := by
  go_enter Tryd.func14, Tryd.ntmps14
  go_wp2_with (go_at_call 38; refine (indexFuncRg _ _ _ l _ _ p _ hn hl hr eg hp).mono ?_; rintro e w' ⟨rfl, hb'⟩)
  go_ret
  exact ⟨ret_bool (findI_nonneg p l), hb'⟩


theorem inRgn1 (x : Rg) (p B : Nat) (W : World) (hx : ckRg x = true) (hp : p ≤ 1000) (hB : B < W.heap.size) (hc : W.cell? ⟨B, 0, none⟩ = some (.int .i64 p)) :
    Calls Tryd.prog 15 (#[.agg (encRg x).toArray] ++ #[.pointer (some ⟨B, 0, none⟩)]) W fun ev w' => ev = .returned (.bool (inOne x p)) ∧ Below W.heap.size W w' := by
  show Calls Tryd.prog 15 #[.agg #[.int .i64 x.f, .int .i64 x.s], .pointer (some ⟨B, 0, none⟩)] W _
  have hne : B ≠ W.heap.size := by omega
  have hck := ck_parts hx
  have HB := Hid.mk (below_alloc W (.cells #[.int .i64 x.f, .int .i64 x.s] 47))
  by_cases h1 : x.f ≤ (p : Int)
  · go_enter Tryd.func15, Tryd.ntmps15
    go_wp2
    go_ret
    refine ⟨ret_bool ?_, HB.out⟩
    unfold inOne
    by_cases h2 : (p : Int) < x.f + x.s
    · rw [decide_eq_true (And.intro h1 h2)]
      exact decide_eq_true h2
    · rw [decide_eq_false (fun h : x.f ≤ (p : Int) ∧ (p : Int) < x.f + x.s => h2 h.2)]
      exact decide_eq_false h2
  · go_enter Tryd.func15, Tryd.ntmps15
    go_wp2
    go_ret
    refine ⟨ret_bool ?_, HB.out⟩
    unfold inOne
    symm
    exact decide_eq_false (fun h => absurd h.1 (by omega))
theorem inRgn2 (x : Rg) (p B : Nat) (W : World) (hx : ckRg x = true) (hp : p ≤ 1000) (hB : B < W.heap.size) (hc : W.cell? ⟨B, 0, none⟩ = some (.int .i64 p)) :
    Calls Tryd.prog 16 (#[.agg (encRg x).toArray] ++ #[.pointer (some ⟨B, 0, none⟩)]) W fun ev w' => ev = .returned (.bool (inOne x p)) ∧ Below W.heap.size W w' := by
  show Calls Tryd.prog 16 #[.agg #[.int .i64 x.f, .int .i64 x.s], .pointer (some ⟨B, 0, none⟩)] W _
  have hne : B ≠ W.heap.size := by omega
  have hck := ck_parts hx
  have HB := Hid.mk (below_alloc W (.cells #[.int .i64 x.f, .int .i64 x.s] 47))
  by_cases h1 : x.f ≤ (p : Int)
  · go_enter Tryd.func16, Tryd.ntmps16
    go_wp2
    go_ret
    refine ⟨ret_bool ?_, HB.out⟩
    unfold inOne
    by_cases h2 : (p : Int) < x.f + x.s
    · rw [decide_eq_true (And.intro h1 h2)]
      exact decide_eq_true h2
    · rw [decide_eq_false (fun h : x.f ≤ (p : Int) ∧ (p : Int) < x.f + x.s => h2 h.2)]
      exact decide_eq_false h2
  · go_enter Tryd.func16, Tryd.ntmps16
    go_wp2
    go_ret
    refine ⟨ret_bool ?_, HB.out⟩
    unfold inOne
    symm
    exact decide_eq_false (fun h => absurd h.1 (by omega))
end Go.Proofs.YtjljcifpcljlaaaDoor
/- Marks of pages: the array [256]bool in a block. -/
namespace Go.Proofs.YtjljcifpcljlaaaDoor
open Go.RowKit
set_option linter.unusedVariables false

def arrC (f : Nat → Bool) : Array Value := ((List.range 256).map fun p => Value.bool (f p)).toArray
theorem arrC_size (f : Nat → Bool) : (arrC f).size = 256 := by simp [arrC]
theorem arrC_get (f : Nat → Bool) (p : Nat) (h : p < 256) : (arrC f)[p]? = some (.bool (f p)) := by
  unfold arrC
  rw [List.getElem?_toArray, List.getElem?_map, List.getElem?_range h]
  rfl
theorem arrC_set (f g : Nat → Bool) (q : Nat) (hq : q < 256) (v : Bool) (hv : g q = v) (h : ∀ p, p < 256 → p ≠ q → g p = f p) : (arrC f).setIfInBounds q (.bool v) = arrC g := by
  apply Array.ext_getElem?
  intro i
  rw [Array.getElem?_setIfInBounds]
  by_cases hi : i < 256
  · rw [arrC_get g i hi]
    by_cases hiq : q = i
    · subst hiq
      rw [if_pos rfl, if_pos (by rw [arrC_size]; omega), hv]
    · rw [if_neg hiq, arrC_get f i hi, h i hi (fun e => hiq e.symm)]
  · rw [Array.getElem?_eq_none (show (arrC g).size ≤ i by rw [arrC_size]; omega), if_neg (by omega), Array.getElem?_eq_none (show (arrC f).size ≤ i by rw [arrC_size]; omega)]
theorem arrC_congr {f g : Nat → Bool} (h : ∀ p, p < 256 → f p = g p) : arrC f = arrC g := by
  unfold arrC
  congr 1
  exact List.map_congr_left fun p hp => by rw [h p (List.mem_range.1 hp)]
theorem markC_next (f : Nat → Bool) (a q : Nat) (h : a ≤ q) (hq : q < 256) : (arrC (marked f a q)).setIfInBounds q (.bool true) = arrC (marked f a (q + 1)) := by
  refine arrC_set _ _ q hq true ?_ fun p hp hne => ?_
  · unfold marked; rw [decide_eq_true (by omega), Bool.or_true]
  · unfold marked
    congr 1
    exact decide_eq_decide.2 (by omega)
theorem zero_arrC : Tryd.zeroCells44 = arrC (fun _ => false) := by kernel_rfl

/-- the marks in memory -/
structure MbS (W : World) (G : Nat) (f : Nat → Bool) : Prop where
  k : ∀ o, W.cell? ⟨G, o, none⟩ = (arrC f)[o]?
  fz : ∀ o, W.frozen? ⟨G, o, none⟩ = false
  hi : G < W.heap.size
theorem MbS.below {W W' : World} {G : Nat} {f : Nat → Bool} (h : MbS W G f) (hb : Below W.heap.size W W') : MbS W' G f := ⟨box_step h.k h.hi hb, frz_step h.fz h.hi hb, Nat.lt_of_lt_of_le h.hi hb.size⟩
theorem MbS.mark {W : World} {G : Nat} {f g : Nat → Bool} (h : MbS W G f) (q : Nat) (v : Bool) (he : (arrC f).setIfInBounds q (.bool v) = arrC g) : MbS (W.setCell ⟨G, q, none⟩ (.bool v)) G g := ⟨he ▸ box_set h.k q _, frz_set h.fz _ _, by simpa using h.hi⟩
theorem MbS.far {W : World} {G : Nat} {f : Nat → Bool} (h : MbS W G f) {g : Nat} (hne : G ≠ g) (i : Nat) (v : Value) : MbS (W.setCell ⟨g, i, none⟩ v) G f := ⟨box_set_other h.k hne i v, frz_set h.fz _ _, by simpa using h.hi⟩
theorem MbS.congr {W : World} {G : Nat} {f g : Nat → Bool} (h : MbS W G f) (hfg : ∀ p, p < 256 → f p = g p) : MbS W G g := ⟨by rw [← arrC_congr hfg]; exact h.k, h.fz, h.hi⟩
end Go.Proofs.YtjljcifpcljlaaaDoor
/- The walk of paddockkeep.PagesApart. -/
namespace Go.Proofs.YtjljcifpcljlaaaDoor
open Go.RowKit Go.WideShapes Go.ChangeShapes
set_option linter.unusedVariables false
set_option linter.unusedSimpArgs false

/-- a page that is away is there, and not reserved -/
theorem away_free {a b c : Int} {h : Hp} {away : List Bk} (hp : PInv (suH a b c) h away) {x : Bk} (hx : x ∈ away) {p : Nat} (h1 : x.a ≤ p) (h2 : p < x.fin) : inRg (suB a b c).m p = true ∧ inRg (suB a b c).r p = false ∧ p < 256 := by
  have hkm : keyB x ∈ h.live.map keyB := hp.lv.mem_iff.1 (List.mem_map_of_mem hx)
  obtain ⟨b9, hb9, e9⟩ := List.mem_map.1 hkm
  simp only [keyB, Prod.mk.injEq] at e9
  have hf := (hp.ok.lv b9 hb9).1
  have he := fits_end (by decide) hf
  have c1 : 0 < cnt h.live p := cnt_pos.2 ⟨b9, hb9, by unfold Bk.fin at h2; unfold inB; rw [e9.1, e9.2]; exact ⟨h1, h2⟩⟩
  have hp256 : p < 256 := by unfold Bk.fin at h2; rw [e9.1, e9.2] at he; omega
  have c2 := hp.cn p
  rw [(suH_ok a b c).2 p, cnt_all] at c2
  have c3 : inRg (freeOf (suB a b c)) p = true := by
    by_cases h3 : inRg (freeOf (suB a b c)) p = true
    · exact h3
    · rw [if_neg h3] at c2
      omega
  unfold freeOf at c3
  rw [regionsOf_mem _ p hp256] at c3
  unfold freeF at c3
  simp only [Bool.and_eq_true, Bool.not_eq_true'] at c3
  exact ⟨c3.1, c3.2, hp256⟩
/-- no page is away twice -/
theorem away_one {h0 h : Hp} {away : List Bk} (hp : PInv h0 h away) (p : Nat) : cnt away p ≤ 1 := by
  have key : ∀ l : List Bk, cnt l p = ((l.map keyB).map fun k => hit ⟨k.1, k.2, 0⟩ p).sum := by
    intro l
    induction l with
    | nil => rfl
    | cons b l ih => rw [cnt, ih]; rfl
  have h1 : cnt away p = cnt h.live p := by
    rw [key, key]
    exact (hp.lv.map _).sum_nat
  have h2 := live_cnt h p
  have h3 := hp.ok.one p
  omega

theorem fin_wrap (x : Bk) (ho : x.o ≤ 4) (ha : x.a ≤ 1000) : wrap64 ((x.a : Int) + 2 ^ x.o) = ((x.fin : Nat) : Int) := by
  have hpw := pow_bk ho
  have e : ((2 : Int) ^ x.o) = ((2 ^ x.o : Nat) : Int) := by push_cast; rfl
  unfold Bk.fin
  rw [e, IntWalk.wrap64_in _ (by omega)]
  omega
theorem fin_wrap2 (x : Bk) (ho : x.o ≤ 4) (ha : x.a ≤ 1000) : wrap64 ((x.a : Int) + wrap64 (2 ^ min x.o 64)) = ((x.fin : Nat) : Int) := by
  have h := fin_wrap x ho ha
  rw [show min x.o 64 = x.o by omega, shl_bk ho]
  have e : ((2 : Int) ^ x.o) = ((2 ^ x.o : Nat) : Int) := by push_cast; rfl
  rw [← e]
  exact h
/-- the number in a box -/
def bxN (v : Value) (w : World) : Nat := match v with | .pointer (some p) => (match w.cell? p with | some u => (intOf u).toNat | none => 0) | _ => 0
theorem bxN_at {w : World} {E q : Nat} (h : w.cell? ⟨E, 0, none⟩ = some (.int .i64 (q : Int))) : bxN (.pointer (some ⟨E, 0, none⟩)) w = q := by
  unfold bxN
  simp only [h]
  simp [intOf]

set_option maxHeartbeats 8000000 in
set_option maxRecDepth 100000 in
theorem pagesApart_walk (a : Option Addr) (n c : Nat) (l : List Rw) (hl : l.length = n) {w : World} (hr : Row w a (flat encRw l)) (hnc : n ≤ c) (hcm : c ≤ maxLen) (hwf : ∀ r ∈ l, r.wf) (x : Int) (hx : (Lit.int .i64 x).wf = true) (y : Int) (hy : (Lit.int .i64 y).wf = true) (z : Int) (hz : (Lit.int .i64 z).wf = true) (hoth : Oth w) :
    Calls Tryd.prog 4 #[.slice a n c, .int .i64 x, .int .i64 y, .int .i64 z] w fun ev w' => ev = .returned (.bool true) ∧ Below w.heap.size w w' := by
  have hbx := bounds_i64 hx
  have hby := bounds_i64 hy
  have hbz := bounds_i64 hz
  have HR1 := Hid.mk hr
  have HO := Hid.mk hoth
  clear hr hoth
  go_enter Tryd.func4, Tryd.ntmps4
  go_wp2_with fail
  refine (setup_ok x y z w hbx hby hbz).mono ?_
  rintro ev w1 ⟨m1, d1, m2, d2, rfl, hbt1, hb1⟩
  go_upto_region 2 with fail
  have hb2 := below_alloc w1 (.cells #[.slice m1 2 d1, .slice m2 2 d2, .int .i64 (16 * pk x 9), .int .i64 (pk y 12), .int .i64 (1 + pk z 4)] 27)
  have KU := box_new w1 #[.slice m1 2 d1, .slice m2 2 d2, .int .i64 (16 * pk x 9), .int .i64 (pk y 12), .int .i64 (1 + pk z 4)] 27
  have hsu : w1.heap.size < (w1.alloc (.cells #[.slice m1 2 d1, .slice m2 2 d2, .int .i64 (16 * pk x 9), .int .i64 (pk y 12), .int .i64 (1 + pk z 4)] 27)).heap.size := by simp
  have HBT := Hid.mk (hbt1.below hb2)
  have HB2 := Hid.mk (Below.step hb1 hb2)
  have u0 := KU 0
  have u1 := KU 1
  have u2 := KU 2
  have u3 := KU 3
  have u4 := KU 4
  simp only [List.getElem?_toArray, List.getElem?_cons_zero, List.getElem?_cons_succ] at u0 u1 u2 u3 u4
  clear hbt1 hb1 hb2
  generalize w1.alloc (.cells #[.slice m1 2 d1, .slice m2 2 d2, .int .i64 (16 * pk x 9), .int .i64 (pk y 12), .int .i64 (1 + pk z 4)] 27) = w2 at *
  obtain ⟨U, hU⟩ : ∃ U, w1.heap.size = U := ⟨_, rfl⟩
  rw [hU] at KU hsu u0 u1 u2 u3 u4 ⊢
  clear hU
  go_wp2_with fail
  refine (paged_su a n c l m1 m2 d1 d2 x y z 70 w2 hl hnc hcm (HR1.out.below HB2.out) hwf (by omega) HBT.out (HO.out.mono HB2.out (Nat.le_refl _))).mono ?_
  rintro ev w3 hd3
  obtain ⟨⟨h, hc, aw, ca, away, rfl, hh3, hrw3, hpi, hlen, _, _⟩, hb3⟩ := hd3
  have HPI := Hid.mk hpi
  have HL70 := Hid.mk hlen
  have HB3 := Hid.mk (Below.step HB2.out hb3)
  have KU3 := box_step KU hsu hb3
  have hsu3 : U < w3.heap.size := Nat.lt_of_lt_of_le hsu hb3.size
  have HH3 := Hid.mk hh3
  have HRW3 := Hid.mk hrw3
  have HBT3 := Hid.mk (HBT.out.below hb3)
  clear u0 u1 u2 u3 u4 KU hsu hpi hlen hh3 hrw3 hb3 HB2 HBT
  unfold Hc.vals
  go_upto_region 3 with fail
  have hb4 := below_alloc w3 (.cells #[.slice hc.az 2 hc.cz, .slice hc.am 2 hc.cm, .int .i64 (h.cpus : Int), .slice hc.al hc.lc.length hc.cl, .slice hc.av h.live.length hc.cv] 34)
  have K10 := box_new w3 #[.slice hc.az 2 hc.cz, .slice hc.am 2 hc.cm, .int .i64 (h.cpus : Int), .slice hc.al hc.lc.length hc.cl, .slice hc.av h.live.length hc.cv] 34
  have hs10 := box_lt w3 (.cells #[.slice hc.az 2 hc.cz, .slice hc.am 2 hc.cm, .int .i64 (h.cpus : Int), .slice hc.al hc.lc.length hc.cl, .slice hc.av h.live.length hc.cv] 34)
  have KU4 := box_step KU3 hsu3 hb4
  have hsu4 := Nat.lt_of_lt_of_le hsu3 hb4.size
  have HH4 := Hid.mk (HH3.out.below hb4)
  have HRW4 := Hid.mk (HRW3.out.below hb4)
  have HBT4 := Hid.mk (HBT3.out.below hb4)
  have HB4 := Hid.mk (Below.step HB3.out hb4)
  clear hb4 KU3 hsu3 HH3 HRW3 HBT3 HB3
  generalize w3.alloc (.cells #[.slice hc.az 2 hc.cz, .slice hc.am 2 hc.cm, .int .i64 (h.cpus : Int), .slice hc.al hc.lc.length hc.cl, .slice hc.av h.live.length hc.cv] 34) = w4 at *
  obtain ⟨B10, hB10⟩ : ∃ B, w3.heap.size = B := ⟨_, rfl⟩
  rw [hB10] at K10 hs10 ⊢
  clear hB10
  have HE : Hid (∀ args w, (callFunc 15 args).run Tryd.prog w = .ok (.enter 15 args) w) := enters_of Tryd.func15 (by kernel_rfl) rfl
  have HE2 : Hid (∀ args w, (callFunc 16 args).run Tryd.prog w = .ok (.enter 16 args) w) := enters_of Tryd.func16 (by kernel_rfl) rfl
  have HFR := Hid.mk (fun (b : Bk) (hb : b ∈ away) (p : Nat) (h1 : b.a ≤ p) (h2 : p < b.fin) => away_free HPI.out hb h1 h2)
  have HONE := Hid.mk (fun p => away_one HPI.out p)
  have HRM := Hid.mk (listOk_all (suB_ok x y z).1)
  have HRR := Hid.mk (listOk_all (suB_ok x y z).2)
  have HFIT : Hid (∀ b ∈ away, b.o ≤ 4 ∧ b.a ≤ 255 ∧ b.fin ≤ 256) := fun b hb => by
    have hkm : keyB b ∈ h.live.map keyB := HPI.out.lv.mem_iff.1 (List.mem_map_of_mem hb)
    obtain ⟨b9, hb9, e9⟩ := List.mem_map.1 hkm
    simp only [keyB, Prod.mk.injEq] at e9
    have h1 := (HPI.out.ok.lv b9 hb9).1
    have h2 := fits_end (by decide) h1
    exact ⟨by have := h1.1; omega, by have := h1.2.2.1; omega, by unfold Bk.fin; rw [e9.1, e9.2] at h2; exact h2⟩
  have hl70 := HL70.out
  clear HPI HH4 HL70 K10 hs10
  go_upto_region 4 with fail
  have hb5 := below_alloc w4 (.cells Tryd.zeroCells44 44)
  have k5 := box_new w4 Tryd.zeroCells44 44
  have f5 := box_frz w4 Tryd.zeroCells44 44
  have s5 := box_lt w4 (.cells Tryd.zeroCells44 44)
  have HB5 := Hid.mk hb5
  clear hb5
  generalize w4.alloc (.cells Tryd.zeroCells44 44) = w5 at *
  rw [zero_arrC] at k5
  obtain ⟨G, hG⟩ : ∃ G, w4.heap.size = G := ⟨_, rfl⟩
  have HM5 : Hid (MbS w5 G (inL (away.take 0))) := MbS.congr (f := fun _ => false) (hG ▸ ⟨k5, f5, s5⟩) (fun p _ => by simp [cnt, inL])
  rw [hG]
  have hUG : U < G := hG ▸ hsu4
  clear k5 f5 s5
  go_wp2_with fail
  go_loopw [32] (fun s32 wr => ∃ i : Nat, i ≤ away.length ∧ s32 = .int .i64 (i : Int) ∧ Hid (MbS wr G (inL (away.take i))) ∧ Hid (Below w4.heap.size w4 wr)) (fun s32 _ => away.length - (intOf s32).toNat)
  case atStart => exact ⟨0, Nat.zero_le _, rfl, HM5, HB5⟩
  case round =>
    obtain ⟨i, hi, rfl, HM, HS⟩ := hrel
    clear HM5 HB5
    clear w5
    by_cases hlt : i < away.length
    · have hlti : (i : Int) < away.length := by omega
      obtain ⟨bb, off, ha1, hbb, hc⟩ := row_elem encBk_length (by decide) (HRW4.out.below HS.out) hlt
      obtain rfl := ha1
      obtain ⟨d0, d1, d2⟩ := encBk_cells hc
      have hfx := HFIT.out _ (List.getElem_mem hlt)
      have HFX := Hid.mk (HFR.out _ (List.getElem_mem hlt))
      have HNX : Hid (∀ p, marked (inL (away.take i)) (away[i]).a (away[i]).fin p = inL (away.take (i + 1)) p) := fun p => by rw [inL_next, List.take_succ_eq_append_getElem hlt]
      have HZ : Hid (∀ p, (away[i]).a ≤ p → p < (away[i]).fin → inL (away.take i) p = false) := fun p h1 h2 => by
        have h3 := cnt_pre HONE.out hlt p
        rw [cnt_append] at h3
        have h4 : cnt [away[i]] p = 1 := by
          simp only [cnt, Nat.add_zero]
          exact hit_one.2 ⟨h1, h2⟩
        unfold inL
        exact decide_eq_false (by omega)
      clear hc
      generalize inL (away.take i) = f at *
      generalize away[i] = e at *
      obtain ⟨hfo, hfa, hff⟩ := hfx
      go_upto_region 7 with fail
      have hb6 := below_alloc wr (.cells #[.int .i64 (e.a : Int), .int .i64 (e.o : Int), .int .i64 (e.t : Int)] 40)
      have KX := box_new wr #[.int .i64 (e.a : Int), .int .i64 (e.o : Int), .int .i64 (e.t : Int)] 40
      have sX := box_lt wr (.cells #[.int .i64 (e.a : Int), .int .i64 (e.o : Int), .int .i64 (e.t : Int)] 40)
      have hGX : G < wr.heap.size := HM.out.hi
      have HM6 := Hid.mk (HM.out.below hb6)
      have HS6 := Hid.mk (Below.step HS.out hb6)
      clear HM HS hb6 d0 d1 d2 hbb
      generalize wr.alloc (.cells #[.int .i64 (e.a : Int), .int .i64 (e.o : Int), .int .i64 (e.t : Int)] 40) = wx at *
      obtain ⟨X, hX⟩ : ∃ X, wr.heap.size = X := ⟨_, rfl⟩
      rw [hX] at KX sX hGX ⊢
      clear hX
      clear wr
      have x0 := KX 0
      simp only [List.getElem?_toArray, List.getElem?_cons_zero, List.getElem?_cons_succ] at x0
      go_wp2_with fail
      clear x0
      have hb7 := below_alloc wx (.cells #[.int .i64 (e.a : Int)] 3)
      have KE := box_new wx #[.int .i64 (e.a : Int)] 3
      have FE := box_frz wx #[.int .i64 (e.a : Int)] 3
      have sE := box_lt wx (.cells #[.int .i64 (e.a : Int)] 3)
      have KX7 := Hid.mk (box_step KX sX hb7)
      have hGE : G < wx.heap.size := Nat.lt_trans hGX sX
      have HM7 : Hid (MbS _ G (marked f e.a e.a)) := MbS.congr (HM6.out.below hb7) (fun p _ => (marked_nil f e.a p).symm)
      have HS7 := Hid.mk (Below.step HS6.out hb7)
      have sX7 := Nat.lt_of_lt_of_le sX hb7.size
      have e0 := KE 0
      simp only [List.getElem?_toArray, List.getElem?_cons_zero, List.getElem?_cons_succ] at e0
      clear HM6 HS6 hb7 KX sX KE
      generalize wx.alloc (.cells #[.int .i64 (e.a : Int)] 3) = w6 at *
      generalize wx.heap.size = E0 at *
      clear wx
      go_loopw [16] (fun s16 wq => ∃ q E : Nat, e.a ≤ q ∧ q ≤ e.fin ∧ s16 = .pointer (some ⟨E, 0, none⟩) ∧ Hid (MbS wq G (marked f e.a q)) ∧ Hid (Below w4.heap.size w4 wq) ∧ Hid (∀ o, wq.cell? ⟨X, o, none⟩ = (#[.int .i64 (e.a : Int), .int .i64 (e.o : Int), .int .i64 (e.t : Int)] : Array Value)[o]?) ∧ X < wq.heap.size ∧ G < E ∧ E < wq.heap.size ∧ wq.cell? ⟨E, 0, none⟩ = some (.int .i64 (q : Int))) (fun s16 wq => e.fin - bxN s16 wq)
      case atStart => exact ⟨e.a, E0, Nat.le_refl _, Nat.le_add_right _ _, rfl, HM7, HS7, KX7, sX7, hGE, sE, e0⟩
      case round =>
        obtain ⟨q, E, hq1, hq2, rfl, HQ, HSQ, KXQ, sXQ, hGQ, hEQ, hcE⟩ := hrel
        clear HM7 HS7 KX7 e0 FE sX7 sE
        clear w6
        have HN0 := Hid.mk (bxN_at hcE)
        have x0 := KXQ.out 0
        have x1 := KXQ.out 1
        simp only [List.getElem?_toArray, List.getElem?_cons_zero, List.getElem?_cons_succ] at x0 x1
        have hsh := shl_bk hfo
        have hpw := pow_bk hfo
        have hsum : IntKind.i64.wrap ((e.a : Int) + 2 ^ e.o) = ((e.fin : Nat) : Int) := (IntWalk.i64_left _).trans (fin_wrap e hfo (by omega))
        have hfw := Hid.mk (fin_wrap2 e hfo (by omega))
        go_wp2_with fail
        go_quiet (fail)
        have hbd := below_drewN (Below.refl wr.heap.size wr) nq
        have HQ2 := Hid.mk (HQ.out.below hbd)
        have HSQ2 := Hid.mk (Below.step HSQ.out hbd)
        have KX2 := Hid.mk (box_step KXQ.out sXQ hbd)
        have sX2 := Nat.lt_of_lt_of_le sXQ hbd.size
        have hE2 := Nat.lt_of_lt_of_le hEQ hbd.size
        have hc2 := (hbd.cell (p := ⟨E, 0, none⟩) hEQ).trans hcE
        clear HQ HSQ KXQ sXQ hcE hbd hsum x0 x1
        generalize wr.drewN nq = wq at *
        by_cases hqf : q < e.fin
        · have dq : decide ((q : Int) < e.fin) = true := decide_eq_true (by omega)
          have dq2 : decide (q < e.fin) = true := decide_eq_true hqf
          have hq256 : (q : Int) < 256 := by omega
          have hq256' : q < 256 := by omega
          have hcl := (HQ2.out.k q).trans (arrC_get _ q hq256')
          rw [marked_at, HZ.out q hq1 hqf] at hcl
          have hfz := HQ2.out.fz q
          go_upto_region 12 with fail
          have HQ3 := Hid.mk (HQ2.out.mark q true (markC_next f e.a q hq1 hq256'))
          have HSQ3 := Hid.mk (Below.setCell HSQ2.out (show w4.heap.size ≤ (⟨G, q, none⟩ : Addr).block from Nat.le_of_eq hG) (.bool true))
          have KX3 := Hid.mk (box_set_other KX2.out (c := G) (Nat.ne_of_gt hGX) q (.bool true))
          have sX3 : X < (wq.setCell ⟨G, q, none⟩ (.bool true)).heap.size := by simpa using sX2
          have hE3 : E < (wq.setCell ⟨G, q, none⟩ (.bool true)).heap.size := by simpa using hE2
          have hc3 := (World.cell?_setCell_other (w := wq) (a := ⟨G, q, none⟩) (b := ⟨E, 0, none⟩) (v := .bool true) (fun h9 => Nat.ne_of_lt hGQ (by simpa using congrArg Addr.block h9))).trans hc2
          go_upto_region 13 with fail
          clear hfz hcl hc2 hE2 sX2 KX2 HSQ2 HQ2
          generalize wq.setCell ⟨G, q, none⟩ (.bool true) = ws at *
          have hUs := box_step KU4 hsu4 HSQ3.out
          have u0 := hUs 0
          have u1 := hUs 1
          simp only [List.getElem?_toArray, List.getElem?_cons_zero, List.getElem?_cons_succ] at u0 u1
          obtain ⟨hy1, hy2, _⟩ := HFX.out q hq1 hqf
          have HBTs := HBT4.out.below HSQ3.out
          have hcall := containsFuncRg m1 2 d1 (suB x y z).m 15 #[.pointer (some ⟨E, 0, none⟩)] (fun r => inOne r q) ws HBTs.l1 (by omega) HBTs.r1 HE.out (fun W hW r hr => inRgn1 r q E W (HRM.out r hr) (by omega) (Nat.lt_of_lt_of_le hE3 hW.size) ((hW.cell (p := ⟨E, 0, none⟩) hE3).trans hc3))
          rw [show (suB x y z).m.any (fun r => inOne r q) = true from hy1] at hcall
          have HC1 := Hid.mk hcall
          have HC2 : Hid (∀ W, Below ws.heap.size ws W → Calls Tryd.prog 14 #[.slice m2 2 d2, .func (.func 16) #[] #[.pointer (some ⟨E, 0, none⟩)]] W fun e w' => e = .returned (.bool false) ∧ Below W.heap.size W w') := fun W hb => by
            have h9 := containsFuncRg m2 2 d2 (suB x y z).r 16 #[.pointer (some ⟨E, 0, none⟩)] (fun r => inOne r q) W HBTs.l2 (by omega) (HBTs.r2.below hb) HE2.out (fun W2 hW r hr => inRgn2 r q E W2 (HRR.out r hr) (by omega) (Nat.lt_of_lt_of_le (Nat.lt_of_lt_of_le hE3 hb.size) hW.size) ((hW.cell (p := ⟨E, 0, none⟩) (Nat.lt_of_lt_of_le hE3 hb.size)).trans ((hb.cell (p := ⟨E, 0, none⟩) hE3).trans hc3)))
            rw [show (suB x y z).r.any (fun r => inOne r q) = false from hy2] at h9
            exact h9
          clear hcall HBTs
          have hUs1 := Nat.lt_of_lt_of_le hsu4 HSQ3.out.size
          go_upto_region 9 with (go_at_call 14; first | (refine HC1.out.mono ?_; rintro ev w7 ⟨rfl, hb7⟩; have u1b := (hb7.cell (p := ⟨U, 1, none⟩) hUs1).trans u1) | (refine (HC2.out _ hb7).mono ?_; rintro ev w8 ⟨rfl, hb8⟩; have hb78 := Below.step hb7 hb8; have c8 := (hb78.cell (p := ⟨E, 0, none⟩) hE3).trans hc3))
          have hb9 := Below.step hb78 (below_alloc w8 (.cells #[.int .i64 (q : Int)] 3))
          have k9 := box_new w8 #[.int .i64 (q : Int)] 3
          have f9 := box_frz w8 #[.int .i64 (q : Int)] 3 0
          have s9 := box_lt w8 (.cells #[.int .i64 (q : Int)] 3)
          have hG8 : G < w8.heap.size := Nat.lt_of_lt_of_le HQ3.out.hi hb78.size
          have hX8 : X < w8.heap.size := Nat.lt_of_lt_of_le sX3 hb78.size
          have HQ4 := Hid.mk (HQ3.out.below hb9)
          have HSQ4 := Hid.mk (Below.step HSQ3.out hb9)
          have KX4 := Hid.mk (box_step KX3.out sX3 hb9)
          have sX4 := Nat.lt_of_lt_of_le sX3 hb9.size
          have c9 := k9 0
          simp only [List.getElem?_toArray, List.getElem?_cons_zero] at c9
          clear HC1 HC2 HQ3 HSQ3 KX3 sX3 hE3 hc3 u0 u1 u1b hb7 hb8 hb78 c8 hb9
          generalize w8.alloc (.cells #[.int .i64 (q : Int)] 3) = w9 at *
          obtain ⟨E2, hE2'⟩ : ∃ B, w8.heap.size = B := ⟨_, rfl⟩
          rw [hE2'] at k9 f9 s9 c9 hG8 hX8 ⊢
          clear hE2'
          have HQ5 := Hid.mk (HQ4.out.far (Nat.ne_of_lt hG8) 0 (.int .i64 ((q : Int) + 1)))
          have HSQ5 := Hid.mk (Below.setCell HSQ4.out (show w4.heap.size ≤ (⟨E2, 0, none⟩ : Addr).block from by rw [hG]; exact Nat.le_of_lt hG8) (.int .i64 ((q : Int) + 1)))
          have KX5 := Hid.mk (box_set_other KX4.out (c := E2) (Nat.ne_of_lt hX8) 0 (.int .i64 ((q : Int) + 1)))
          have sX5 : X < (w9.setCell ⟨E2, 0, none⟩ (.int .i64 ((q : Int) + 1))).heap.size := by simpa using sX4
          have s95 : E2 < (w9.setCell ⟨E2, 0, none⟩ (.int .i64 ((q : Int) + 1))).heap.size := by simpa using s9
          have c95 := (box_set k9 0 (.int .i64 ((q : Int) + 1))) 0
          have HN5 : Hid ((w9.setCell ⟨E2, 0, none⟩ (.int .i64 ((q : Int) + 1))).cell? ⟨E2, 0, none⟩ = some (.int .i64 ((q + 1 : Nat) : Int))) := c95
          have HNB := Hid.mk (bxN_at HN5.out)
          clear c95 KX4 HQ4 HSQ4
          go_wp2_with fail
          go_roundw
          case rel => exact ⟨q + 1, E2, by omega, hqf, rfl, HQ5, HSQ5, KX5, sX5, hG8, s95, HN5.out⟩
          case measure => rw [HNB.out, HN0.out]; omega
        · have hqe : q = e.fin := Nat.le_antisymm hq2 (Nat.le_of_not_lt hqf)
          have dq : decide ((q : Int) < e.fin) = false := decide_eq_false (by omega)
          have dq2 : decide (q < e.fin) = false := decide_eq_false hqf
          have HQ3 : Hid (MbS wq G (inL (away.take (i + 1)))) := MbS.congr HQ2.out (fun p _ => by rw [← HNX.out p, hqe])
          clear HQ2 hqe
          go_wp2
          go_roundw
          case rel => exact ⟨i + 1, by omega, by go_num, HQ3, HSQ2⟩
          case measure => simp [intOf]; omega
    · obtain rfl : i = away.length := by omega
      have HB9 := Hid.mk (Below.step HB4.out HS.out)
      clear HM
      go_wp2
      go_ret
      exact ⟨rfl, HB9.out⟩
end Go.Proofs.YtjljcifpcljlaaaDoor
