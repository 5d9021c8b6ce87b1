/- Tells, Pq2, Wh, PagesWholeWalk: texts of this claim, joined. -/
import Derived.Test.YtjljcifpcljlaaaDoorPM14
import Derived.Test.YtjljcifpcljlaaaDoorPM15
import Derived.Test.YtjljcifpcljlaaaDoorPM2
import Derived.Test.YtjljcifpcljlaaaDoorPM3
import Derived.OpenShut
import Derived.ProofKit
/- Contract of pagesTells. -/
namespace Go.Proofs.YtjljcifpcljlaaaDoor
open Go.RowKit
set_option linter.unusedVariables false
set_option maxHeartbeats 4000000 in
set_option maxRecDepth 100000 in
theorem pagesTells_ok (w : World) (hoth : Oth w) : Calls Tryd.prog 22 #[] w fun ev w' => ev = .returned (.bool true) ∧ Below w.heap.size w w' := by
  have HO := Hid.mk hoth
  clear hoth
  go_enter Tryd.func22, Tryd.ntmps22
  go_wp2_with fail
  refine (setup_ok 0 0 0 w (by decide) (by decide) (by decide)).mono ?_
  rintro ev w1 ⟨m1, d1, m2, d2, rfl, hbt1, hb1⟩
  have HBT := Hid.mk hbt1
  have HB1 := Hid.mk hb1
  clear hbt1 hb1
  obtain ⟨p9, hp9⟩ : ∃ p, 16 * pk 0 9 = p := ⟨_, rfl⟩
  obtain ⟨p12, hp12⟩ : ∃ p, pk 0 12 = p := ⟨_, rfl⟩
  obtain ⟨p4, hp4⟩ : ∃ p, 1 + pk 0 4 = p := ⟨_, rfl⟩
  have hcall := paged_su none 0 0 [] m1 m2 d1 d2 0 0 0 0 w1 rfl (Nat.le_refl _) (Nat.zero_le _) (Row.nil _ _) (by simp) (by omega) HBT.out (HO.out.mono HB1.out (Nat.le_refl _))
  rw [hp9, hp12, hp4] at hcall ⊢
  clear hp9 hp12 hp4
  go_wp2_with fail
  refine hcall.mono ?_
  rintro ev w5 hd5
  obtain ⟨⟨h1, hc1, aw1, ca1, away1, rfl, hh5, hrw5, _, _, hnil, _⟩, hb5⟩ := hd5
  have HB5 := Hid.mk (Below.step HB1.out hb5)
  clear hcall hh5 hrw5 hnil hb5
  unfold Hc.vals
  have hb6 := below_alloc w5 (.cells #[.slice hc1.az 2 hc1.cz, .slice hc1.am 2 hc1.cm, .int .i64 (h1.cpus : Int), .slice hc1.al hc1.lc.length hc1.cl, .slice hc1.av h1.live.length hc1.cv] 34)
  have HB6 := Hid.mk (Below.step HB5.out hb6)
  clear hb6
  go_wp2
  go_ret
  exact ⟨rfl, HB6.out⟩
end Go.Proofs.YtjljcifpcljlaaaDoor
/- Contract of slices.EqualFunc at Block, with PagesWhole's comparison of place and order. -/
namespace Go.Proofs.YtjljcifpcljlaaaDoor
open Go.RowKit
set_option linter.unusedVariables false

theorem sameBkP (x y : Bk) (w : World) (h : keyB x = keyB y) :
    Calls Tryd.prog 29 #[.agg #[.int .i64 x.a, .int .i64 x.o, .int .i64 x.t], .agg #[.int .i64 y.a, .int .i64 y.o, .int .i64 y.t]] w fun ev w' => ev = .returned (.bool true) ∧ Below w.heap.size w w' := by
  unfold keyB at h
  simp only [Prod.mk.injEq] at h
  obtain ⟨h1, h2⟩ := h
  obtain ⟨xa, xo, xt⟩ := x
  obtain ⟨ya, yo, yt⟩ := y
  simp only at h1 h2
  subst h1 h2
  obtain ⟨K0, K1, F0, F1, hsz, hbw⟩ := boxes2 w #[.int .i64 (xa : Int), .int .i64 (xo : Int), .int .i64 (xt : Int)] 40 #[.int .i64 (xa : Int), .int .i64 (xo : Int), .int .i64 (yt : Int)] 40
  go_enter Tryd.func29, Tryd.ntmps29
  go_wp2
  go_ret
  exact ⟨rfl, hbw⟩

set_option maxHeartbeats 4000000 in
set_option maxRecDepth 100000 in
theorem equalF_pg (a a2 : Option Addr) (n1 n2 c1 c2 : Nat) (xs ys : List Bk) (w : World) (e1 : xs.length = n1) (e2 : ys.length = n2) (hl : n1 ≤ 1000) (hr : Row w a (flat encBk xs)) (hr2 : Row w a2 (flat encBk ys)) (hk : xs.map keyB = ys.map keyB) :
    Calls Tryd.prog 28 #[.slice a n1 c1, .slice a2 n2 c2, .func (.func 29) #[] #[]] w fun ev w' => ev = .returned (.bool true) ∧ Below w.heap.size w w' := by
  obtain rfl : n1 = n2 := by rw [← e1, ← e2]; simpa using congrArg List.length hk
  have eg : ∀ args w, (callFunc 29 args).run Tryd.prog w = .ok (.enter 29 args) w := enters_of Tryd.func29 (by kernel_rfl) rfl
  go_enter Tryd.func28, Tryd.ntmps28
  go_wp2
  go_loopw [7, 17] (fun _ s17 wr => ∃ k : Nat, k ≤ n1 ∧ s17 = .int .i64 (k : Int) ∧ Hid (Below w.heap.size w wr)) (fun _ s17 _ => n1 - (intOf s17).toNat)
  case atStart => exact ⟨0, Nat.zero_le _, rfl, Below.refl _ _⟩
  case round =>
    obtain ⟨k, hkn, rfl, hb⟩ := hrel
    by_cases hlt : k < n1
    · have hx : k < xs.length := by omega
      have hy : k < ys.length := by omega
      obtain ⟨b, off, rfl, hbb, hc⟩ := row_elem encBk_length (by decide) (hr.below hb.out) hx
      obtain ⟨hc0, hc1, hc2⟩ := encBk_cells hc
      obtain ⟨b2, off2, rfl, hbb2, hc'⟩ := row_elem encBk_length (by decide) (hr2.below hb.out) hy
      obtain ⟨hd0, hd1, hd2⟩ := encBk_cells hc'
      have hkey : keyB xs[k] = keyB ys[k] := by
        have h1 : (xs.map keyB)[k]? = some (keyB xs[k]) := by simp [hx]
        rw [hk] at h1
        have h2 : (ys.map keyB)[k]? = some (keyB ys[k]) := by simp [hy]
        rw [h2] at h1
        exact (Option.some.inj h1).symm
      have HK := Hid.mk hkey
      clear hr hr2 hc hc' hkey hk
      generalize xs[k] = x at *
      generalize ys[k] = y at *
      have hlti : (k : Int) < n1 := by omega
      have hba := below_alloc wr (.cells #[.int .i64 (x.a : Int), .int .i64 (x.o : Int), .int .i64 (x.t : Int)] 40)
      have hbb' := below_alloc (wr.alloc (.cells #[.int .i64 (x.a : Int), .int .i64 (x.o : Int), .int .i64 (x.t : Int)] 40)) (.cells #[.int .i64 (y.a : Int), .int .i64 (y.o : Int), .int .i64 (y.t : Int)] 40)
      have HB := Hid.mk (Below.step hb.out (Below.step hba hbb'))
      clear hba hbb'
      go_wp2_with (go_at_fn 29; refine (sameBkP x y _ HK.out).mono ?_; rintro e w' ⟨rfl, hb'⟩)
      go_roundw
      case rel => exact ⟨k + 1, by omega, by go_num, Below.step HB.out hb'⟩
      case measure => simp [intOf]; omega
    · obtain rfl : k = n1 := by omega
      go_wp2
      go_ret
      exact ⟨rfl, hb.out⟩
end Go.Proofs.YtjljcifpcljlaaaDoor
/- When all is given back: the same blocks are free. A heap in a box. -/
namespace Go.Proofs.YtjljcifpcljlaaaDoor
open Go.RowKit
set_option linter.unusedVariables false

theorem PInv.all_back {h0 d : Hp} (hp : PInv h0 d []) (hd : d.ls = []) (hk0 : HOk h0) (hl : h0.ls = []) (hv : h0.live = []) : d.live = [] ∧ ∀ i, i < 2 → (d.zone i).l.map keyB = (h0.zone i).l.map keyB := by
  have hlv : d.live = [] := by
    have h1 := hp.lv.length_eq
    simp only [List.map_nil, List.length_nil, List.length_map] at h1
    exact List.eq_nil_of_length_eq_zero h1.symm
  refine ⟨hlv, fun i hi => ?_⟩
  have hcn : ∀ p, cnt d.z0.l p + cnt d.z1.l p = cnt h0.z0.l p + cnt h0.z1.l p := fun p => by
    have h1 := hp.cn p
    rw [cnt_all, cnt_all, hd, hl, hlv, hv] at h1
    simpa [lsB, cnt] using h1
  have hs := hp.same.split
  have hko := hp.ok
  have lo : ∀ {g : Hp}, HOk g → ∀ p, covL g.z0.l p → p < g.z0.e := fun {g} hk p ⟨b, hb, hp⟩ => by
    have h1 := (hk.o0.2.fit b hb).1
    have h2 := fits_end hk.o0.1.e16 h1
    unfold inB at hp
    omega
  have up : ∀ {g : Hp}, HOk g → ∀ p, covL g.z1.l p → g.z0.e ≤ p := fun {g} hk p ⟨b, hb, hp⟩ => by
    have h1 := (hk.o1.2.fit b hb).1
    have h2 := h1.2.1
    rw [hk.e0]
    unfold inB at hp
    omega
  have e0 : ∀ p, covL d.z0.l p ↔ covL h0.z0.l p := fun p => by
    have h1 := hcn p
    rw [← cnt_pos, ← cnt_pos]
    have a1 := fun h => lo hko p (cnt_pos.1 h)
    have a2 := fun h => up hko p (cnt_pos.1 h)
    have a3 := fun h => lo hk0 p (cnt_pos.1 h)
    have a4 := fun h => up hk0 p (cnt_pos.1 h)
    rw [hs] at a1 a2
    constructor <;> intro h <;> omega
  have e1 : ∀ p, covL d.z1.l p ↔ covL h0.z1.l p := fun p => by
    have h1 := hcn p
    rw [← cnt_pos, ← cnt_pos]
    have a1 := fun h => lo hko p (cnt_pos.1 h)
    have a2 := fun h => up hko p (cnt_pos.1 h)
    have a3 := fun h => lo hk0 p (cnt_pos.1 h)
    have a4 := fun h => up hk0 p (cnt_pos.1 h)
    rw [hs] at a1 a2
    constructor <;> intro h <;> omega
  rcases (show i = 0 ∨ i = 1 by omega) with rfl | rfl
  · have h1 := hko.o0
    have h2 := hk0.o0
    have h3 := h1.2
    rw [hko.f0, hs] at h3
    have h4 := h2.2
    rw [hk0.f0] at h4
    exact same_blocks (f := 0) (e := h0.z0.e) (by decide) h2.1.e16 h3 h4 e0
  · have h1 := hko.o1
    have h2 := hk0.o1
    have h3 := h1.2
    rw [← hko.e0, hko.e1, hs] at h3
    have h4 := h2.2
    rw [← hk0.e0, hk0.e1] at h4
    exact same_blocks (f := h0.z0.e) (e := 256) (by rw [hk0.e0]; exact h2.1.f16) (by decide) h3 h4 e1

/-- the next block goes back -/
theorem PInv.free1 {h0 h : Hp} {away : List Bk} {i : Nat} (hp : PInv h0 h (away.drop i)) (hi : i < away.length) :
    ∃ h2, hasB h.live away[i].a = true ∧ away[i].a < 256 ∧ PInv h0 h2 (away.drop (i + 1)) ∧ ∀ hl : lb h.live away[i].a < h.live.length, h.freeB 0 (lb h.live away[i].a) h.live[lb h.live away[i].a] = h2 := by
  have hd0 : 0 < (away.drop i).length := by rw [List.length_drop]; omega
  have hde : (away.drop i)[0] = away[i] := by simp
  obtain ⟨hiL, hl1, hl2, hth, ha256⟩ := hp.has hd0
  have h1 := hp.free (cpu := 0) (by rw [← hp.same.cpus]; exact hp.ok.cp.1) hd0 hiL
  rw [show (away.drop i).eraseIdx 0 = away.drop (i + 1) from by rw [List.eraseIdx_zero, List.tail_drop]] at h1
  simp only [hde] at hth ha256 h1
  exact ⟨_, hth, ha256, h1, fun _ => rfl⟩
/-- a heap in a box -/
structure WH (W : World) (B : Nat) (h : Hp) (c : Hc) : Prop where
  k : ∀ o, W.cell? ⟨B, o, none⟩ = (#[.slice c.az 2 c.cz, .slice c.am 2 c.cm, .int .i64 (h.cpus : Int), .slice c.al c.lc.length c.cl, .slice c.av h.live.length c.cv] : Array Value)[o]?
  fz : ∀ o, W.frozen? ⟨B, o, none⟩ = false
  hi : B < W.heap.size
  hat : HAt W c.az c.am c.al c.av c.lc.length h.live.length c.y0 c.y1 c.lc h
theorem WH.below {W W' : World} {B : Nat} {h : Hp} {c : Hc} (hw : WH W B h c) (hb : Below W.heap.size W W') : WH W' B h c := ⟨box_step hw.k hw.hi hb, frz_step hw.fz hw.hi hb, Nat.lt_of_lt_of_le hw.hi hb.size, hw.hat.below hb⟩
theorem WH.words {W : World} {B : Nat} {h : Hp} {c : Hc} (hw : WH W B h c) : W.cell? ⟨B, 0, none⟩ = some (.slice c.az 2 c.cz) ∧ W.cell? ⟨B, 1, none⟩ = some (.slice c.am 2 c.cm) ∧ W.cell? ⟨B, 2, none⟩ = some (.int .i64 (h.cpus : Int)) ∧ W.cell? ⟨B, 3, none⟩ = some (.slice c.al c.lc.length c.cl) ∧ W.cell? ⟨B, 4, none⟩ = some (.slice c.av h.live.length c.cv) := ⟨hw.k 0, hw.k 1, hw.k 2, hw.k 3, hw.k 4⟩
/-- another heap, in new memory, comes into the box -/
theorem WH.put {W : World} {B M : Nat} {h h' : Hp} {c c' : Hc} (hw : WH W B h c) (hn : HNew W M h' c') (hB : B < M) :
    WH (((((W.setCell ⟨B, 0, none⟩ (.slice c'.az 2 c'.cz)).setCell ⟨B, 1, none⟩ (.slice c'.am 2 c'.cm)).setCell ⟨B, 2, none⟩ (.int .i64 (h'.cpus : Int))).setCell ⟨B, 3, none⟩ (.slice c'.al c'.lc.length c'.cl)).setCell ⟨B, 4, none⟩ (.slice c'.av h'.live.length c'.cv)) B h' c' :=
  ⟨box_set5 hw.k _ _ _ _ _, frz_set (frz_set (frz_set (frz_set (frz_set hw.fz _ _) _ _) _ _) _ _) _ _, lt_set5 hw.hi _ _ _ _ _, (HNew.set5 hn hB _ _ _ _ _).at⟩
end Go.Proofs.YtjljcifpcljlaaaDoor
/- The walk of paddockkeep.PagesWhole. -/
namespace Go.Proofs.YtjljcifpcljlaaaDoor
open Go.RowKit Go.WideShapes Go.ChangeShapes
set_option linter.unusedVariables false
set_option linter.unusedSimpArgs false

set_option maxHeartbeats 8000000 in
set_option maxRecDepth 100000 in
theorem pagesWhole_walk (a : Option Addr) (n c : Nat) (l : List Rw) (hl : l.length = n) {w : World} (hr : Row w a (flat encRw l)) (hnc : n ≤ c) (hcm : c ≤ maxLen) (hwf : ∀ r ∈ l, r.wf) (x : Int) (hx : (Lit.int .i64 x).wf = true) (y : Int) (hy : (Lit.int .i64 y).wf = true) (z : Int) (hz : (Lit.int .i64 z).wf = true) (hoth : Oth w) :
    Calls Tryd.prog 9 #[.slice a n c, .int .i64 x, .int .i64 y, .int .i64 z] w fun ev w' => ev = .returned (.bool true) ∧ Below w.heap.size w w' := by
  have hbx := bounds_i64 hx
  have hby := bounds_i64 hy
  have hbz := bounds_i64 hz
  have HR1 := Hid.mk hr
  have HO := Hid.mk hoth
  clear hr hoth
  go_enter Tryd.func9, Tryd.ntmps9
  go_wp2_with fail
  refine (pagesTells_ok w HO.out).mono ?_
  rintro ev w0 ⟨rfl, hb0⟩
  go_wp2_with fail
  refine (setup_ok x y z w0 hbx hby hbz).mono ?_
  rintro ev w1 ⟨m1, d1, m2, d2, rfl, hbt1, hb1⟩
  have hb1 := Below.step hb0 hb1
  go_upto_region 4 with fail
  have hb2 := below_alloc w1 (.cells #[.slice m1 2 d1, .slice m2 2 d2, .int .i64 (16 * pk x 9), .int .i64 (pk y 12), .int .i64 (1 + pk z 4)] 27)
  have KU := box_new w1 #[.slice m1 2 d1, .slice m2 2 d2, .int .i64 (16 * pk x 9), .int .i64 (pk y 12), .int .i64 (1 + pk z 4)] 27
  have hsu : w1.heap.size < (w1.alloc (.cells #[.slice m1 2 d1, .slice m2 2 d2, .int .i64 (16 * pk x 9), .int .i64 (pk y 12), .int .i64 (1 + pk z 4)] 27)).heap.size := by simp
  have HBT := Hid.mk (hbt1.below hb2)
  have HB2 := Hid.mk (Below.step hb1 hb2)
  have u0 := KU 0
  have u1 := KU 1
  have u2 := KU 2
  have u3 := KU 3
  have u4 := KU 4
  simp only [List.getElem?_toArray, List.getElem?_cons_zero, List.getElem?_cons_succ] at u0 u1 u2 u3 u4
  clear hbt1 hb1 hb2
  generalize w1.alloc (.cells #[.slice m1 2 d1, .slice m2 2 d2, .int .i64 (16 * pk x 9), .int .i64 (pk y 12), .int .i64 (1 + pk z 4)] 27) = w2 at *
  obtain ⟨U, hU⟩ : ∃ U, w1.heap.size = U := ⟨_, rfl⟩
  rw [hU] at KU hsu u0 u1 u2 u3 u4 ⊢
  clear hU
  go_wp2_with fail
  refine (paged_su a n c l m1 m2 d1 d2 x y z 70 w2 hl hnc hcm (HR1.out.below HB2.out) hwf (by omega) HBT.out (HO.out.mono HB2.out (Nat.le_refl _))).mono ?_
  rintro ev w3 hd3
  obtain ⟨⟨h, hc, aw, ca, away, rfl, hh3, hrw3, hpi, hlen, _, _⟩, hb3⟩ := hd3
  have HPI := Hid.mk hpi
  have HL70 := Hid.mk hlen
  have HB3 := Hid.mk (Below.step HB2.out hb3)
  have KU3 := box_step KU hsu hb3
  have hsu3 : U < w3.heap.size := Nat.lt_of_lt_of_le hsu hb3.size
  have HH3 := Hid.mk hh3
  have HRW3 := Hid.mk hrw3
  have HBT3 := Hid.mk (HBT.out.below hb3)
  clear u0 u1 u2 u3 u4 KU hsu hpi hlen hh3 hrw3 hb3 HB2 HBT
  unfold Hc.vals
  go_upto_region 5 with fail
  have hb4 := below_alloc w3 (.cells #[.slice hc.az 2 hc.cz, .slice hc.am 2 hc.cm, .int .i64 (h.cpus : Int), .slice hc.al hc.lc.length hc.cl, .slice hc.av h.live.length hc.cv] 34)
  have HW4 : Hid (WH (w3.alloc (.cells #[.slice hc.az 2 hc.cz, .slice hc.am 2 hc.cm, .int .i64 (h.cpus : Int), .slice hc.al hc.lc.length hc.cl, .slice hc.av h.live.length hc.cv] 34)) w3.heap.size h hc) := ⟨box_new w3 _ _, box_frz w3 _ _, box_lt w3 _, HH3.out.below hb4⟩
  have HB34 := Hid.mk hb4
  have hw3 := HB3.out.size
  clear hb4 HH3
  generalize w3.alloc (.cells #[.slice hc.az 2 hc.cz, .slice hc.am 2 hc.cm, .int .i64 (h.cpus : Int), .slice hc.al hc.lc.length hc.cl, .slice hc.av h.live.length hc.cv] 34) = w4 at *
  obtain ⟨B10, hB10⟩ : ∃ B, w3.heap.size = B := ⟨_, rfl⟩
  have hU3 : U < B10 := hB10 ▸ hsu3
  rw [hB10] at HW4 HB34 hw3 ⊢
  go_wp2_with fail
  go_loopw [14, 15, 16, 38] (fun _ _ _ s38 wr => ∃ (i : Nat) (h' : Hp) (c' : Hc), i ≤ away.length ∧ s38 = .int .i64 (i : Int) ∧ Hid (PInv (suH x y z) h' (away.drop i)) ∧ Hid (WH wr B10 h' c') ∧ Hid (Below B10 w3 wr)) (fun _ _ _ s38 _ => away.length - (intOf s38).toNat)
  case atStart => exact ⟨0, h, hc, Nat.zero_le _, rfl, HPI, HW4, HB34⟩
  case round =>
    obtain ⟨i, h', c', hi, rfl, HI, HW, HBR⟩ := hrel
    clear HW4 HB34
    clear w4
    have hl70 := HL70.out
    have hlv' := HI.out.ok.live_len
    have hlc' : c'.lc.length ≤ 1000 := by
      have h1 := congrArg List.length HW.out.hat.ll
      rw [List.length_map] at h1
      rw [h1]
      exact Nat.le_trans HI.out.ok.ls_len (by decide)
    by_cases hlt : i < away.length
    · have hlti : (i : Int) < away.length := by omega
      obtain ⟨bb, off, ha1, hbb, hbc⟩ := row_elem encBk_length (by decide) (HRW3.out.below (hB10 ▸ HBR.out)) hlt
      obtain rfl := ha1
      obtain ⟨d0, d1, d2⟩ := encBk_cells hbc
      have hcpu' : 0 < h'.cpus := HI.out.ok.cp.1
      obtain ⟨h2, hth, ha256, hpf, hfr⟩ := HI.out.free1 hlt
      have HPF := Hid.mk hpf
      have HFR := Hid.mk hfr
      clear hbc hpf hfr
      generalize away[i] = q at *
      go_upto_region 8 with fail
      have hb5 := below_alloc wr (.cells #[.int .i64 (q.a : Int), .int .i64 (q.o : Int), .int .i64 (q.t : Int)] 40)
      have KQ := box_new wr #[.int .i64 (q.a : Int), .int .i64 (q.o : Int), .int .i64 (q.t : Int)] 40
      have HW5 := Hid.mk (HW.out.below hb5)
      have HBR5 := Hid.mk (HBR.out.trans (hb5.mono (Nat.le_of_lt HW.out.hi)))
      clear HW HBR hb5 d0 d1 d2 hbb
      generalize wr.alloc (.cells #[.int .i64 (q.a : Int), .int .i64 (q.o : Int), .int .i64 (q.t : Int)] 40) = w5 at *
      generalize wr.heap.size = Q at *
      clear wr
      have q0 := KQ 0
      simp only [List.getElem?_toArray, List.getElem?_cons_zero, List.getElem?_cons_succ] at q0
      obtain ⟨k0, k1, k2, k3, k4⟩ := HW5.out.words
      go_wp2_with fail
      refine (freeH_pg _ _ _ _ _ _ _ _ _ _ _ _ _ h' 0 q.a w5 HW5.out.hat HI.out.ok hlc' (by omega) hcpu' (by omega) hth).mono ?_
      rintro ev w6 ⟨hb6, c2, hiL, rfl, hn6⟩
      rw [HFR.out hiL] at hn6 ⊢
      unfold Hc.vals
      clear q0 k0 k1 k2 k3 k4
      go_upto_region 9 with fail
      have hb7 := below_alloc w6 (.cells #[.slice c2.az 2 c2.cz, .slice c2.am 2 c2.cm, .int .i64 (h2.cpus : Int), .slice c2.al c2.lc.length c2.cl, .slice c2.av h2.live.length c2.cv] 34)
      have K15 := box_new w6 #[.slice c2.az 2 c2.cz, .slice c2.am 2 c2.cm, .int .i64 (h2.cpus : Int), .slice c2.al c2.lc.length c2.cl, .slice c2.av h2.live.length c2.cv] 34
      have hn7 := Hid.mk (HR.below hn6 hb7)
      have HW7 := Hid.mk ((HW5.out.below hb6).below hb7)
      have hbr6 := HBR5.out.trans (hb6.mono (Nat.le_of_lt HW5.out.hi))
      have HBR7 := Hid.mk (hbr6.trans (hb7.mono (Nat.le_of_lt (Nat.lt_of_lt_of_le HW5.out.hi hb6.size))))
      have hB5 := HW5.out.hi
      clear HW5 HBR5 hb6 hb7 hn6 hbr6 KQ
      generalize w6.alloc (.cells #[.slice c2.az 2 c2.cz, .slice c2.am 2 c2.cm, .int .i64 (h2.cpus : Int), .slice c2.al c2.lc.length c2.cl, .slice c2.av h2.live.length c2.cv] 34) = w7 at *
      generalize w6.heap.size = B15 at *
      have g0 := K15 0
      have g1 := K15 1
      have g2 := K15 2
      have g3 := K15 3
      have g4 := K15 4
      simp only [List.getElem?_toArray, List.getElem?_cons_zero, List.getElem?_cons_succ] at g0 g1 g2 g3 g4
      have f0 := HW7.out.fz 0
      have f1 := HW7.out.fz 1
      have f2 := HW7.out.fz 2
      have f3 := HW7.out.fz 3
      have f4 := HW7.out.fz 4
      obtain ⟨k0, k1, k2, k3, k4⟩ := HW7.out.words
      have HW8 := Hid.mk (HW7.out.put hn7.out hB5)
      have HBR8 := Hid.mk (below_set5 (g := B10) HBR7.out (Nat.le_refl _) (.slice c2.az 2 c2.cz) (.slice c2.am 2 c2.cm) (.int .i64 (h2.cpus : Int)) (.slice c2.al c2.lc.length c2.cl) (.slice c2.av h2.live.length c2.cv))
      go_wp2_with fail
      go_roundw
      case rel => exact ⟨i + 1, h2, c2, by omega, by go_num, HPF, HW8, HBR8⟩
      case measure => simp [intOf]; omega
    · obtain rfl : i = away.length := by omega
      have HIE : Hid (PInv (suH x y z) h' []) := by
        have h9 := HI.out
        rw [List.drop_length] at h9
        exact h9
      have hB4 := HW.out.hi
      obtain ⟨k0, k1, k2, k3, k4⟩ := HW.out.words
      go_wp2_with fail
      refine (drainH_pg _ _ _ _ _ _ _ _ _ _ _ _ _ h' wr HW.out.hat HI.out.ok hlc' (by omega)).mono ?_
      rintro ev w6 ⟨c2, rfl, hn6, hb6⟩
      have HPD := Hid.mk HIE.out.drain
      have HDL := Hid.mk HIE.out.ok.drain.2.2.2.1
      obtain ⟨d, hd⟩ : ∃ d, h'.drain = d := ⟨_, rfl⟩
      rw [hd] at HPD HDL hn6 ⊢
      clear hd k0 k1 k2 k3 k4
      unfold Hc.vals
      have HW6 := Hid.mk (HW.out.below hb6)
      have HBR6 := Hid.mk (HBR.out.trans (hb6.mono (Nat.le_of_lt hB4)))
      have f0 := HW6.out.fz 0
      have f1 := HW6.out.fz 1
      have f2 := HW6.out.fz 2
      have f3 := HW6.out.fz 3
      have f4 := HW6.out.fz 4
      obtain ⟨k0, k1, k2, k3, k4⟩ := HW6.out.words
      have HW7 := Hid.mk (HW6.out.put hn6 hB4)
      have HBR7 := Hid.mk (below_set5 (g := B10) HBR6.out (Nat.le_refl _) (.slice c2.az 2 c2.cz) (.slice c2.am 2 c2.cm) (.int .i64 (d.cpus : Int)) (.slice c2.al c2.lc.length c2.cl) (.slice c2.av d.live.length c2.cv))
      go_upto_region 14 with fail
      clear f0 f1 f2 f3 f4 k0 k1 k2 k3 k4 HW6 HBR6 HW HBR hn6 hb6 HI HIE hlc' hlv'
      generalize ((((w6.setCell ⟨B10, 0, none⟩ (.slice c2.az 2 c2.cz)).setCell ⟨B10, 1, none⟩ (.slice c2.am 2 c2.cm)).setCell ⟨B10, 2, none⟩ (.int .i64 (d.cpus : Int))).setCell ⟨B10, 3, none⟩ (.slice c2.al c2.lc.length c2.cl)).setCell ⟨B10, 4, none⟩ (.slice c2.av d.live.length c2.cv) = w7 at *
      have HB37 : Hid (Below w3.heap.size w3 w7) := hB10 ▸ HBR7.out
      have KU7 := box_step KU3 hsu3 HB37.out
      have hsu7 := Nat.lt_of_lt_of_le hsu3 HB37.out.size
      have u0 := KU7 0
      have u1 := KU7 1
      have u2 := KU7 2
      have u3 := KU7 3
      have u4 := KU7 4
      simp only [List.getElem?_toArray, List.getElem?_cons_zero, List.getElem?_cons_succ] at u0 u1 u2 u3 u4
      have HB7 := Hid.mk (Below.step HB3.out HB37.out)
      go_wp2_with fail
      refine (paged_su none 0 0 [] m1 m2 d1 d2 x y z 0 w7 rfl (Nat.le_refl _) (Nat.zero_le _) (Row.nil _ _) (by simp) (by omega) (HBT3.out.below HB37.out) (HO.out.mono HB7.out (Nat.le_refl _))).mono ?_
      rintro ev w8 hd8
      obtain ⟨⟨h1, hc1, aw1, ca1, away1, rfl, hh8, _, hpi8, _, hnil, _⟩, hb8⟩ := hd8
      obtain ⟨rfl, rfl⟩ := hnil rfl
      obtain ⟨h0, hh0⟩ : ∃ h0, suH x y z = h0 := ⟨_, rfl⟩
      have H0L : h0.ls = [] ∧ h0.live = [] := by rw [← hh0]; exact ⟨rfl, rfl⟩
      rw [hh0] at hpi8 hh8 HPD ⊢
      have HK0 := Hid.mk hpi8.ok
      have HALL := Hid.mk (HPD.out.all_back HDL.out hpi8.ok H0L.1 H0L.2)
      have HW8 := Hid.mk (HW7.out.below hb8)
      have HB8 := Hid.mk (Below.step HB7.out hb8)
      clear u0 u1 u2 u3 u4 KU7 hsu7 HB37 HB7 HW7 HBR7 hnil hpi8 hb8 hh0 H0L
      unfold Hc.vals
      go_upto_region 15 with fail
      have hb9 := below_alloc w8 (.cells #[.slice hc1.az 2 hc1.cz, .slice hc1.am 2 hc1.cm, .int .i64 (h0.cpus : Int), .slice hc1.al hc1.lc.length hc1.cl, .slice hc1.av h0.live.length hc1.cv] 34)
      have K18 := box_new w8 #[.slice hc1.az 2 hc1.cz, .slice hc1.am 2 hc1.cm, .int .i64 (h0.cpus : Int), .slice hc1.al hc1.lc.length hc1.cl, .slice hc1.av h0.live.length hc1.cv] 34
      have hs18 := box_lt w8 (.cells #[.slice hc1.az 2 hc1.cz, .slice hc1.am 2 hc1.cm, .int .i64 (h0.cpus : Int), .slice hc1.al hc1.lc.length hc1.cl, .slice hc1.av h0.live.length hc1.cv] 34)
      have HW9 := Hid.mk (HW8.out.below hb9)
      have HF9 := Hid.mk (hh8.below hb9)
      have HB9 := Hid.mk (Below.step HB8.out hb9)
      clear hb9 HW8 hh8 HB8
      generalize w8.alloc (.cells #[.slice hc1.az 2 hc1.cz, .slice hc1.am 2 hc1.cm, .int .i64 (h0.cpus : Int), .slice hc1.al hc1.lc.length hc1.cl, .slice hc1.av h0.live.length hc1.cv] 34) = w9 at *
      obtain ⟨F, hF⟩ : ∃ F, w8.heap.size = F := ⟨_, rfl⟩
      rw [hF] at K18 hs18 ⊢
      clear hF
      have HK18 := Hid.mk K18
      clear K18
      obtain ⟨k0, k1, k2, k3, k4⟩ := HW9.out.words
      go_wp2_with fail
      clear k0 k1 k2 k3 k4
      go_loopw [67] (fun s67 wr => ∃ k : Nat, k ≤ 2 ∧ s67 = .int .i64 (k : Int) ∧ Hid (Below w9.heap.size w9 wr)) (fun s67 _ => 2 - (intOf s67).toNat)
      case atStart => exact ⟨0, Nat.zero_le _, rfl, Below.refl _ _⟩
      case round =>
        obtain ⟨k, hk, rfl, HBk⟩ := hrel
        by_cases hlt2 : k < 2
        · have hlti : (k : Int) < 2 := by omega
          have HWk := Hid.mk (HW9.out.below HBk.out)
          have HFk := Hid.mk (HF9.out.below HBk.out)
          obtain ⟨b, off, zc, hzc, hb, ⟨e0, e1, e2, e3⟩, hzt⟩ := HWk.out.hat.zc hlt2
          have hzk := HPD.out.ok.zone k
          have hkey := HALL.out.2 k hlt2
          have HZT := Hid.mk hzt
          have HKEY := Hid.mk hkey
          have hzl := (zone_len HPD.out.ok k).1
          rw [hzc]
          clear hzt hzk hkey hzc
          generalize d.zone k = z9 at *
          go_upto_region 18 with fail
          have hb10 := below_alloc wr (.cells #[.int .i64 (z9.f : Int), .int .i64 (z9.e : Int), .slice zc.a1 zc.n1 zc.c1, .slice zc.a2 zc.n2 zc.c2] 55)
          have KZ := box_new wr #[.int .i64 (z9.f : Int), .int .i64 (z9.e : Int), .slice zc.a1 zc.n1 zc.c1, .slice zc.a2 zc.n2 zc.c2] 55
          have hsZ := box_lt wr (.cells #[.int .i64 (z9.f : Int), .int .i64 (z9.e : Int), .slice zc.a1 zc.n1 zc.c1, .slice zc.a2 zc.n2 zc.c2] 55)
          have HZT5 := Hid.mk (HZT.out.below hb10)
          have HF10 := Hid.mk (HFk.out.below hb10)
          have HB10' := Hid.mk (Below.step HBk.out hb10)
          clear hb10 e0 e1 e2 e3 hb HWk HFk HZT HBk
          generalize wr.alloc (.cells #[.int .i64 (z9.f : Int), .int .i64 (z9.e : Int), .slice zc.a1 zc.n1 zc.c1, .slice zc.a2 zc.n2 zc.c2] 55) = w10 at *
          obtain ⟨BZ, hBZ⟩ : ∃ BZ, wr.heap.size = BZ := ⟨_, rfl⟩
          rw [hBZ] at KZ hsZ ⊢
          clear hBZ
          have z2 := KZ 2
          have q0 := (box_step HK18.out hs18 HB10'.out) 0
          have hsF := Nat.lt_of_lt_of_le hs18 HB10'.out.size
          simp only [List.getElem?_toArray, List.getElem?_cons_zero, List.getElem?_cons_succ] at z2 q0
          obtain ⟨b2, off2, zc2, hzc2, hb2', ⟨e0, e1, e2, e3⟩, hzt2⟩ := HF10.out.zc hlt2
          have HZ8 := Hid.mk hzt2
          have l9 := HZT5.out.l1
          have l8 := hzt2.l1
          rw [hzc2] at q0
          clear hzt2 hzc2 KZ e0 e1 e3
          generalize h0.zone k = z8 at *
          have hn9 : zc.n1 ≤ 256 := by omega
          refine wp_region_ext_lit (by kernel_rfl) (by kernel_rfl) ?_
          repeat (first | go_big_quiet_step ((go_at_call 28; exact Calls.ext_of (equalF_pg _ _ _ _ _ _ z9.l z8.l _ l9 l8 (by omega) ((HZT5.out.below (ext_below w10 _)).r1) ((HZ8.out.below (ext_below w10 _)).r1) HKEY.out))) | quiet_step ((go_at_call 28; exact Calls.ext_of (equalF_pg _ _ _ _ _ _ z9.l z8.l _ l9 l8 (by omega) ((HZT5.out.below (ext_below w10 _)).r1) ((HZ8.out.below (ext_below w10 _)).r1) HKEY.out))))
          refine wpQuiet_nil ?_
          rintro _ ⟨wx, rfl⟩
          have HBX := Hid.mk (Below.step HB10'.out (ext_below w10 wx))
          go_wp2_with fail
          go_roundw
          case rel => exact ⟨k + 1, by omega, by go_num, HBX⟩
          case measure => simp [intOf]; omega
        · obtain rfl : k = 2 := by omega
          have HWk := Hid.mk (HW9.out.below HBk.out)
          have HBE := Hid.mk (Below.step HB9.out HBk.out)
          obtain ⟨k0, k1, k2, k3, k4⟩ := HWk.out.words
          have hl0 : d.live.length = 0 := by rw [HALL.out.1]; rfl
          have hl1 : c2.lc.length = 0 := by
            have h9 := congrArg List.length HWk.out.hat.ll
            rw [List.length_map, HDL.out] at h9
            exact h9
          rw [hl0] at k4
          rw [hl1] at k3
          clear hl0 hl1
          go_wp2
          go_ret
          exact ⟨rfl, HBE.out⟩
end Go.Proofs.YtjljcifpcljlaaaDoor
