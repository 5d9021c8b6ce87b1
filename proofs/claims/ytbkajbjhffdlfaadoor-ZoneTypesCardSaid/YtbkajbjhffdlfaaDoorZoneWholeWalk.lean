/- The walk of paddockkeep.ZoneWhole. -/
import Derived.Test.YtbkajbjhffdlfaaDoorBlk21
import Derived.Test.YtbkajbjhffdlfaaDoorBlk23
namespace Go.Proofs.YtbkajbjhffdlfaaDoor
open Go.RowKit
set_option linter.unusedVariables false

theorem zoneTells_ok (w : World) (hoth : Oth w) :
    Calls Tryd.prog 22 #[] w fun ev w' => ev = .returned (.bool true) ∧ Below w.heap.size w w' := by
  go_enter Tryd.func22, Tryd.ntmps22
  go_wp2_with fail
  refine (zoned_ok none 0 0 [] 0 _ rfl (Nat.le_refl _) (Nat.zero_le _) (Row.nil _ _) (by simp) (by omega) hoth).mono ?_
  rintro ev w1 ⟨z, away, hd⟩
  obtain ⟨a1, a2, n1, n2, c1, c2, aw, na, ca, rfl, hown, hoa⟩ := hd.ex
  have hz := (hd.nil rfl).1
  have hn1 : (0 : Int) < n1 := by
    have := hown.l1
    rw [hz, zone1_is] at this
    simp only [List.length_cons, List.length_nil] at this
    omega
  have hb2 := Below.step hd.bw (below_alloc w1 (.cells #[.int .i64 (z.f : Int), .int .i64 (z.e : Int), .slice a1 n1 c1, .slice a2 n2 c2] 26))
  clear hd hown hoa hz
  dsimp only
  go_wp2
  go_ret
  exact ⟨ret_bool (decide_eq_true (by omega)), hb2⟩

/-- the state of ZoneWhole: the zone's box lies at the end of w1 -/
structure WInv (w w1 W : World) (a1 a2 : Option Addr) (n1 n2 c1 c2 : Nat) (z : Zn) : Prop where
  k : ∀ i, W.cell? ⟨w1.heap.size, i, none⟩ = (#[.int .i64 z.f, .int .i64 z.e, .slice a1 n1 c1, .slice a2 n2 c2] : Array Value)[i]?
  f : ∀ i, W.frozen? ⟨w1.heap.size, i, none⟩ = false
  own : ZOwn W w.heap.size a1 a2 n1 n2 c1 c2 z
  nb : (Value.slice a1 n1 c1).ownBlock ≠ some w1.heap.size ∧ (Value.slice a2 n2 c2).ownBlock ≠ some w1.heap.size
  hi : w1.heap.size < W.heap.size
  bw : Below w1.heap.size w1 W
section
variable {w w1 W W' : World} {a1 a2 : Option Addr} {n1 n2 c1 c2 : Nat} {z : Zn}
theorem WInv.below (h : WInv w w1 W a1 a2 n1 n2 c1 c2 z) (hb : Below W.heap.size W W') : WInv w w1 W' a1 a2 n1 n2 c1 c2 z :=
  ⟨box_step h.k h.hi hb, frz_step h.f h.hi hb, h.own.below hb, h.nb, Nat.lt_of_lt_of_le h.hi hb.size, Below.step h.bw hb⟩
theorem WInv.put (h : WInv w w1 W a1 a2 n1 n2 c1 c2 z) {b1 b2 : Option Addr} {m1 m2 d1 d2 : Nat} {y : Zn} (ho : ZOwn W w.heap.size b1 b2 m1 m2 d1 d2 y) (nn : (Value.slice b1 m1 d1).ownBlock ≠ some w1.heap.size ∧ (Value.slice b2 m2 d2).ownBlock ≠ some w1.heap.size) :
    WInv w w1 ((((W.setCell ⟨w1.heap.size, 0, none⟩ (.int .i64 y.f)).setCell ⟨w1.heap.size, 1, none⟩ (.int .i64 y.e)).setCell ⟨w1.heap.size, 2, none⟩ (.slice b1 m1 d1)).setCell ⟨w1.heap.size, 3, none⟩ (.slice b2 m2 d2)) b1 b2 m1 m2 d1 d2 y := by
  have h2 := h.hi
  exact ⟨box_set (box_set (box_set (box_set h.k 0 _) 1 _) 2 _) 3 _, frz_set (frz_set (frz_set (frz_set h.f _ _) _ _) _ _) _ _, ((((ho.set nn _ _).set nn _ _).set nn _ _).set nn _ _), nn, by simpa using h2, Below.setCell (Below.setCell (Below.setCell (Below.setCell h.bw (Nat.le_refl _) _) (Nat.le_refl _) _) (Nat.le_refl _) _) (Nat.le_refl _) _⟩
end

set_option maxHeartbeats 8000000 in
set_option maxRecDepth 100000 in
theorem zoneWhole_walk (a : Option Addr) (n c : Nat) (l : List Rw) (hl : l.length = n) {w : World} (hr : Row w a (flat encRw l)) (hnc : n ≤ c) (hcm : c ≤ maxLen) (hwf : ∀ r ∈ l, r.wf) (hoth : Oth w) :
    Calls Tryd.prog 8 #[.slice a n c] w fun ev w' => ev = .returned (.bool true) ∧ Below w.heap.size w w' := by
  go_enter Tryd.func8, Tryd.ntmps8
  go_wp2_with fail
  refine (zoneTells_ok _ hoth).mono ?_
  rintro ev w0 ⟨rfl, hb0⟩
  have hoth0 := hoth.mono hb0 (Nat.le_refl _)
  have hr0 := hr.below hb0
  clear hoth hr
  dsimp only
  go_wp2_with fail
  refine (zoned_ok a n c l 60 _ hl hnc hcm hr0 hwf (by omega) hoth0).mono ?_
  rintro ev w1 ⟨z, away, hd⟩
  obtain ⟨a1, a2, n1, n2, c1, c2, aw, na, ca, rfl, hown, hoa⟩ := hd.ex
  have HBW := Hid.mk (Below.step hb0 hd.bw)
  have HOT := Hid.mk (hoth0.mono hd.bw (Nat.le_refl _))
  have hlen60 := hd.len
  have HV0 := Hid.mk hd.inv
  have HFE := Hid.mk (And.intro hd.f hd.e)
  have hla := own_flat_len encBk_length (by decide) hoa
  have HRA := Hid.mk (own_row hoa)
  have hww := Nat.le_trans hb0.size hd.bw.size
  have hb2 := below_alloc w1 (.cells #[.int .i64 (z.f : Int), .int .i64 (z.e : Int), .slice a1 n1 c1, .slice a2 n2 c2] 26)
  have HI : Hid (WInv w w1 (w1.alloc (.cells #[.int .i64 (z.f : Int), .int .i64 (z.e : Int), .slice a1 n1 c1, .slice a2 n2 c2] 26)) a1 a2 n1 n2 c1 c2 z) :=
    ⟨box_new w1 _ _, box_frz w1 _ _, (hown.below hb2).base hb0.size, hown.ne (.inr (Nat.le_refl _)), by simp, hb2⟩
  clear hd hr0 hoth0 hb0 hb2 hoa hown
  dsimp only
  go_wp2
  generalize w1.alloc (.cells #[.int .i64 (z.f : Int), .int .i64 (z.e : Int), .slice a1 n1 c1, .slice a2 n2 c2] 26) = w2 at *
  go_loopw [9, 23] (fun _ s23 wr => ∃ (i : Nat) (y : Zn) (b1 b2 : Option Addr) (m1 d1 d2 : Nat), i ≤ na ∧ s23 = .int .i64 (i : Int) ∧ Hid (ZInv 18 108 y (away.drop i)) ∧ Hid (y.f = 16 ∧ y.e = 112) ∧ Hid (WInv w w1 wr b1 b2 m1 n2 d1 d2 y)) (fun _ s23 _ => na - (intOf s23).toNat)
  case atStart => exact ⟨0, z, a1, a2, n1, c1, c2, Nat.zero_le _, rfl, HV0, HFE, HI⟩
  case round =>
    obtain ⟨i, y, b1, b2, m1, d1, d2, hin, rfl, HV, HYE, HK⟩ := hrel
    clear HI HV0 HFE
    have hHi := HK.out.hi
    by_cases hlt : i < na
    · have hlt2 : i < away.length := by omega
      obtain ⟨bb, off, ha1, hbb, hc⟩ := row_elem encBk_length (by decide) (HRA.out.below HK.out.bw) hlt2
      obtain rfl := ha1
      obtain ⟨hc0, hc1, hc2⟩ := encBk_cells hc
      have hd0 : 0 < (away.drop i).length := by rw [List.length_drop]; omega
      have hde : (away.drop i)[0] = away[i] := by simp
      have hxm : away[i] ∈ away.drop i := by rw [← hde]; exact List.getElem_mem hd0
      have HFX := Hid.mk (HV.out.fits _ hxm)
      have HAX := Hid.mk (HV.out.apart _ hxm)
      have HVB : Hid (ZInv 18 108 (y.back away[i].a away[i].o) (away.drop (i + 1))) := by
        have h1 := HV.out.back hd0
        rw [hde] at h1
        rw [show away.drop (i + 1) = (away.drop i).eraseIdx 0 from by rw [List.eraseIdx_zero, List.tail_drop]]
        exact h1
      generalize away[i] = x at *
      clear hc hxm hde hd0
      have hlti : (i : Int) < na := by omega
      have hba := below_alloc wr (.cells #[.int .i64 (x.a : Int), .int .i64 (x.o : Int), .int .i64 (x.t : Int)] 36)
      have HK1 := Hid.mk (HK.out.below hba)
      have k30 := HK.out.k 0
      have k31 := HK.out.k 1
      have k32 := HK.out.k 2
      have k33 := HK.out.k 3
      simp only [List.getElem?_toArray, List.getElem?_cons_zero, List.getElem?_cons_succ] at k30 k31 k32 k33
      have hyok := HV.out.ok
      go_wp2_with fail
      clear hba hc0 hc1 hc2 k30 k31 k32 k33 HK hbb
      generalize wr.alloc (.cells #[.int .i64 (x.a : Int), .int .i64 (x.o : Int), .int .i64 (x.t : Int)] 36) = wv at *
      have hHv := HK1.out.hi
      refine (back_ok _ _ _ _ _ _ y x.a x.o _ HK1.out.own.at hyok HFX.out HAX.out).mono ?_
      rintro ev w7 ⟨b3, b4, m3, e3, e4, rfl, hown7, hb7⟩
      have HK2 := Hid.mk (HK1.out.below hb7)
      have hHi7 := hb7.size
      have hnn7 := hown7.ne (g := w1.heap.size) (.inl (by omega))
      have hown8 : ZOwn w7 w.heap.size b3 b4 m3 n2 e3 e4 (y.back x.a x.o) := hown7.base (by omega)
      have HK5 : Hid (WInv w w1 ((((w7.setCell ⟨w1.heap.size, 0, none⟩ (.int .i64 y.f)).setCell ⟨w1.heap.size, 1, none⟩ (.int .i64 y.e)).setCell ⟨w1.heap.size, 2, none⟩ (.slice b3 m3 e3)).setCell ⟨w1.heap.size, 3, none⟩ (.slice b4 n2 e4)) b3 b4 m3 n2 e3 e4 (y.back x.a x.o)) := HK2.out.put hown8 hnn7
      have HK6 := Hid.mk (HK5.out.below (below_alloc _ (.cells #[.int .i64 (y.f : Int), .int .i64 (y.e : Int), .slice b3 m3 e3, .slice b4 n2 e4] 26)))
      have ff3 := HK2.out.f
      have k30 := HK2.out.k 0
      have k31 := HK2.out.k 1
      have k32 := HK2.out.k 2
      have k33 := HK2.out.k 3
      simp only [List.getElem?_toArray, List.getElem?_cons_zero, List.getElem?_cons_succ] at k30 k31 k32 k33
      have hwr7 : w1.heap.size < w7.heap.size := by omega
      clear hown7 hown8 HK1 HK2 HK5 hb7 hnn7
      dsimp only
      go_wp2
      go_roundw
      case rel => exact ⟨i + 1, y.back x.a x.o, b3, b4, m3, e3, e4, by omega, by go_num, HVB, HYE, HK6⟩
      case measure => simp [intOf]; omega
    · obtain rfl : i = na := by omega
      have HVE : Hid (ZInv 18 108 y []) := by
        have h1 := HV.out
        rw [List.drop_eq_nil_of_le (by omega)] at h1
        exact h1
      clear HV
      have hown1 := HK.out.own.l1
      go_wp2_with fail
      refine (zoned_ok none 0 0 [] 0 _ rfl (Nat.le_refl _) (Nat.zero_le _) (Row.nil _ _) (by simp) (by omega) (HOT.out.mono HK.out.bw (Nat.le_refl _))).mono ?_
      rintro ev w8 ⟨z8, away8, hd8⟩
      obtain ⟨e1, e2, p1, p2, q1, q2, ew, na8, ca8, rfl, hown8, hoa8⟩ := hd8.ex
      have hz8 := (hd8.nil rfl).1
      have HK8 := Hid.mk (HK.out.below hd8.bw)
      have hb9 := below_alloc w8 (.cells #[.int .i64 (z8.f : Int), .int .i64 (z8.e : Int), .slice e1 p1 q1, .slice e2 p2 q2] 26)
      have HK9 := Hid.mk (HK8.out.below hb9)
      have hat9 := hown8.at.below hb9
      have hp1 := hown8.l1
      have hyok := HVE.out.ok
      have hm256 : y.l.length ≤ 256 := Nat.le_trans (OkL.length_le hyok.2 (fun b hb => (hyok.2.fit b hb).1.2.2.1)) hyok.1.e2
      have hkeys : y.l.map keyB = z8.l.map keyB := by
        have h1 := HVE.out.ok.2
        have h2 := hd8.inv.ok.2
        have hc1 := HVE.out.cov
        have hc2 := hd8.inv.cov
        rw [(hd8.nil rfl).2] at hc2
        rw [HYE.out.1, HYE.out.2] at h1
        rw [hd8.f, hd8.e] at h2
        refine same_blocks (f := 16) (e := 112) (by decide) (by decide) h1 h2 fun p => ?_
        have g1 := hc1 p
        have g2 := hc2 p
        have hn : ¬ covL [] p := fun ⟨b, hb, _⟩ => by simp at hb
        constructor
        · intro h
          rcases g2.2 (g1.1 (.inl h)) with h | h
          · exact h
          · exact absurd h hn
        · intro h
          rcases g1.2 (g2.1 (.inl h)) with h | h
          · exact h
          · exact absurd h hn
      have HKY := Hid.mk hkeys
      clear hkeys hd8 hown8 hoa8 hz8
      have k32 := HK8.out.k 2
      have hHi8 := HK8.out.hi
      simp only [List.getElem?_toArray, List.getElem?_cons_zero, List.getElem?_cons_succ] at k32
      dsimp only
      go_wp2_with fail
      refine (equalF_bk _ _ _ _ _ _ y.l z8.l _ hown1 hp1 (by omega) HK9.out.own.at.r1 hat9.r1 HKY.out).mono ?_
      rintro ev w10 ⟨rfl, hb10⟩
      have HF := Hid.mk (HK9.out.below hb10)
      dsimp only
      go_wp2
      go_ret
      exact ⟨rfl, HBW.out.trans (HF.out.bw.mono hww)⟩
end Go.Proofs.YtbkajbjhffdlfaaDoor
