/- Pq, Rm, PagesRoomWalk: texts of this claim, joined. -/
import Derived.Test.YtjljcifpcljlaaaDoorPM15
import Derived.Test.YtjljcifpcljlaaaDoorPM2
import Derived.Test.YtjljcifpcljlaaaDoorPM6
import Derived.OpenShut
import Derived.ProofKit
/- Contracts of the predicates of PagesRoom and PagesBad. -/
namespace Go.Proofs.YtjljcifpcljlaaaDoor
open Go.RowKit
set_option linter.unusedVariables false

theorem greatEnoughP (x : Bk) (o C : Nat) (W : World) (hx : x.o ≤ 4) (ho : o ≤ 4) (hC : C < W.heap.size) (hc : W.cell? ⟨C, 0, none⟩ = some (.int .i64 o)) :
    Calls Tryd.prog 21 (#[.agg (encBk x).toArray] ++ #[.pointer (some ⟨C, 0, none⟩)]) W fun ev w' => ev = .returned (.bool (decide (o ≤ x.o))) ∧ Below W.heap.size W w' := by
  have hne : C ≠ W.heap.size := by omega
  show Calls Tryd.prog 21 #[.agg #[.int .i64 x.a, .int .i64 x.o, .int .i64 x.t], .pointer (some ⟨C, 0, none⟩)] W _
  go_enter Tryd.func21, Tryd.ntmps21
  go_wp2
  go_ret
  exact ⟨ret_bool (by simp), below_alloc _ _⟩

theorem thisPage (x : Bk) (p C : Nat) (W : World) (hx : x.a ≤ 1000) (hp : p ≤ 1000) (hC : C < W.heap.size) (hc : W.cell? ⟨C, 0, none⟩ = some (.int .i64 p)) :
    Calls Tryd.prog 27 (#[.agg (encBk x).toArray] ++ #[.pointer (some ⟨C, 0, none⟩)]) W fun ev w' => ev = .returned (.bool (decide (x.a = p))) ∧ Below W.heap.size W w' := by
  have hne : C ≠ W.heap.size := by omega
  show Calls Tryd.prog 27 #[.agg #[.int .i64 x.a, .int .i64 x.o, .int .i64 x.t], .pointer (some ⟨C, 0, none⟩)] W _
  go_enter Tryd.func27, Tryd.ntmps27
  go_wp2
  go_ret
  exact ⟨ret_bool (by rw [Bool.eq_iff_iff]; simp only [beq_iff_eq, decide_eq_true_eq]; omega), below_alloc _ _⟩
end Go.Proofs.YtjljcifpcljlaaaDoor
/- When a request is refused for room. No program in sight. -/
namespace Go.Proofs.YtjljcifpcljlaaaDoor
set_option linter.unusedVariables false

/-- a zone has a free block that is great enough -/
def Big (i o : Nat) (h : Hp) : Prop := ∃ b ∈ (h.zone i).l, o ≤ b.o
instance (i o : Nat) (h : Hp) : Decidable (Big i o h) := by unfold Big; infer_instance
theorem back_big {z : Zn} (hz : z.ok) {a o k : Nat} (hb : fitsB z.f z.e a o) (hd : ∀ x ∈ z.l, apartB a o x) (h : ∃ b ∈ z.l, k ≤ b.o) : ∃ b ∈ (z.back a o).l, k ≤ b.o := by
  obtain ⟨b, hb1, hb2⟩ := h
  obtain ⟨g1, g2⟩ := Zn.back_ok hz hb hd
  have hfit := (hz.2.fit b hb1).1
  obtain ⟨c, hc, c1, c2⟩ := in_one (f := z.f) (e := z.e) hz.1.f16 hz.1.e16 g1.2 b.o b.a hfit (fun p hp => (g2 p).2 (.inl ⟨b, hb1, hp⟩))
  refine ⟨c, hc, ?_⟩
  unfold Bk.fin at c2
  have h3 : 2 ^ b.o ≤ 2 ^ c.o := by omega
  have h4 : b.o ≤ c.o := Classical.byContradiction fun hn => by
    have := Nat.pow_lt_pow_right (a := 2) (by decide) (show c.o < b.o by omega)
    omega
  omega
theorem backB_big {i k : Nat} {h : Hp} {a o : Nat} (hk : HOk h) (hi : i < 2) (hh : Big i k h) (hb : fitsB 0 256 a o) (hd : ∀ p, cnt h.all p + hit ⟨a, o, 0⟩ p ≤ 1) : Big i k (h.backB a o) := by
  obtain ⟨g1, g2, g3⟩ := back_ready hk hb hd
  have hz : h.zof a < 2 := by unfold Hp.zof; split <;> omega
  unfold Big Hp.backB
  rw [zone_setZ h _ i _ hz hi]
  split
  · rename_i e
    subst e
    exact back_big g1 g2 g3 hh
  · exact hh
theorem backAll_big {i k : Nat} (hi : i < 2) : ∀ (ps : List Nat) {h : Hp}, HOk h → Big i k h → (∀ p ∈ ps, p < 256) → (∀ q, cnt h.all q + cnt (pgs ps) q ≤ 1) → Big i k (backAll h ps)
  | [], h, hk, hh, _, _ => hh
  | p :: ps, h, hk, hh, hp, hd => by
    have hd1 : ∀ q, cnt h.all q + hit ⟨p, 0, 0⟩ q ≤ 1 := fun q => by have := hd q; simp only [pgs, List.map_cons, cnt] at this; omega
    obtain ⟨k1, k2, k3, k4, k5⟩ := hk.backB (fits_page (hp p (by simp))) hd1
    exact backAll_big hi ps k1 (backB_big hk hi hh (fits_page (hp p (by simp))) hd1) (fun q hq => hp q (by simp [hq])) (fun q => by rw [k2]; have := hd q; simp only [pgs, List.map_cons, cnt] at this ⊢; omega)
theorem drainL_big {i k : Nat} (hi : i < 2) : ∀ (ls : List Ls) {h : Hp}, HOk h → Big i k h → (∀ l ∈ ls, ∀ p ∈ l.p, p < 256) → (∀ q, cnt h.all q + cnt (lsB ls) q ≤ 1) → Big i k (drainL h ls)
  | [], h, hk, hh, _, _ => hh
  | l :: ls, h, hk, hh, hp, hd => by
    have hd1 : ∀ q, cnt h.all q + cnt (pgs l.p) q ≤ 1 := fun q => by have := hd q; rw [cnt_lsB_cons] at this; omega
    obtain ⟨k1, k2, k3, k4, k5⟩ := hk.backAll l.p (hp l (by simp)) hd1
    exact drainL_big hi ls k1 (backAll_big hi l.p hk hh (hp l (by simp)) hd1) (fun x hx => hp x (by simp [hx])) (fun q => by rw [k2]; have := hd q; rw [cnt_lsB_cons] at this; omega)
theorem drain_big {i k : Nat} {h : Hp} (hi : i < 2) (hk : HOk h) (hh : Big i k h) : Big i k h.drain := by
  have h1 := drainL_big hi h.ls (h := { h with ls := [] }) hk.noLists hh (fun l hl p hp => ((hk.lr l hl).2.2.2.2.2 p hp).1) (fun q => by
    have := hk.one q
    rw [cnt_all] at this ⊢
    simp only [lsB, cnt]
    omega)
  rw [drainL_ls h.ls h []] at h1
  exact h1

/-- a zone has a block, and enough beside -/
def Could (h : Hp) (o i : Nat) : Prop := Big i o h ∧ h.held i false false + 2 ^ o ≤ szB (h.zone i).l
instance (h : Hp) (o i : Nat) : Decidable (Could h o i) := by unfold Could; infer_instance
theorem takeZ_iff {h : Hp} (hk : HOk h) {i o t : Nat} (hi : i < 2) (ho : o ≤ 4) (ht : t < 3) : (h.takeZ i o t (h.held i false false)).isSome = true ↔ Could h o i := by
  unfold Hp.takeZ Could
  by_cases h1 : szB (h.zone i).l < h.held i false false + 2 ^ o
  · rw [if_pos h1]
    simp only [Option.isSome_none, Bool.false_eq_true, false_iff]
    exact fun h2 => absurd h2.2 (by omega)
  · rw [if_neg h1]
    by_cases h2 : Big i o h
    · obtain ⟨z', a, h3, _⟩ := Zn.take_some (hk.zone i) ho ht h2
      rw [h3]
      simp only [Option.isSome_some, true_iff]
      exact ⟨h2, by omega⟩
    · rw [Zn.take_none h2]
      simp only [Option.isSome_none, Bool.false_eq_true, false_iff]
      exact fun h3 => h2 h3.1
theorem ask_none_ls {h : Hp} (hk : HOk h) (hl : h.ls = []) {cpu i o t : Nat} (hi : i < 2) (ho : o ≤ 4) (ht : t < 3) : (h.ask cpu i o t false false).isSome = true ↔ Could h o i := by
  unfold Hp.ask
  split
  · rename_i e
    subst e
    unfold Hp.single
    rw [hl]
    simp only [List.getElem?_nil, Option.isSome_map]
    exact takeZ_iff hk hi ho ht
  · exact takeZ_iff hk hi ho ht
theorem attempt_iff {h : Hp} {cpu o t : Nat} : (h.attempt cpu o t false false).isSome = true ↔ ((h.ask cpu 0 o t false false).isSome = true ∨ (h.ask cpu 1 o t false false).isSome = true) := by
  unfold Hp.attempt
  simp only [Bool.false_eq_true, if_false]
  cases h1 : h.ask cpu 1 o t false false with
  | some r => simp
  | none => simp
theorem alloc_iff {h : Hp} {cpu o t : Nat} : (h.alloc cpu o t false false).isSome = true ↔ ((h.attempt cpu o t false false).isSome = true ∨ (h.drain.attempt cpu o t false false).isSome = true) := by
  unfold Hp.alloc
  cases h1 : h.attempt cpu o t false false with
  | some r => simp
  | none =>
    cases h2 : h.drain.attempt cpu o t false false with
    | some r => simp
    | none => simp
theorem drain_id {h : Hp} (hl : h.ls = []) : h.drain = h := by
  unfold Hp.drain
  rw [hl]
  unfold drainL
  cases h
  simp only at hl
  rw [hl]
/-- what PagesRoom asks -/
theorem room_law {h : Hp} (hk : HOk h) {cpu o t : Nat} (ho : o ≤ 4) (ht : t < 3) :
    ((Could h.drain o 0 ∨ Could h.drain o 1) → (h.alloc cpu o t false false).isSome = true) ∧
    (¬ (Could h.drain o 0 ∨ Could h.drain o 1) → (h.alloc cpu o t false false).isSome = true → o = 0 ∧ h.ls ≠ []) := by
  obtain ⟨d1, d2, d3, d4, d5⟩ := hk.drain
  have key : (h.drain.attempt cpu o t false false).isSome = true ↔ (Could h.drain o 0 ∨ Could h.drain o 1) := by
    rw [attempt_iff, ask_none_ls d1 d4 (by omega) ho ht, ask_none_ls d1 d4 (by omega) ho ht]
  refine ⟨fun h1 => alloc_iff.2 (.inr (key.2 h1)), fun h1 h2 => ?_⟩
  have h3 : (h.attempt cpu o t false false).isSome = true := by
    rcases alloc_iff.1 h2 with h3 | h3
    · exact h3
    · exact absurd (key.1 h3) h1
  have hls : h.ls ≠ [] := fun hl => h1 (key.1 (by rw [drain_id hl]; exact h3))
  refine ⟨Classical.byContradiction fun ho0 => ?_, hls⟩
  have up : ∀ i, i < 2 → (h.ask cpu i o t false false).isSome = true → Could h.drain o i := fun i hi h4 => by
    unfold Hp.ask at h4
    rw [if_neg ho0] at h4
    obtain ⟨g1, g2⟩ := (takeZ_iff hk hi ho ht).1 h4
    refine ⟨drain_big hi hk g1, ?_⟩
    rw [held_same hk d1 d3]
    have := drain_held (m := fun i => szB (h.zone i).l) hk (fun i _ => Nat.le_refl _) i hi
    simp only at this
    omega
  rcases attempt_iff.1 h3 with h4 | h4
  · exact h1 (.inl (up 0 (by omega) h4))
  · exact h1 (.inr (up 1 (by omega) h4))
end Go.Proofs.YtjljcifpcljlaaaDoor
/- The walk of paddockkeep.PagesRoom. -/
namespace Go.Proofs.YtjljcifpcljlaaaDoor
open Go.RowKit Go.WideShapes Go.ChangeShapes
set_option linter.unusedVariables false
set_option linter.unusedSimpArgs false

theorem suH_room (a b c : Int) : (∀ i, (suH a b c).min i = (pk b 12).toNat) ∧ (suH a b c).z0.e = (16 * pk a 9).toNat ∧ (suH a b c).cpus = (1 + pk c 4).toNat := by
  obtain ⟨split, least, cpus, e1, e2, e3, h1, h2, h3, h4⟩ := su_nums a b c
  have hi := newInv_take (suB_free a b c) h1 h2 _ (Nat.le_refl _)
  rw [List.take_length] at hi
  refine ⟨fun i => ?_, ?_, rfl⟩
  · unfold suH newH Hp.min
    split <;> rfl
  · unfold suH
    rw [show (16 * pk a 9).toNat = split by omega]
    exact hi.e0
/-- one of the first zones could -/
def couldTo (d : Hp) (o : Nat) : Nat → Bool
  | 0 => false
  | i + 1 => couldTo d o i || decide (Could d o i)
theorem couldTo_two (d : Hp) (o : Nat) : couldTo d o 2 = true ↔ (Could d o 0 ∨ Could d o 1) := by simp [couldTo]
/-- Alloc of the first processor, with no flags -/
theorem alloc_pg0 (az am al av : Option Addr) (cz cm cl cv nl nv : Nat) (y0 y1 : Zc) (lc : List Lc) (h : Hp) (order : Nat) (w : World) (hh : HAt w az am al av nl nv y0 y1 lc h) (hk : HOk h) (hnl : nl ≤ 1000) (hnv : nv ≤ 1000) (hor : order ≤ 4) (ho : Oth w) :
    Calls Tryd.prog 18 #[.agg #[.slice az 2 cz, .slice am 2 cm, .int .i64 h.cpus, .slice al nl cl, .slice av nv cv], .int .i64 0, .int .i64 order, .int .i64 0] w fun ev w' => Below w.heap.size w w' ∧ ∃ (x0 x1 x3 x4 : Option Addr) (u0 v0 u1 v1 u3 v3 u4 v4 : Nat) (kc ax e : Int), ev = .returned (.tuple #[.agg #[.slice x0 u0 v0, .slice x1 u1 v1, .int .i64 kc, .slice x3 u3 v3, .slice x4 u4 v4], .int .i64 ax, .int .i64 e]) ∧ (((h.alloc 0 order 0 false false).isSome = true ∧ e = 0) ∨ ((h.alloc 0 order 0 false false).isSome = false ∧ e = 6)) := by
  refine (allocH_pg az am al av cz cm cl cv nl nv y0 y1 lc h 0 order 0 w hh hk hnl hnv hk.cp.1 hor (by omega) (by decide) ho).mono fun ev w' hq => ?_
  have e0 : h.alloc 0 order (flagT 0) (decide (0 / 8 % 2 = 1)) (decide (0 % 2 = 1)) = h.alloc 0 order 0 false false := rfl
  rw [e0] at hq
  obtain ⟨g1, ⟨g2, g3⟩ | ⟨h', a, c', g2, g3, g4⟩⟩ := hq
  · exact ⟨g1, _, _, _, _, _, _, _, _, _, _, _, _, _, _, _, g3, .inr ⟨by rw [g2]; rfl, rfl⟩⟩
  · exact ⟨g1, _, _, _, _, _, _, _, _, _, _, _, _, _, _, _, g3, .inl ⟨by rw [g2]; rfl, rfl⟩⟩

set_option maxHeartbeats 8000000 in
set_option maxRecDepth 100000 in
theorem pagesRoom_walk (a : Option Addr) (n c : Nat) (l : List Rw) (hl : l.length = n) {w : World} (hr : Row w a (flat encRw l)) (hnc : n ≤ c) (hcm : c ≤ maxLen) (hwf : ∀ r ∈ l, r.wf) (x : Int) (hx : (Lit.int .i64 x).wf = true) (y : Int) (hy : (Lit.int .i64 y).wf = true) (z : Int) (hz : (Lit.int .i64 z).wf = true) (v : Int) (hv : (Lit.int .i64 v).wf = true) (hoth : Oth w) :
    Calls Tryd.prog 5 #[.slice a n c, .int .i64 x, .int .i64 y, .int .i64 z, .int .i64 v] w fun ev w' => ev = .returned (.bool true) ∧ Below w.heap.size w w' := by
  have hbx := bounds_i64 hx
  have hby := bounds_i64 hy
  have hbz := bounds_i64 hz
  have hbv := bounds_i64 hv
  have HR1 := Hid.mk hr
  have HO := Hid.mk hoth
  clear hr hoth
  go_enter Tryd.func5, Tryd.ntmps5
  go_wp2_with fail
  refine (setup_ok x y z w hbx hby hbz).mono ?_
  rintro ev w1 ⟨m1, d1, m2, d2, rfl, hbt1, hb1⟩
  go_upto_region 2 with fail
  have hb2 := below_alloc w1 (.cells #[.slice m1 2 d1, .slice m2 2 d2, .int .i64 (16 * pk x 9), .int .i64 (pk y 12), .int .i64 (1 + pk z 4)] 27)
  have KU := box_new w1 #[.slice m1 2 d1, .slice m2 2 d2, .int .i64 (16 * pk x 9), .int .i64 (pk y 12), .int .i64 (1 + pk z 4)] 27
  have hsu : w1.heap.size < (w1.alloc (.cells #[.slice m1 2 d1, .slice m2 2 d2, .int .i64 (16 * pk x 9), .int .i64 (pk y 12), .int .i64 (1 + pk z 4)] 27)).heap.size := by simp
  have HBT := Hid.mk (hbt1.below hb2)
  have HB2 := Hid.mk (Below.step hb1 hb2)
  have u0 := KU 0
  have u1 := KU 1
  have u2 := KU 2
  have u3 := KU 3
  have u4 := KU 4
  simp only [List.getElem?_toArray, List.getElem?_cons_zero, List.getElem?_cons_succ] at u0 u1 u2 u3 u4
  clear hbt1 hb1 hb2
  generalize w1.alloc (.cells #[.slice m1 2 d1, .slice m2 2 d2, .int .i64 (16 * pk x 9), .int .i64 (pk y 12), .int .i64 (1 + pk z 4)] 27) = w2 at *
  obtain ⟨U, hU⟩ : ∃ U, w1.heap.size = U := ⟨_, rfl⟩
  rw [hU] at KU hsu u0 u1 u2 u3 u4 ⊢
  clear hU
  go_wp2_with fail
  refine (paged_su a n c l m1 m2 d1 d2 x y z 70 w2 hl hnc hcm (HR1.out.below HB2.out) hwf (by omega) HBT.out (HO.out.mono HB2.out (Nat.le_refl _))).mono ?_
  rintro ev w3 hd3
  obtain ⟨⟨h, hc, aw, ca, away, rfl, hh3, hrw3, hpi, hlen, _, _⟩, hb3⟩ := hd3
  have HPI := Hid.mk hpi
  have HL70 := Hid.mk hlen
  have HB3 := Hid.mk (Below.step HB2.out hb3)
  have KU3 := box_step KU hsu hb3
  have hsu3 : U < w3.heap.size := Nat.lt_of_lt_of_le hsu hb3.size
  have HH3 := Hid.mk hh3
  have HRW3 := Hid.mk hrw3
  have HBT3 := Hid.mk (HBT.out.below hb3)
  clear u0 u1 u2 u3 u4 KU hsu hpi hlen hh3 hrw3 hb3 HB2 HBT
  unfold Hc.vals
  go_upto_region 3 with fail
  have hb4 := below_alloc w3 (.cells #[.slice hc.az 2 hc.cz, .slice hc.am 2 hc.cm, .int .i64 (h.cpus : Int), .slice hc.al hc.lc.length hc.cl, .slice hc.av h.live.length hc.cv] 34)
  have K10 := box_new w3 #[.slice hc.az 2 hc.cz, .slice hc.am 2 hc.cm, .int .i64 (h.cpus : Int), .slice hc.al hc.lc.length hc.cl, .slice hc.av h.live.length hc.cv] 34
  have hs10 := box_lt w3 (.cells #[.slice hc.az 2 hc.cz, .slice hc.am 2 hc.cm, .int .i64 (h.cpus : Int), .slice hc.al hc.lc.length hc.cl, .slice hc.av h.live.length hc.cv] 34)
  have KU4 := box_step KU3 hsu3 hb4
  have hsu4 := Nat.lt_of_lt_of_le hsu3 hb4.size
  have HH4 := Hid.mk (HH3.out.below hb4)
  have HRW4 := Hid.mk (HRW3.out.below hb4)
  have HBT4 := Hid.mk (HBT3.out.below hb4)
  have HB4 := Hid.mk (Below.step HB3.out hb4)
  clear hb4 KU3 hsu3 HH3 HRW3 HBT3 HB3
  generalize w3.alloc (.cells #[.slice hc.az 2 hc.cz, .slice hc.am 2 hc.cm, .int .i64 (h.cpus : Int), .slice hc.al hc.lc.length hc.cl, .slice hc.av h.live.length hc.cv] 34) = w4 at *
  obtain ⟨B10, hB10⟩ : ∃ B, w3.heap.size = B := ⟨_, rfl⟩
  rw [hB10] at K10 hs10 ⊢
  clear hB10
  have hl70 := HL70.out
  obtain ⟨o, ho5, hoe⟩ := pk_nat v 5 (by decide)
  rw [show ((5 : Nat) : Int) = 5 from rfl] at hoe
  have ho4 : o ≤ 4 := by omega
  have hnvl : h.live.length ≤ 1000 := Nat.le_trans HPI.out.ok.live_len (by decide)
  have hnll : hc.lc.length ≤ 1000 := by
    have h1 := congrArg List.length HH4.out.ll
    rw [List.length_map] at h1
    rw [h1]
    exact Nat.le_trans HPI.out.ok.ls_len (by decide)
  go_wp2_with fail
  refine (picked_any v 5 _ hbv.1 hbv.2 (by omega) (by omega)).mono ?_
  rintro ev _ ⟨rfl, rfl⟩
  rw [hoe]
  clear hoe
  go_upto_region 4 with fail
  have hb5 := below_alloc w4 (.cells #[.int .i64 (o : Int)] 3)
  have K15 := box_new w4 #[.int .i64 (o : Int)] 3
  have hs15 := box_lt w4 (.cells #[.int .i64 (o : Int)] 3)
  have K10a := box_step K10 hs10 hb5
  have hs10a := Nat.lt_of_lt_of_le hs10 hb5.size
  have KU5 := box_step KU4 hsu4 hb5
  have hsu5 := Nat.lt_of_lt_of_le hsu4 hb5.size
  have HH5 := Hid.mk (HH4.out.below hb5)
  have HB5 := Hid.mk (Below.step HB4.out hb5)
  clear hb5 KU4 hsu4 HH4 HRW4 HBT4 HB4 K10 hs10
  generalize w4.alloc (.cells #[.int .i64 (o : Int)] 3) = w5 at *
  obtain ⟨O, hO⟩ : ∃ B, w4.heap.size = B := ⟨_, rfl⟩
  rw [hO] at K15 hs15 ⊢
  clear hO
  have o0 := K15 0
  have v0 := K10a 0
  have v1 := K10a 1
  have v2 := K10a 2
  have v3 := K10a 3
  have v4 := K10a 4
  simp only [List.getElem?_toArray, List.getElem?_cons_zero, List.getElem?_cons_succ] at o0 v0 v1 v2 v3 v4
  go_wp2_with fail
  refine (alloc_pg0 _ _ _ _ _ _ _ _ _ _ _ _ _ h o w5 HH5.out HPI.out.ok hnll hnvl ho4 (HO.out.mono HB5.out (Nat.le_refl _))).mono ?_
  rintro ev w6 ⟨hb6, x0, x1, x3, x4, r0, t0, r1, t1, r3, t3, r4, t4, kc, ax, e, rfl, hal⟩
  have HAL := Hid.mk hal
  clear hal o0 v0 v1 v2 v3 v4
  go_upto_region 5 with fail
  have hb7 := Below.step hb6 (below_alloc w6 (.cells #[.slice x0 r0 t0, .slice x1 r1 t1, .int .i64 kc, .slice x3 r3 t3, .slice x4 r4 t4] 34))
  have K15a := box_step K15 hs15 hb7
  have hs15a := Nat.lt_of_lt_of_le hs15 hb7.size
  have K10b := box_step K10a hs10a hb7
  have hs10b := Nat.lt_of_lt_of_le hs10a hb7.size
  have KU7 := box_step KU5 hsu5 hb7
  have hsu7 := Nat.lt_of_lt_of_le hsu5 hb7.size
  have HH7 := Hid.mk (HH5.out.below hb7)
  have HB7 := Hid.mk (Below.step HB5.out hb7)
  clear hb6 hb7 K15 hs15 K10a hs10a KU5 hsu5 HH5 HB5
  generalize w6.alloc (.cells #[.slice x0 r0 t0, .slice x1 r1 t1, .int .i64 kc, .slice x3 r3 t3, .slice x4 r4 t4] 34) = w7 at *
  generalize w6.heap.size = B16 at *
  have v0 := K10b 0
  have v1 := K10b 1
  have v2 := K10b 2
  have v3 := K10b 3
  have v4 := K10b 4
  simp only [List.getElem?_toArray, List.getElem?_cons_zero, List.getElem?_cons_succ] at v0 v1 v2 v3 v4
  go_wp2_with fail
  refine (drainH_pg _ _ _ _ _ _ _ _ _ _ _ _ _ h w7 HH7.out HPI.out.ok hnll hnvl).mono ?_
  rintro ev w8 ⟨dc, rfl, hdn, hb8⟩
  unfold Hc.vals
  clear v0 v1 v2 v3 v4
  go_upto_region 7 with fail
  have hb9 := below_alloc w8 (.cells #[.slice dc.az 2 dc.cz, .slice dc.am 2 dc.cm, .int .i64 (h.drain.cpus : Int), .slice dc.al dc.lc.length dc.cl, .slice dc.av h.drain.live.length dc.cv] 34)
  have KD := box_new w8 #[.slice dc.az 2 dc.cz, .slice dc.am 2 dc.cm, .int .i64 (h.drain.cpus : Int), .slice dc.al dc.lc.length dc.cl, .slice dc.av h.drain.live.length dc.cv] 34
  have hsD := box_lt w8 (.cells #[.slice dc.az 2 dc.cz, .slice dc.am 2 dc.cm, .int .i64 (h.drain.cpus : Int), .slice dc.al dc.lc.length dc.cl, .slice dc.av h.drain.live.length dc.cv] 34)
  have hb89 := Below.step hb8 hb9
  have K15b := Hid.mk (box_step K15a hs15a hb89)
  have hs15b := Nat.lt_of_lt_of_le hs15a hb89.size
  have K10c := Hid.mk (box_step K10b hs10b hb89)
  have hs10c := Nat.lt_of_lt_of_le hs10b hb89.size
  have KU9 := Hid.mk (box_step KU7 hsu7 hb89)
  have hsu9 := Nat.lt_of_lt_of_le hsu7 hb89.size
  have HD9 := Hid.mk (hdn.at.below hb9)
  have HB9 := Hid.mk (Below.step HB7.out hb89)
  have hlll : h.ls.length = hc.lc.length := by rw [← HH7.out.ll, List.length_map]
  clear hb8 hb9 hb89 hdn K15a hs15a K10b hs10b KU7 hsu7 HH7 HB7
  generalize w8.alloc (.cells #[.slice dc.az 2 dc.cz, .slice dc.am 2 dc.cm, .int .i64 (h.drain.cpus : Int), .slice dc.al dc.lc.length dc.cl, .slice dc.av h.drain.live.length dc.cv] 34) = w9 at *
  obtain ⟨D, hD⟩ : ∃ B, w8.heap.size = B := ⟨_, rfl⟩
  rw [hD] at KD hsD ⊢
  clear hD
  have HLAW := Hid.mk (room_law HPI.out.ok (cpu := 0) (o := o) (t := 0) ho4 (by decide))
  obtain ⟨hdk, -, hdS, -, -⟩ := HPI.out.ok.drain
  have HDK := Hid.mk hdk
  have HSR := suH_room x y z
  have p9 := pk_in x (m := 9) (by decide)
  have p12 := pk_in y (m := 12) (by decide)
  have HHD : Hid (∀ i, (h.drain.held i false false : Int) = pk y 12 + (if i = 0 then (256 - 16 * pk x 9) / 32 else 0)) := fun i => by
    have e1 : h.drain.min i = (pk y 12).toNat := by
      have := HPI.out.same
      rw [← HSR.1 i]
      unfold Hp.min
      rw [hdS.m0, hdS.m1, this.m0, this.m1]
    have e2 : h.drain.z1.f = (16 * pk x 9).toNat := by rw [← hdk.e0, hdS.split, HPI.out.same.split, HSR.2.1]
    unfold Hp.held
    rw [e1, e2, hdk.e1, if_neg (show ¬ (false = true) by decide)]
    by_cases hi : i = 0
    · rw [if_pos ⟨hi, rfl⟩, if_pos hi]
      have e3 : (16 * pk x 9).toNat ≤ 128 := by omega
      have e4 : ((16 * pk x 9).toNat : Int) = 16 * pk x 9 := by omega
      omega
    · rw [if_neg (fun h9 => hi h9.1), if_neg hi]
      omega
  have d0 := KD 0
  simp only [List.getElem?_toArray, List.getElem?_cons_zero, List.getElem?_cons_succ] at d0
  clear hdS hdk HSR KD
  generalize h.drain = d at *
  go_wp2_with fail
  clear d0
  go_loopw [21, 57] (fun s21 s57 wr => ∃ i : Nat, i ≤ 2 ∧ s57 = .int .i64 (i : Int) ∧ s21 = .bool (couldTo d o i) ∧ Hid (Below w9.heap.size w9 wr)) (fun _ s57 _ => 2 - (intOf s57).toNat)
  case atStart => exact ⟨0, Nat.zero_le _, rfl, rfl, Below.refl _ _⟩
  case round =>
    obtain ⟨i, hi, rfl, rfl, HBr⟩ := hrel
    by_cases hlt : i < 2
    · have hlt2 : (i : Int) < 2 := by omega
      have HHr := Hid.mk (HD9.out.below HBr.out)
      obtain ⟨b, off, zc, hzc, hb, ⟨c0, c1, c2, c3⟩, hzt⟩ := HHr.out.zc hlt
      have hzk := HDK.out.zone i
      have hzl := (zone_len HDK.out i).1
      have hsz2 := szB_le hzk
      have HSUC : Hid (couldTo d o (i + 1) = (couldTo d o i || decide (Big i o d ∧ d.held i false false + 2 ^ o ≤ szB (d.zone i).l))) := rfl
      have hbig : Big i o d ↔ ((d.zone i).l.any fun x => decide (o ≤ x.o)) = true := by
        unfold Big
        rw [List.any_eq_true]
        simp only [decide_eq_true_eq]
      have HBIG := Hid.mk hbig
      have hhd := HHD.out i
      have HZK := Hid.mk hzk
      have HZT := Hid.mk hzt
      have hl1 := hzt.l1
      rw [hzc]
      clear hzt hzk hbig hzc
      obtain ⟨cb, hcb⟩ : ∃ c, couldTo d o i = c := ⟨_, rfl⟩
      rw [hcb] at HSUC ⊢
      obtain ⟨hd, hhd'⟩ : ∃ c, d.held i false false = c := ⟨_, rfl⟩
      rw [hhd'] at HSUC hhd
      clear hcb hhd'
      generalize d.zone i = z9 at *
      go_upto_region 11 with fail
      have hbz := below_alloc wr (.cells #[.int .i64 (z9.f : Int), .int .i64 (z9.e : Int), .slice zc.a1 zc.n1 zc.c1, .slice zc.a2 zc.n2 zc.c2] 55)
      have KZ := box_new wr #[.int .i64 (z9.f : Int), .int .i64 (z9.e : Int), .slice zc.a1 zc.n1 zc.c1, .slice zc.a2 zc.n2 zc.c2] 55
      have hsz5 := box_lt wr (.cells #[.int .i64 (z9.f : Int), .int .i64 (z9.e : Int), .slice zc.a1 zc.n1 zc.c1, .slice zc.a2 zc.n2 zc.c2] 55)
      have HZT5 := Hid.mk (HZT.out.below hbz)
      have HB5 := Hid.mk (Below.step HBr.out hbz)
      clear hbz c0 c1 c2 c3 hb HHr HZT HBr
      obtain ⟨we, rfl⟩ : ∃ we, we = wr := ⟨_, rfl⟩
      generalize we.alloc (.cells #[.int .i64 (z9.f : Int), .int .i64 (z9.e : Int), .slice zc.a1 zc.n1 zc.c1, .slice zc.a2 zc.n2 zc.c2] 55) = w11 at *
      obtain ⟨BZ, hBZ⟩ : ∃ BZ, we.heap.size = BZ := ⟨_, rfl⟩
      rw [hBZ] at hsz5 KZ ⊢
      clear hBZ
      obtain ⟨n1, hn1⟩ : ∃ n1, zc.n1 = n1 := ⟨_, rfl⟩
      obtain ⟨a1, ha1⟩ : ∃ a1, zc.a1 = a1 := ⟨_, rfl⟩
      rw [hn1] at hl1
      have hn256 : n1 ≤ 256 := by omega
      have HN1 := Hid.mk hn1
      have HA1 := Hid.mk ha1
      rw [hn1, ha1] at KZ
      have z2 := KZ 2
      simp only [List.getElem?_toArray, List.getElem?_cons_zero, List.getElem?_cons_succ] at z2
      clear hn1 ha1
      go_wp2_with fail
      go_loopw [24, 65] (fun s24 s65 wq => ∃ j : Nat, j ≤ n1 ∧ s65 = .int .i64 (j : Int) ∧ s24 = .int .i64 ((szB (z9.l.take j) : Nat) : Int) ∧ Hid (Below w11.heap.size w11 wq)) (fun _ s65 _ => n1 - (intOf s65).toNat)
      case atStart => exact ⟨0, Nat.zero_le _, rfl, rfl, Below.refl _ _⟩
      case round =>
        obtain ⟨j, hj, rfl, rfl, hbq⟩ := hrel
        by_cases hjl : j < n1
        · have hj2 : j < z9.l.length := by omega
          obtain ⟨bb, boff, hba, hbb, hbc⟩ := row_elem encBk_length (by decide) ((HA1.out ▸ HZT5.out.r1).below hbq.out) hj2
          obtain rfl := hba
          obtain ⟨v0, v1, v2⟩ := encBk_cells hbc
          have hfit := (HZK.out.2.fit _ (List.getElem_mem hj2)).1
          have hsum : szB (z9.l.take (j + 1)) = szB (z9.l.take j) + 2 ^ z9.l[j].o := by have := sumB_take z9.l j hj2; rw [sumB_sz, sumB_sz] at this; exact this
          have hle : szB (z9.l.take j) ≤ 256 := by
            have h9 : szB z9.l = szB (z9.l.take j) + szB (z9.l.drop j) := by rw [← szB_append, List.take_append_drop]
            omega
          have HSM := Hid.mk hsum
          clear hsum hbc
          generalize z9.l[j] = q at *
          have hsh := shl_bk hfit.1
          have hpw := pow_bk hfit.1
          have hNew := Hid.mk (Below.step hbq.out (below_alloc wr (.cells #[.int .i64 (q.a : Int), .int .i64 (q.o : Int), .int .i64 (q.t : Int)] 40)))
          obtain ⟨S, hS⟩ : ∃ S, szB (z9.l.take j) = S := ⟨_, rfl⟩
          rw [hS] at hle HSM ⊢
          clear hS
          have hjli : (j : Int) < n1 := by omega
          have hw : wrap64 ((S : Int) + wrap64 (2 ^ min q.o 64)) = ((S + 2 ^ q.o : Nat) : Int) := by
            rw [show min q.o 64 = q.o by have := hfit.1; omega, hsh]
            generalize 2 ^ q.o = p at *
            have := IntWalk.wrap64_in ((S : Int) + p) (by omega)
            rw [Int.natCast_add]
            exact this
          have e2 : ((2 ^ q.o : Nat) : Int) = (2 : Int) ^ q.o := by rw [Int.natCast_pow]; rfl
          have hw2 : wrap64 ((S : Int) + (2 : Int) ^ q.o) = ((S + 2 ^ q.o : Nat) : Int) := by
            rw [← e2, Int.natCast_add]
            clear e2 hw
            generalize 2 ^ q.o = p at *
            exact IntWalk.wrap64_in ((S : Int) + (p : Int)) (by omega)
          have HW := Hid.mk hw
          have HW2 := Hid.mk hw2
          clear hw hw2 e2
          go_wp2
          go_roundw
          case rel => exact ⟨j + 1, by omega, by go_num, by rw [HSM.out]; simp only [Value.int.injEq, true_and]; first | exact HW.out | exact HW2.out, hNew⟩
          case measure => simp [intOf]; omega
        · obtain rfl : j = n1 := by omega
          have he : z9.l.take j = z9.l := by rw [← hl1, List.take_length]
          rw [he]
          obtain ⟨wt, rfl⟩ : ∃ wt, wt = wr := ⟨_, rfl⟩
          have HBT := Hid.mk (Below.step HB5.out hbq.out)
          have KZt := box_step KZ hsz5 hbq.out
          have z2 := KZt 2
          have hKU := box_step KU9.out hsu9 HBT.out
          have u2 := hKU 2
          have u3 := hKU 3
          have o0 := (box_step K15b.out hs15b HBT.out) 0
          have hs15t := Nat.lt_of_lt_of_le hs15b HBT.out.size
          have HZr := Hid.mk ((HA1.out ▸ HZT5.out.r1).below hbq.out)
          simp only [List.getElem?_toArray, List.getElem?_cons_zero, List.getElem?_cons_succ] at z2 u2 u3 o0
          obtain ⟨N, hN⟩ : ∃ N, szB z9.l = N := ⟨_, rfl⟩
          rw [hN] at hsz2 HSUC ⊢
          have hP := pow_bk ho4
          have hsho := shl_bk ho4
          have hP2 : wrap64 ((N : Int) - wrap64 (2 ^ o)) = (N : Int) - (2 ^ o : Nat) := by
            rw [hsho]
            generalize 2 ^ o = P at hP
            exact IntWalk.wrap64_in _ (by omega)
          have hP3 : wrap64 ((N : Int) - (2 : Int) ^ o) = (N : Int) - ((2 ^ o : Nat) : Int) := by
            have e2 : ((2 ^ o : Nat) : Int) = (2 : Int) ^ o := by rw [Int.natCast_pow]; rfl
            rw [← e2]
            clear e2 hP2 hsho
            generalize 2 ^ o = P at hP
            exact IntWalk.wrap64_in _ (by omega)
          have HP3 := Hid.mk hP3
          clear hP3
          have p9' := pk_in x (m := 9) (by decide)
          have p12' := pk_in y (m := 12) (by decide)
          have hwmin := IntWalk.wrap64_in (pk y 12 + (256 - 16 * pk x 9) / 32) (by omega)
          clear KZ hsz5 KZt hKU hbq HB5 HZT5 he hN
          go_upto_if 78 with fail
          go_cut [27] (fun s27 wx => s27 = .int .i64 (hd : Int) ∧ wx = wt)
          case first =>
            by_cases hi0 : i = 0
            · subst hi0
              rw [if_pos rfl] at hhd
              go_wp2_with fail
              go_meet
              case rel => exact ⟨by rw [hhd], rfl⟩
            · have hne : ((i : Int) == 0) = false := by rw [beq_eq_false_iff_ne]; omega
              rw [if_neg hi0] at hhd
              go_wp2_with fail
              go_meet
              case rel => exact ⟨by rw [hhd, Int.add_zero], rfl⟩
          case rest =>
            obtain ⟨rfl, hwc⟩ := hcut
            subst hwc
            clear hhd
            have HEN : Hid (∀ args w, (callFunc 21 args).run Tryd.prog w = .ok (.enter 21 args) w) := enters_of Tryd.func21 (by kernel_rfl) rfl
            have hcont := containsFuncBk a1 j zc.c1 z9.l 21 #[.pointer (some ⟨O, 0, none⟩)] (fun x => decide (o ≤ x.o)) _ hl1 (by omega) HZr.out HEN.out (fun W hW x hx => greatEnoughP x o O W (HZK.out.2.fit x hx).1.1 ho4 (Nat.lt_of_lt_of_le hs15t hW.size) ((hW.cell (p := ⟨O, 0, none⟩) hs15t).trans o0))
            have HC := Hid.mk hcont
            have HB19 := HBT
            clear hcont
            cases cb with
            | true =>
              have HS1 : Hid (couldTo d o (i + 1) = true) := by unfold Hid; rw [HSUC.out]; rfl
              go_wp2_with (go_at_call 20; refine HC.out.mono ?_; rintro ev wn ⟨rfl, hbn⟩)
              have HBN := Hid.mk (Below.step HBT.out hbn)
              go_roundw
              case rel => exact ⟨i + 1, by omega, by go_num, by rw [HS1.out], HBN⟩
              case measure => simp [intOf]; omega
            | false =>
              cases hany : z9.l.any fun x => decide (o ≤ x.o) with
              | false =>
                have HS1 : Hid (couldTo d o (i + 1) = false) := by
                  unfold Hid
                  rw [HSUC.out, decide_eq_false (fun h9 => by rw [HBIG.out.1 h9.1] at hany; cases hany)]
                  rfl
                rw [hany] at HC
                go_wp2_with (go_at_call 20; refine HC.out.mono ?_; rintro ev wn ⟨rfl, hbn⟩)
                have HBN := Hid.mk (Below.step HBT.out hbn)
                go_roundw
                case rel => exact ⟨i + 1, by omega, by go_num, by rw [HS1.out], HBN⟩
                case measure => simp [intOf]; omega
              | true =>
                rw [hany] at HC
                have HS1 : Hid (couldTo d o (i + 1) = decide ((hd : Int) ≤ (N : Int) - ((2 ^ o : Nat) : Int))) := by
                  unfold Hid
                  rw [HSUC.out, Bool.false_or]
                  clear hP hsho hP2
                  generalize 2 ^ o = P
                  exact decide_eq_decide.2 ⟨fun h9 => by have := h9.2; omega, fun h9 => ⟨HBIG.out.2 hany, by omega⟩⟩
                go_wp2_with (go_at_call 20; refine HC.out.mono ?_; rintro ev wn ⟨rfl, hbn⟩; have o1 := (hbn.cell (p := ⟨O, 0, none⟩) hs15t).trans o0)
                have HBN := Hid.mk (Below.step HBT.out hbn)
                go_roundw
                case rel => exact ⟨i + 1, by omega, by go_num, by rw [HS1.out, ← HP3.out], HBN⟩
                case measure => simp [intOf]; omega
    · obtain rfl : i = 2 := by omega
      have HB9' := Hid.mk (Below.step HB9.out HBr.out)
      have o0 := (box_step K15b.out hs15b HBr.out) 0
      have v3 := (box_step K10c.out hs10c HBr.out) 3
      simp only [List.getElem?_toArray, List.getElem?_cons_zero, List.getElem?_cons_succ] at o0 v3
      have hal := HAL.out
      have hlaw := HLAW.out
      have hct2 := couldTo_two d o
      have HLLL := Hid.mk hlll
      clear hlll HAL HLAW KU9 K15b K10c
      cases hct : couldTo d o 2 with
      | true =>
        have he : e = 0 := by
          have h1 := hlaw.1 (hct2.1 hct)
          rcases hal with ⟨_, h2⟩ | ⟨h2, _⟩
          · exact h2
          · rw [h2] at h1; cases h1
        subst he
        clear hal hlaw hct2 hct
        go_wp2
        go_ret
        exact ⟨rfl, HB9'.out⟩
      | false =>
        have hno : ¬ (Could d o 0 ∨ Could d o 1) := fun h9 => by rw [hct2.2 h9] at hct; cases hct
        rcases hal with ⟨h1, rfl⟩ | ⟨h1, rfl⟩
        · obtain ⟨rfl, hls⟩ := hlaw.2 hno h1
          have hlen : 0 < hc.lc.length := by
            rw [← HLLL.out]
            exact List.length_pos_iff.2 hls
          have hleni : (0 : Int) < hc.lc.length := by omega
          clear hlaw hct2 hct h1 hno hls
          go_wp2
          go_ret
          exact ⟨rfl, HB9'.out⟩
        · clear hlaw hct2 hct h1 hno
          go_wp2
          go_ret
          exact ⟨rfl, HB9'.out⟩
end Go.Proofs.YtjljcifpcljlaaaDoor
