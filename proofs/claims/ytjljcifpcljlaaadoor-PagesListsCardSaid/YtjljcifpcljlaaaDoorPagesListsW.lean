/- Tells, LsPred, PagesListsWalk: texts of this claim, joined. -/
import Derived.Test.YtjljcifpcljlaaaDoorPM15
import Derived.Test.YtjljcifpcljlaaaDoorPM2
import Derived.OpenShut
import Derived.ProofKit
/- Contract of pagesTells. -/
namespace Go.Proofs.YtjljcifpcljlaaaDoor
open Go.RowKit
set_option linter.unusedVariables false
set_option maxHeartbeats 4000000 in
set_option maxRecDepth 100000 in
theorem pagesTells_ok (w : World) (hoth : Oth w) : Calls Tryd.prog 22 #[] w fun ev w' => ev = .returned (.bool true) ∧ Below w.heap.size w w' := by
  have HO := Hid.mk hoth
  clear hoth
  go_enter Tryd.func22, Tryd.ntmps22
  go_wp2_with fail
  refine (setup_ok 0 0 0 w (by decide) (by decide) (by decide)).mono ?_
  rintro ev w1 ⟨m1, d1, m2, d2, rfl, hbt1, hb1⟩
  have HBT := Hid.mk hbt1
  have HB1 := Hid.mk hb1
  clear hbt1 hb1
  obtain ⟨p9, hp9⟩ : ∃ p, 16 * pk 0 9 = p := ⟨_, rfl⟩
  obtain ⟨p12, hp12⟩ : ∃ p, pk 0 12 = p := ⟨_, rfl⟩
  obtain ⟨p4, hp4⟩ : ∃ p, 1 + pk 0 4 = p := ⟨_, rfl⟩
  have hcall := paged_su none 0 0 [] m1 m2 d1 d2 0 0 0 0 w1 rfl (Nat.le_refl _) (Nat.zero_le _) (Row.nil _ _) (by simp) (by omega) HBT.out (HO.out.mono HB1.out (Nat.le_refl _))
  rw [hp9, hp12, hp4] at hcall ⊢
  clear hp9 hp12 hp4
  go_wp2_with fail
  refine hcall.mono ?_
  rintro ev w5 hd5
  obtain ⟨⟨h1, hc1, aw1, ca1, away1, rfl, hh5, hrw5, _, _, hnil, _⟩, hb5⟩ := hd5
  have HB5 := Hid.mk (Below.step HB1.out hb5)
  clear hcall hh5 hrw5 hnil hb5
  unfold Hc.vals
  have hb6 := below_alloc w5 (.cells #[.slice hc1.az 2 hc1.cz, .slice hc1.am 2 hc1.cm, .int .i64 (h1.cpus : Int), .slice hc1.al hc1.lc.length hc1.cl, .slice hc1.av h1.live.length hc1.cv] 34)
  have HB6 := Hid.mk (Below.step HB5.out hb6)
  clear hb6
  go_wp2
  go_ret
  exact ⟨rfl, HB6.out⟩
end Go.Proofs.YtjljcifpcljlaaaDoor
/- Contract of the predicate of PagesLists: is a page in a block? -/
namespace Go.Proofs.YtjljcifpcljlaaaDoor
open Go.RowKit
set_option linter.unusedVariables false

theorem inBlkL (x : Bk) (p B : Nat) (W : World) (hx : x.o ≤ 4) (hxa : x.a ≤ 1000) (hp : p ≤ 1000) (hB : B < W.heap.size) (hc : W.cell? ⟨B, 0, none⟩ = some (.int .i64 p)) :
    Calls Tryd.prog 25 (#[.agg (encBk x).toArray] ++ #[.pointer (some ⟨B, 0, none⟩)]) W fun ev w' => ev = .returned (.bool (decide (x.a ≤ p ∧ p < x.fin))) ∧ Below W.heap.size W w' := by
  show Calls Tryd.prog 25 #[.agg #[.int .i64 x.a, .int .i64 x.o, .int .i64 x.t], .pointer (some ⟨B, 0, none⟩)] W _
  have hb0 := below_alloc W (.cells #[.int .i64 (x.a : Int), .int .i64 (x.o : Int), .int .i64 (x.t : Int)] 40)
  have K := box_new W #[.int .i64 (x.a : Int), .int .i64 (x.o : Int), .int .i64 (x.t : Int)] 40
  have hs : W.heap.size < (W.alloc (.cells #[.int .i64 (x.a : Int), .int .i64 (x.o : Int), .int .i64 (x.t : Int)] 40)).heap.size := by simp
  have g0 := (hb0.cell (p := ⟨B, 0, none⟩) hB).trans hc
  have hB2 := Nat.lt_trans hB hs
  have k0 := K 0
  have k1 := K 1
  have k2 := K 2
  simp only [List.getElem?_toArray, List.getElem?_cons_zero, List.getElem?_cons_succ] at k0 k1 k2
  have hsh := shl_bk hx
  have hpw := pow_bk hx
  have hw : wrap64 ((x.a : Int) + 2 ^ x.o) = ((x.fin : Nat) : Int) := by
    have e : ((2 : Int) ^ x.o) = ((2 ^ x.o : Nat) : Int) := by push_cast; rfl
    unfold Bk.fin
    rw [e, IntWalk.wrap64_in _ (by omega)]
    omega
  have HW := Hid.mk hw
  clear hw
  clear hc K
  go_enter Tryd.func25, Tryd.ntmps25
  go_wp2_with fail
  generalize W.alloc (.cells #[.int .i64 (x.a : Int), .int .i64 (x.o : Int), .int .i64 (x.t : Int)] 40) = w0 at *
  by_cases h1 : x.a ≤ p
  · have d1 : (x.a : Int) ≤ p := by omega
    go_quiet (fail)
    go_wp2
    go_ret
    refine ⟨ret_bool ?_, below_drewN hb0 _⟩
    rw [HW.out]
    by_cases h2 : p < x.fin
    · rw [decide_eq_true (show (p : Int) < x.fin by omega), decide_eq_true (And.intro h1 h2)]
    · rw [decide_eq_false (show ¬ (p : Int) < x.fin by omega), decide_eq_false (fun h : x.a ≤ p ∧ p < x.fin => h2 h.2)]
  · have d1 : decide ((x.a : Int) ≤ p) = false := decide_eq_false (by omega)
    go_quiet (fail)
    go_wp2
    go_ret
    exact ⟨ret_bool (by symm; exact decide_eq_false (fun h => h1 h.1)), below_drewN hb0 _⟩
end Go.Proofs.YtjljcifpcljlaaaDoor
/- The walk of paddockkeep.PagesLists. -/
namespace Go.Proofs.YtjljcifpcljlaaaDoor
open Go.RowKit Go.WideShapes Go.ChangeShapes
set_option linter.unusedVariables false

theorem suH_split (a b c : Int) : (suH a b c).z0.e = (16 * pk a 9).toNat ∧ (suH a b c).cpus = (1 + pk c 4).toNat := by
  obtain ⟨split, least, cpus, e1, e2, e3, h1, h2, h3, h4⟩ := su_nums a b c
  have hi := newInv_take (suB_free a b c) h1 h2 _ (Nat.le_refl _)
  rw [List.take_length] at hi
  refine ⟨?_, rfl⟩
  unfold suH
  rw [show (16 * pk a 9).toNat = split by omega]
  exact hi.e0
theorem ls_not_away {h0 h : Hp} {away : List Bk} (hp : PInv h0 h away) {x : Ls} (hx : x ∈ h.ls) {p : Nat} (hpx : p ∈ x.p) : (away.any fun b => decide (b.a ≤ p ∧ p < b.fin)) = false := by
  rw [Bool.eq_false_iff]
  intro h1
  obtain ⟨b, hb, h2⟩ := List.any_eq_true.1 h1
  have h2 := of_decide_eq_true h2
  have hkm : keyB b ∈ h.live.map keyB := hp.lv.mem_iff.1 (List.mem_map_of_mem hb)
  obtain ⟨b9, hb9, e9⟩ := List.mem_map.1 hkm
  simp only [keyB, Prod.mk.injEq] at e9
  have c1 : 0 < cnt h.live p := cnt_pos.2 ⟨b9, hb9, by unfold Bk.fin at h2; unfold inB; rw [e9.1, e9.2]; exact h2⟩
  have c2 : 0 < cnt (lsB h.ls) p := by
    refine cnt_pos.2 ⟨⟨p, 0, 0⟩, ?_, ⟨Nat.le_refl _, by simp only [Nat.pow_zero]; omega⟩⟩
    have key : ∀ ls : List Ls, x ∈ ls → (⟨p, 0, 0⟩ : Bk) ∈ lsB ls := by
      intro ls
      induction ls with
      | nil => intro h; simp at h
      | cons l ls ih =>
        intro h
        rw [lsB]
        rcases List.mem_cons.1 h with rfl | h
        · exact List.mem_append_left _ (List.mem_map_of_mem (f := fun p => (⟨p, 0, 0⟩ : Bk)) hpx)
        · exact List.mem_append_right _ (ih h)
    exact key _ hx
  have c3 := hp.ok.one p
  rw [cnt_all] at c3
  omega

set_option maxHeartbeats 8000000 in
set_option maxRecDepth 100000 in
theorem pagesLists_walk (a : Option Addr) (n c : Nat) (l : List Rw) (hl : l.length = n) {w : World} (hr : Row w a (flat encRw l)) (hnc : n ≤ c) (hcm : c ≤ maxLen) (hwf : ∀ r ∈ l, r.wf) (x : Int) (hx : (Lit.int .i64 x).wf = true) (y : Int) (hy : (Lit.int .i64 y).wf = true) (z : Int) (hz : (Lit.int .i64 z).wf = true) (hoth : Oth w) :
    Calls Tryd.prog 7 #[.slice a n c, .int .i64 x, .int .i64 y, .int .i64 z] w fun ev w' => ev = .returned (.bool true) ∧ Below w.heap.size w w' := by
  have hbx := bounds_i64 hx
  have hby := bounds_i64 hy
  have hbz := bounds_i64 hz
  have HR1 := Hid.mk hr
  have HO := Hid.mk hoth
  clear hr hoth
  go_enter Tryd.func7, Tryd.ntmps7
  go_wp2_with fail
  refine (pagesTells_ok w HO.out).mono ?_
  rintro ev w0 ⟨rfl, hb0⟩
  go_wp2_with fail
  refine (setup_ok x y z w0 hbx hby hbz).mono ?_
  rintro ev w1 ⟨m1, d1, m2, d2, rfl, hbt1, hb1⟩
  have hb1 := Below.step hb0 hb1
  go_upto_region 4 with fail
  have hb2 := below_alloc w1 (.cells #[.slice m1 2 d1, .slice m2 2 d2, .int .i64 (16 * pk x 9), .int .i64 (pk y 12), .int .i64 (1 + pk z 4)] 27)
  have KU := box_new w1 #[.slice m1 2 d1, .slice m2 2 d2, .int .i64 (16 * pk x 9), .int .i64 (pk y 12), .int .i64 (1 + pk z 4)] 27
  have hsu : w1.heap.size < (w1.alloc (.cells #[.slice m1 2 d1, .slice m2 2 d2, .int .i64 (16 * pk x 9), .int .i64 (pk y 12), .int .i64 (1 + pk z 4)] 27)).heap.size := by simp
  have HBT := Hid.mk (hbt1.below hb2)
  have HB2 := Hid.mk (Below.step hb1 hb2)
  have u0 := KU 0
  have u1 := KU 1
  have u2 := KU 2
  have u3 := KU 3
  have u4 := KU 4
  simp only [List.getElem?_toArray, List.getElem?_cons_zero, List.getElem?_cons_succ] at u0 u1 u2 u3 u4
  clear hbt1 hb1 hb2
  generalize w1.alloc (.cells #[.slice m1 2 d1, .slice m2 2 d2, .int .i64 (16 * pk x 9), .int .i64 (pk y 12), .int .i64 (1 + pk z 4)] 27) = w2 at *
  obtain ⟨U, hU⟩ : ∃ U, w1.heap.size = U := ⟨_, rfl⟩
  rw [hU] at KU hsu u0 u1 u2 u3 u4 ⊢
  clear hU
  go_wp2_with fail
  refine (paged_su a n c l m1 m2 d1 d2 x y z 70 w2 hl hnc hcm (HR1.out.below HB2.out) hwf (by omega) HBT.out (HO.out.mono HB2.out (Nat.le_refl _))).mono ?_
  rintro ev w3 hd3
  obtain ⟨⟨h, hc, aw, ca, away, rfl, hh3, hrw3, hpi, hlen, _, _⟩, hb3⟩ := hd3
  have HPI := Hid.mk hpi
  have HL70 := Hid.mk hlen
  have HB3 := Hid.mk (Below.step HB2.out hb3)
  have KU3 := box_step KU hsu hb3
  have hsu3 : U < w3.heap.size := Nat.lt_of_lt_of_le hsu hb3.size
  have HH3 := Hid.mk hh3
  have HRW3 := Hid.mk hrw3
  have HBT3 := Hid.mk (HBT.out.below hb3)
  clear u0 u1 u2 u3 u4 KU hsu hpi hlen hh3 hrw3 hb3 HB2 HBT
  unfold Hc.vals
  go_upto_region 5 with fail
  have hb4 := below_alloc w3 (.cells #[.slice hc.az 2 hc.cz, .slice hc.am 2 hc.cm, .int .i64 (h.cpus : Int), .slice hc.al hc.lc.length hc.cl, .slice hc.av h.live.length hc.cv] 34)
  have K10 := box_new w3 #[.slice hc.az 2 hc.cz, .slice hc.am 2 hc.cm, .int .i64 (h.cpus : Int), .slice hc.al hc.lc.length hc.cl, .slice hc.av h.live.length hc.cv] 34
  have hs10 := box_lt w3 (.cells #[.slice hc.az 2 hc.cz, .slice hc.am 2 hc.cm, .int .i64 (h.cpus : Int), .slice hc.al hc.lc.length hc.cl, .slice hc.av h.live.length hc.cv] 34)
  have KU4 := box_step KU3 hsu3 hb4
  have hsu4 := Nat.lt_of_lt_of_le hsu3 hb4.size
  have HH4 := Hid.mk (HH3.out.below hb4)
  have HRW4 := Hid.mk (HRW3.out.below hb4)
  have HBT4 := Hid.mk (HBT3.out.below hb4)
  have HB4 := Hid.mk (Below.step HB3.out hb4)
  clear hb4 KU3 hsu3 HH3 HRW3 HBT3 HB3
  generalize w3.alloc (.cells #[.slice hc.az 2 hc.cz, .slice hc.am 2 hc.cm, .int .i64 (h.cpus : Int), .slice hc.al hc.lc.length hc.cl, .slice hc.av h.live.length hc.cv] 34) = w4 at *
  obtain ⟨B10, hB10⟩ : ∃ B, w3.heap.size = B := ⟨_, rfl⟩
  rw [hB10] at K10 hs10 ⊢
  clear hB10
  have v3 := K10 3
  simp only [List.getElem?_toArray, List.getElem?_cons_zero, List.getElem?_cons_succ] at v3
  have HSP := suH_split x y z
  have pz9 := pk_in x (m := 9) (by decide)
  have pz4 := pk_in z (m := 4) (by decide)
  have HCPU : Hid ((h.cpus : Int) = 1 + pk z 4) := by unfold Hid; rw [HPI.out.same.cpus, HSP.2]; omega
  have HSPL : Hid ((h.z0.e : Int) = 16 * pk x 9) := by unfold Hid; rw [HPI.out.same.split, HSP.1]; omega
  clear HSP
  go_wp2_with fail
  go_loopw [33] (fun s33 wr => ∃ i : Nat, i ≤ hc.lc.length ∧ s33 = .int .i64 (i : Int) ∧ Hid (Below w4.heap.size w4 wr)) (fun s33 _ => hc.lc.length - (intOf s33).toNat)
  case atStart => exact ⟨0, Nat.zero_le _, rfl, Below.refl _ _⟩
  case round =>
    obtain ⟨i, hi, rfl, hbr⟩ := hrel
    have hl24 : hc.lc.length ≤ 24 := by
      have h1 := congrArg List.length HH4.out.ll
      rw [List.length_map] at h1
      rw [h1]
      exact HPI.out.ok.ls_len
    by_cases hlt : i < hc.lc.length
    · have hlti : (i : Int) < hc.lc.length := by omega
      have HHr := Hid.mk (HH4.out.below hbr.out)
      have KUr := box_step KU4 hsu4 hbr.out
      have hsur := Nat.lt_of_lt_of_le hsu4 hbr.out.size
      have hi3 : i < h.ls.length := by rw [← HH4.out.ll, List.length_map]; exact hlt
      obtain ⟨bb, boff, hba, hbb, hbc⟩ := row_elem encLc_length (by decide) HHr.out.lr hlt
      have hel : hc.lc[i].l = h.ls[i] := by
        have h1 := congrArg (·[i]?) HHr.out.ll
        simp [hlt, hi3] at h1
        exact h1
      obtain ⟨c0, c1, c2, c3⟩ := encLc_cells hbc
      obtain ⟨hpn, hpr⟩ := HHr.out.pr _ (List.getElem_mem hlt)
      have hok := HPI.out.ok.lr _ (List.getElem_mem hi3)
      have hna := fun p hp => ls_not_away HPI.out (List.getElem_mem hi3) (p := p) hp
      rw [hel] at c0 c1 c2 hpn hpr
      rw [hba] at v3 ⊢
      have HBA := Hid.mk hba
      clear hbc hel hba
      obtain ⟨X, hX⟩ : ∃ X, h.ls[i] = X := ⟨_, rfl⟩
      rw [hX] at c0 c1 c2 hpn hpr hok hna
      generalize hc.lc[i] = r at *
      clear hX
      have HOK := Hid.mk hok
      have HNA := Hid.mk hna
      have HPR := Hid.mk hpr
      obtain ⟨k1, k2, k3, k4, k5, _⟩ := hok
      clear hna hpr
      go_upto_region 8 with fail
      have hbL := below_alloc wr (.cells #[.int .i64 (X.c : Int), .int .i64 (X.z : Int), .int .i64 (X.t : Int), .slice r.a r.n r.c] 66)
      have KL := box_new wr #[.int .i64 (X.c : Int), .int .i64 (X.z : Int), .int .i64 (X.t : Int), .slice r.a r.n r.c] 66
      have hsL := box_lt wr (.cells #[.int .i64 (X.c : Int), .int .i64 (X.z : Int), .int .i64 (X.t : Int), .slice r.a r.n r.c] 66)
      have KU5 := box_step KUr hsur hbL
      have hsu5 := Nat.lt_of_lt_of_le hsur hbL.size
      have HPR5 := Hid.mk (HPR.out.below hbL)
      have HRW5 := Hid.mk ((HRW4.out.below hbr.out).below hbL)
      have HB5 := Hid.mk (Below.step hbr.out hbL)
      clear KUr hsur hbL HHr c0 c1 c2 c3 hbb HPR v3 hbr
      obtain ⟨we, rfl⟩ : ∃ we, we = wr := ⟨_, rfl⟩
      generalize we.alloc (.cells #[.int .i64 (X.c : Int), .int .i64 (X.z : Int), .int .i64 (X.t : Int), .slice r.a r.n r.c] 66) = w5 at *
      obtain ⟨BL, hBL⟩ : ∃ B, we.heap.size = B := ⟨_, rfl⟩
      rw [hBL] at KL hsL ⊢
      clear hBL
      have l0 := KL 0
      have l3 := KL 3
      have u4 := KU5 4
      simp only [List.getElem?_toArray, List.getElem?_cons_zero, List.getElem?_cons_succ] at l0 l3 u4
      have q1 : ((r.n : Int) == 0) = false := by rw [beq_eq_false_iff_ne]; omega
      have q2 : decide ((8 : Int) < r.n) = false := decide_eq_false (by omega)
      have q3 : decide (8 < r.n) = false := decide_eq_false (by omega)
      have q4 : decide (1 + pk z 4 ≤ (X.c : Int)) = false := decide_eq_false (by have := HCPU.out; omega)
      go_upto_region 10 with fail
      clear q1 q2 q3 q4 u4 l0
      go_wp2_with fail
      clear l3
      go_loopw [57] (fun s57 wq => ∃ j : Nat, j ≤ r.n ∧ s57 = .int .i64 (j : Int) ∧ Hid (Below w5.heap.size w5 wq)) (fun s57 _ => r.n - (intOf s57).toNat)
      case atStart => exact ⟨0, Nat.zero_le _, rfl, Below.refl _ _⟩
      case round =>
        obtain ⟨j, hj, rfl, hbq⟩ := hrel
        by_cases hjl : j < r.n
        · have hjli : (j : Int) < r.n := by omega
          have hj2 : j < X.p.length := by omega
          have KUq := box_step KU5 hsu5 hbq.out
          have KLq := box_step KL hsL hbq.out
          have hsuq := Nat.lt_of_lt_of_le hsu5 hbq.out.size
          have hsLq := Nat.lt_of_lt_of_le hsL hbq.out.size
          obtain ⟨pb, po, hpa, hpb, hpc⟩ := row_elem encT_length (by decide) (HPR5.out.below hbq.out) hj2
          have hp0 := encT_cells hpc
          rw [Nat.mul_one] at hp0
          have hpm : X.p[j] ∈ X.p := List.getElem_mem hj2
          have hp256 := HOK.out.2.2.2.2.2 _ hpm
          have hno := HNA.out _ hpm
          rw [hpa]
          obtain ⟨P, hP⟩ : ∃ P, X.p[j] = P := ⟨_, rfl⟩
          rw [hP] at hp0 hp256 hno
          clear hpc hP hpm
          go_upto_region 13 with fail
          have hbP := below_alloc wr (.cells #[.int .i64 (P : Int)] 3)
          have KP := box_new wr #[.int .i64 (P : Int)] 3
          have hsP := box_lt wr (.cells #[.int .i64 (P : Int)] 3)
          have KU6 := box_step KUq hsuq hbP
          have KL6 := box_step KLq hsLq hbP
          have hsu6 := Nat.lt_of_lt_of_le hsuq hbP.size
          have hsL6 := Nat.lt_of_lt_of_le hsLq hbP.size
          have HRW6 := Hid.mk ((HRW5.out.below hbq.out).below hbP)
          have HB6 := Hid.mk (Below.step hbq.out hbP)
          clear KUq KLq hsuq hsLq hbP hp0 hpb hbq
          obtain ⟨wf, rfl⟩ : ∃ wf, wf = wr := ⟨_, rfl⟩
          generalize wf.alloc (.cells #[.int .i64 (P : Int)] 3) = w6 at *
          obtain ⟨BP, hBP⟩ : ∃ B, wf.heap.size = B := ⟨_, rfl⟩
          rw [hBP] at KP hsP ⊢
          clear hBP
          have g0 := KP 0
          have l1 := KL6 1
          have u2 := KU6 2
          simp only [List.getElem?_toArray, List.getElem?_cons_zero, List.getElem?_cons_succ] at g0 l1 u2
          have eg : ∀ args w, (callFunc 25 args).run Tryd.prog w = .ok (.enter 25 args) w := enters_of Tryd.func25 (by kernel_rfl) rfl
          have hfit : ∀ b ∈ away, b.o ≤ 4 ∧ b.a ≤ 1000 := fun b hb => by
            have hkm : keyB b ∈ h.live.map keyB := HPI.out.lv.mem_iff.1 (List.mem_map_of_mem hb)
            obtain ⟨b9, hb9, e9⟩ := List.mem_map.1 hkm
            simp only [keyB, Prod.mk.injEq] at e9
            have := (HPI.out.ok.lv b9 hb9).1
            exact ⟨by have := this.1; omega, by have := this.2.2.1; omega⟩
          have hcont := containsFuncBk aw away.length ca away 25 #[.pointer (some ⟨BP, 0, none⟩)] (fun b => decide (b.a ≤ P ∧ P < b.fin)) w6 rfl (by have := HL70.out; omega) HRW6.out eg (fun W hW b hb => inBlkL b P BP W (hfit b hb).1 (hfit b hb).2 (by omega) (Nat.lt_of_lt_of_le hsP hW.size) ((hW.cell (p := ⟨BP, 0, none⟩) hsP).trans g0))
          rw [hno] at hcont
          have HC := Hid.mk hcont
          have hz0 : decide ((P : Int) < 16 * pk x 9) = ((X.z : Int) == 0) := by
            have h1 := hp256.2
            have h2 := HSPL.out
            by_cases h3 : X.z = 0
            · rw [decide_eq_true (by have := h1.2 h3; omega), h3]; rfl
            · rw [decide_eq_false (fun h4 => h3 (h1.1 (by omega))), eq_comm, beq_eq_false_iff_ne]; omega
          have HZ0 := Hid.mk hz0
          clear hcont eg hno hfit hz0 KU6 KL6 KP
          cases hzz : ((X.z : Int) == 0) with
          | true =>
            have hzd : decide ((P : Int) < 16 * pk x 9) = true := by rw [HZ0.out]; exact hzz
            go_wp2_with (go_at_call 20; refine HC.out.mono ?_; rintro ev w7 ⟨rfl, hb7⟩)
            have HB7 := Hid.mk (Below.step HB6.out hb7)
            go_roundw
            case rel => exact ⟨j + 1, by omega, by go_num, HB7⟩
            case measure => simp [intOf]; omega
          | false =>
            have hzd : decide ((P : Int) < 16 * pk x 9) = false := by rw [HZ0.out]; exact hzz
            go_wp2_with (go_at_call 20; refine HC.out.mono ?_; rintro ev w7 ⟨rfl, hb7⟩)
            have HB7 := Hid.mk (Below.step HB6.out hb7)
            go_roundw
            case rel => exact ⟨j + 1, by omega, by go_num, HB7⟩
            case measure => simp [intOf]; omega
        · obtain rfl : j = r.n := by omega
          have HB9 := Hid.mk (Below.step HB5.out hbq.out)
          go_wp2
          go_roundw
          case rel => exact ⟨i + 1, by omega, by go_num, HB9⟩
          case measure => simp [intOf]; omega
    · obtain rfl : i = hc.lc.length := by omega
      have HB9 := Hid.mk (Below.step HB4.out hbr.out)
      go_wp2
      go_ret
      exact ⟨rfl, HB9.out⟩
end Go.Proofs.YtjljcifpcljlaaaDoor
