/- PagesGoodWalk: texts of this claim, joined. -/
import Derived.Test.YtjljcifpcljlaaaDoorPM15
import Derived.Test.YtjljcifpcljlaaaDoorPM4
import Derived.OpenShut
import Derived.ProofKit
/- The walk of paddockkeep.PagesGood. -/
namespace Go.Proofs.YtjljcifpcljlaaaDoor
open Go.RowKit Go.WideShapes Go.ChangeShapes
set_option linter.unusedVariables false

set_option maxHeartbeats 8000000 in
set_option maxRecDepth 100000 in
theorem pagesGood_walk (a : Option Addr) (n c : Nat) (l : List Rw) (hl : l.length = n) {w : World} (hr : Row w a (flat encRw l)) (hnc : n ≤ c) (hcm : c ≤ maxLen) (hwf : ∀ r ∈ l, r.wf) (x : Int) (hx : (Lit.int .i64 x).wf = true) (y : Int) (hy : (Lit.int .i64 y).wf = true) (z : Int) (hz : (Lit.int .i64 z).wf = true) (hoth : Oth w) :
    Calls Tryd.prog 3 #[.slice a n c, .int .i64 x, .int .i64 y, .int .i64 z] w fun ev w' => ev = .returned (.bool true) ∧ Below w.heap.size w w' := by
  have hbx := bounds_i64 hx
  have hby := bounds_i64 hy
  have hbz := bounds_i64 hz
  have HR1 := Hid.mk hr
  have HO := Hid.mk hoth
  obtain ⟨HK0, _⟩ := suH_ok x y z
  have HK0 := Hid.mk HK0
  clear hr hoth
  go_enter Tryd.func3, Tryd.ntmps3
  go_wp2_with fail
  refine (setup_ok x y z w hbx hby hbz).mono ?_
  rintro ev w1 ⟨m1, d1, m2, d2, rfl, hbt1, hb1⟩
  go_upto_region 2 with fail
  have hb2 := below_alloc w1 (.cells #[.slice m1 2 d1, .slice m2 2 d2, .int .i64 (16 * pk x 9), .int .i64 (pk y 12), .int .i64 (1 + pk z 4)] 27)
  have KU := box_new w1 #[.slice m1 2 d1, .slice m2 2 d2, .int .i64 (16 * pk x 9), .int .i64 (pk y 12), .int .i64 (1 + pk z 4)] 27
  have hsu : w1.heap.size < (w1.alloc (.cells #[.slice m1 2 d1, .slice m2 2 d2, .int .i64 (16 * pk x 9), .int .i64 (pk y 12), .int .i64 (1 + pk z 4)] 27)).heap.size := by simp
  have HBT := Hid.mk (hbt1.below hb2)
  have HB2 := Hid.mk (Below.step hb1 hb2)
  have u0 := KU 0
  have u1 := KU 1
  have u2 := KU 2
  have u3 := KU 3
  have u4 := KU 4
  simp only [List.getElem?_toArray, List.getElem?_cons_zero, List.getElem?_cons_succ] at u0 u1 u2 u3 u4
  clear hbt1 hb1 hb2
  generalize w1.alloc (.cells #[.slice m1 2 d1, .slice m2 2 d2, .int .i64 (16 * pk x 9), .int .i64 (pk y 12), .int .i64 (1 + pk z 4)] 27) = w2 at *
  obtain ⟨U, hU⟩ : ∃ U, w1.heap.size = U := ⟨_, rfl⟩
  rw [hU] at KU hsu u0 u1 u2 u3 u4 ⊢
  clear hU
  go_wp2_with fail
  refine (paged_su a n c l m1 m2 d1 d2 x y z 70 w2 hl hnc hcm (HR1.out.below HB2.out) hwf (by omega) HBT.out (HO.out.mono HB2.out (Nat.le_refl _))).mono ?_
  rintro ev w3 hd3
  obtain ⟨⟨h, hc, aw, ca, away, rfl, hh3, hrw3, hpi, hlen, _, _⟩, hb3⟩ := hd3
  have HPI := Hid.mk hpi
  have HL70 := Hid.mk hlen
  have HB3 := Hid.mk (Below.step HB2.out hb3)
  have KU3 := box_step KU hsu hb3
  have hsu3 : U < w3.heap.size := Nat.lt_of_lt_of_le hsu hb3.size
  have HH3 := Hid.mk hh3
  have HRW3 := Hid.mk hrw3
  have HBT3 := Hid.mk (HBT.out.below hb3)
  clear u0 u1 u2 u3 u4 KU hsu hpi hlen hh3 hrw3 hb3 HB2 HBT
  unfold Hc.vals
  go_upto_region 3 with fail
  have hb4 := below_alloc w3 (.cells #[.slice hc.az 2 hc.cz, .slice hc.am 2 hc.cm, .int .i64 (h.cpus : Int), .slice hc.al hc.lc.length hc.cl, .slice hc.av h.live.length hc.cv] 34)
  have K10 := box_new w3 #[.slice hc.az 2 hc.cz, .slice hc.am 2 hc.cm, .int .i64 (h.cpus : Int), .slice hc.al hc.lc.length hc.cl, .slice hc.av h.live.length hc.cv] 34
  have hs10 := box_lt w3 (.cells #[.slice hc.az 2 hc.cz, .slice hc.am 2 hc.cm, .int .i64 (h.cpus : Int), .slice hc.al hc.lc.length hc.cl, .slice hc.av h.live.length hc.cv] 34)
  have KU4 := box_step KU3 hsu3 hb4
  have hsu4 := Nat.lt_of_lt_of_le hsu3 hb4.size
  have HH4 := Hid.mk (HH3.out.below hb4)
  have HRW4 := Hid.mk (HRW3.out.below hb4)
  have HBT4 := Hid.mk (HBT3.out.below hb4)
  have HB4 := Hid.mk (Below.step HB3.out hb4)
  clear hb4 KU3 hsu3 HH3 HRW3 HBT3 HB3
  generalize w3.alloc (.cells #[.slice hc.az 2 hc.cz, .slice hc.am 2 hc.cm, .int .i64 (h.cpus : Int), .slice hc.al hc.lc.length hc.cl, .slice hc.av h.live.length hc.cv] 34) = w4 at *
  obtain ⟨B10, hB10⟩ : ∃ B, w3.heap.size = B := ⟨_, rfl⟩
  rw [hB10] at K10 hs10 ⊢
  clear hB10
  have u0 := KU4 0
  have u1 := KU4 1
  have u2 := KU4 2
  have u3 := KU4 3
  have u4 := KU4 4
  simp only [List.getElem?_toArray, List.getElem?_cons_zero, List.getElem?_cons_succ] at u0 u1 u2 u3 u4
  go_wp2_with fail
  refine (paged_su none 0 0 [] m1 m2 d1 d2 x y z 0 w4 rfl (Nat.le_refl _) (Nat.zero_le _) (Row.nil _ _) (by simp) (by omega) HBT4.out (HO.out.mono HB4.out (Nat.le_refl _))).mono ?_
  rintro ev w5 hd5
  obtain ⟨⟨h1, hc1, aw1, ca1, away1, rfl, hh5, hrw5, _, _, hnil, _⟩, hb5⟩ := hd5
  obtain ⟨rfl, rfl⟩ := hnil rfl
  have K10a := box_step K10 hs10 hb5
  have hs10a := Nat.lt_of_lt_of_le hs10 hb5.size
  have HH5 := Hid.mk (HH4.out.below hb5)
  have HRW5 := Hid.mk (HRW4.out.below hb5)
  have HB5 := Hid.mk (Below.step HB4.out hb5)
  have HF5 := Hid.mk hh5
  clear u0 u1 u2 u3 u4 KU4 hsu4 K10 hs10 HH4 HRW4 HBT4 HB4 hb5 hh5 hrw5 hnil
  unfold Hc.vals
  obtain ⟨h0, hh0⟩ : ∃ h0, suH x y z = h0 := ⟨_, rfl⟩
  have H0L : Hid (h0.ls = [] ∧ h0.live = []) := by rw [← hh0]; exact ⟨rfl, rfl⟩
  rw [hh0] at HF5 HPI HK0 ⊢
  clear hh0
  go_upto_region 4 with fail
  have hb6 := below_alloc w5 (.cells #[.slice hc1.az 2 hc1.cz, .slice hc1.am 2 hc1.cm, .int .i64 (h0.cpus : Int), .slice hc1.al hc1.lc.length hc1.cl, .slice hc1.av h0.live.length hc1.cv] 34)
  have K13 := box_new w5 #[.slice hc1.az 2 hc1.cz, .slice hc1.am 2 hc1.cm, .int .i64 (h0.cpus : Int), .slice hc1.al hc1.lc.length hc1.cl, .slice hc1.av h0.live.length hc1.cv] 34
  have hs13 := box_lt w5 (.cells #[.slice hc1.az 2 hc1.cz, .slice hc1.am 2 hc1.cm, .int .i64 (h0.cpus : Int), .slice hc1.al hc1.lc.length hc1.cl, .slice hc1.av h0.live.length hc1.cv] 34)
  have K10b := box_step K10a hs10a hb6
  have hs10b := Nat.lt_of_lt_of_le hs10a hb6.size
  have HH6 := Hid.mk (HH5.out.below hb6)
  have HRW6 := Hid.mk (HRW5.out.below hb6)
  have HF6 := Hid.mk (HF5.out.below hb6)
  have HB6 := Hid.mk (Below.step HB5.out hb6)
  clear hb6 K10a hs10a HH5 HRW5 HF5 HB5
  generalize w5.alloc (.cells #[.slice hc1.az 2 hc1.cz, .slice hc1.am 2 hc1.cm, .int .i64 (h0.cpus : Int), .slice hc1.al hc1.lc.length hc1.cl, .slice hc1.av h0.live.length hc1.cv] 34) = w6 at *
  obtain ⟨B13, hB13⟩ : ∃ B, w5.heap.size = B := ⟨_, rfl⟩
  rw [hB13] at K13 hs13 ⊢
  clear hB13
  have v0 := K13 0
  have v1 := K13 1
  have v2 := K13 2
  have v3 := K13 3
  have v4 := K13 4
  simp only [List.getElem?_toArray, List.getElem?_cons_zero, List.getElem?_cons_succ] at v0 v1 v2 v3 v4
  go_wp2_with fail
  refine (free_pg _ _ _ _ _ _ _ _ _ _ _ _ _ h0 w6 HF6.out HK0.out).mono ?_
  rintro ev w7 ⟨rfl, hb7⟩
  have K10c := box_step K10b hs10b hb7
  have hs10c := Nat.lt_of_lt_of_le hs10b hb7.size
  have HH7 := Hid.mk (HH6.out.below hb7)
  have HRW7 := Hid.mk (HRW6.out.below hb7)
  have HB7 := Hid.mk (Below.step HB6.out hb7)
  clear v0 v1 v2 v3 v4 K13 hs13 K10b hs10b HH6 HRW6 HF6 HB6 hb7
  have v0 := K10c 0
  have v1 := K10c 1
  have v2 := K10c 2
  have v3 := K10c 3
  have v4 := K10c 4
  simp only [List.getElem?_toArray, List.getElem?_cons_zero, List.getElem?_cons_succ] at v0 v1 v2 v3 v4
  go_wp2_with fail
  refine (free_pg _ _ _ _ _ _ _ _ _ _ _ _ _ h w7 HH7.out HPI.out.ok).mono ?_
  rintro ev w8 ⟨rfl, hb8⟩
  have K10d := Hid.mk (box_step K10c hs10c hb8)
  have hs10d := Nat.lt_of_lt_of_le hs10c hb8.size
  have HH8 := Hid.mk (HH7.out.below hb8)
  have HRW8 := Hid.mk (HRW7.out.below hb8)
  have HB8 := Hid.mk (Below.step HB7.out hb8)
  have HTOT := Hid.mk (HPI.out.total HK0.out H0L.out.1 H0L.out.2)
  clear v0 v1 v2 v3 v4 K10c hs10c HH7 HRW7 HB7 hb8
  go_wp2_with fail
  obtain ⟨N0, hN0⟩ : ∃ N0, h.zsum 2 = N0 := ⟨_, rfl⟩
  have HN0 := Hid.mk hN0
  have hz2 : h.zsum 2 ≤ 512 := by
    have e1 := szB_le (HPI.out.ok.zone 0)
    have e2 := szB_le (HPI.out.ok.zone 1)
    show 0 + szB (h.zone 0).l + szB (h.zone 1).l ≤ 512
    omega
  have hsa : szB away ≤ 512 := by have e1 := szB_le (HK0.out.zone 0); have e2 := szB_le (HK0.out.zone 1); have e3 := HTOT.out; have e4 : h0.zsum 2 = 0 + szB (h0.zone 0).l + szB (h0.zone 1).l := rfl; omega
  have hls : lenS h.ls ≤ 512 := by have e1 := szB_le (HK0.out.zone 0); have e2 := szB_le (HK0.out.zone 1); have e3 := HTOT.out; have e4 : h0.zsum 2 = 0 + szB (h0.zone 0).l + szB (h0.zone 1).l := rfl; omega
  rw [hN0] at hz2 ⊢
  clear hN0
  go_loopw [18, 51] (fun s18 s51 wr => ∃ i : Nat, i ≤ away.length ∧ s51 = .int .i64 (i : Int) ∧ s18 = .int .i64 ((N0 + szB (away.take i) : Nat) : Int) ∧ Hid (Below w8.heap.size w8 wr)) (fun _ s51 _ => away.length - (intOf s51).toNat)
  case atStart => exact ⟨0, Nat.zero_le _, rfl, rfl, Below.refl _ _⟩
  case round =>
    obtain ⟨i, hi, rfl, rfl, hbr⟩ := hrel
    have hl70 := HL70.out
    by_cases hlt : i < away.length
    · have hlti : (i : Int) < away.length := by omega
      obtain ⟨bb, boff, hba, hbb, hbc⟩ := row_elem encBk_length (by decide) (HRW8.out.below hbr.out) hlt
      obtain rfl := hba
      obtain ⟨v0, v1, v2⟩ := encBk_cells hbc
      have hkm : keyB away[i] ∈ h.live.map keyB := HPI.out.lv.mem_iff.1 (List.mem_map_of_mem (List.getElem_mem hlt))
      obtain ⟨b9, hb9, e9⟩ := List.mem_map.1 hkm
      have hfit : away[i].o ≤ 4 := by
        simp only [keyB, Prod.mk.injEq] at e9
        have := (HPI.out.ok.lv b9 hb9).1.1
        omega
      have hsum : szB (away.take (i + 1)) = szB (away.take i) + 2 ^ away[i].o := by have := sumB_take away i hlt; rw [sumB_sz, sumB_sz] at this; exact this
      have hle : szB (away.take i) ≤ 512 := by
        have h9 : szB away = szB (away.take i) + szB (away.drop i) := by rw [← szB_append, List.take_append_drop]
        omega
      have HSM := Hid.mk hsum
      clear hsum hbc hkm hb9 e9
      generalize away[i] = q at *
      have hsh := shl_bk hfit
      have hpw := pow_bk hfit
      have hNew := Hid.mk (Below.step hbr.out (below_alloc wr (.cells #[.int .i64 (q.a : Int), .int .i64 (q.o : Int), .int .i64 (q.t : Int)] 40)))
      obtain ⟨S, hS⟩ : ∃ S, szB (away.take i) = S := ⟨_, rfl⟩
      rw [hS] at hle HSM ⊢
      clear hS
      obtain ⟨T, hT⟩ : ∃ T, N0 + S = T := ⟨_, rfl⟩
      rw [hT]
      have hw : wrap64 ((T : Int) + wrap64 (2 ^ min q.o 64)) = ((T + 2 ^ q.o : Nat) : Int) := by
        rw [show min q.o 64 = q.o by omega, hsh]
        generalize 2 ^ q.o = p at *
        have := IntWalk.wrap64_in ((T : Int) + p) (by omega)
        rw [Int.natCast_add]
        exact this
      have e2 : ((2 ^ q.o : Nat) : Int) = (2 : Int) ^ q.o := by rw [Int.natCast_pow]; rfl
      have hw2 : wrap64 ((T : Int) + (2 : Int) ^ q.o) = ((T + 2 ^ q.o : Nat) : Int) := by
        rw [← e2, Int.natCast_add]
        clear e2 hw
        generalize 2 ^ q.o = p at *
        exact IntWalk.wrap64_in ((T : Int) + (p : Int)) (by omega)
      have HW := Hid.mk hw
      have HW2 := Hid.mk hw2
      have HT := Hid.mk hT
      clear hT hw hw2 e2
      go_wp2
      go_roundw
      case rel => exact ⟨i + 1, by omega, by go_num, by rw [HSM.out, ← Nat.add_assoc, HT.out]; simp only [Value.int.injEq, true_and]; first | exact HW.out | exact HW2.out, hNew⟩
      case measure => simp [intOf]; omega
    · obtain rfl : i = away.length := by omega
      have HH9 := Hid.mk (HH8.out.below hbr.out)
      have K9 := box_step K10d.out hs10d hbr.out
      have hs9 := Nat.lt_of_lt_of_le hs10d hbr.out.size
      have HB9 := Hid.mk (Below.step HB8.out hbr.out)
      have v0 := K9 0
      have v1 := K9 1
      have v2 := K9 2
      have v3 := K9 3
      have v4 := K9 4
      simp only [List.getElem?_toArray, List.getElem?_cons_zero, List.getElem?_cons_succ] at v0 v1 v2 v3 v4
      have htk : away.take away.length = away := List.take_length
      rw [htk, H0L.out.1]
      have hll := HPI.out.len.1
      have hlc : hc.lc.length ≤ 1000 := by
        have h1 := congrArg List.length HH8.out.ll
        rw [List.length_map] at h1
        rw [h1]
        exact Nat.le_trans HPI.out.ok.ls_len (by decide)
      have hcheck : ∀ W, Below wr.heap.size wr W → Calls Tryd.prog 13 #[.agg #[.slice hc.az 2 hc.cz, .slice hc.am 2 hc.cm, .int .i64 (h.cpus : Int), .slice hc.al hc.lc.length hc.cl, .slice hc.av h.live.length hc.cv]] W fun ev w' => ev = .returned (.int .i64 0) ∧ Below W.heap.size W w' := fun W hb =>
        checkH_pg _ _ _ _ _ _ _ _ _ _ _ _ _ h W (HH9.out.below hb) HPI.out.ok hlc (by omega)
      have HCK := Hid.mk hcheck
      have hsum : N0 + szB away + lenS h.ls = h0.zsum 2 := by have := HTOT.out; rw [HN0.out] at this; omega
      have heq : (((N0 + szB away : Nat) : Int) + ((lenS h.ls : Nat) : Int) == ((h0.zsum 2 : Nat) : Int)) = true := by rw [beq_iff_eq]; omega
      have heq2 : ((h.live.length : Int) == (away.length : Int)) = true := by rw [beq_iff_eq]; omega
      have HEQ2 := Hid.mk heq2
      clear hcheck
      go_wp2_with fail
      refine (HCK.out wr (Below.refl _ _)).mono ?_
      rintro ev w10 ⟨rfl, hb10⟩
      have v4' := (hb10.cell (p := ⟨B10, 4, none⟩) hs9).trans v4
      have hs10 := Nat.lt_of_lt_of_le hs9 hb10.size
      have HB10 := Hid.mk (Below.step HB9.out hb10)
      clear v0 v1 v2 v3 v4 K9 HCK HH9 hb10
      go_wp2_with fail
      refine (checkH_none w10).mono ?_
      rintro ev w11 ⟨rfl, hb11⟩
      have HB11 := Hid.mk (Below.step HB10.out hb11)
      clear hb11
      go_wp2
      go_ret
      exact ⟨rfl, HB11.out⟩
end Go.Proofs.YtjljcifpcljlaaaDoor
