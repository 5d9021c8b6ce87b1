/- Sb7: texts of this claim, joined. -/
import Derived.Test.YtkcaheebaicinaaGreatDoorSN19
import Derived.Test.YtkcaheebaicinaaGreatDoorSN27
import Derived.Test.YtkcaheebaicinaaGreatDoorSN36
/- Contract of package slab: cache (a cache that may be). -/
namespace Go.Proofs.YtkcaheebaicinaaGreatDoor
open Go.RowKit
set_option linter.unusedVariables false
set_option linter.unusedSimpArgs false

theorem box_ltS (w : World) (o : Obj) : w.heap.size < (w.alloc o).heap.size := by simp
theorem SlOk.at {s : Sy} {c : Ca} {x : Sl} (h : SlOk s c x) (hk : HOk s.h) : ∃ hi : lb s.h.live x.p < s.h.live.length, s.h.live[lb s.h.live x.p].o = c.o ∧ hasB s.h.live x.p = true := by
  obtain ⟨b, hb, h1, h2⟩ := h.live
  have h3 := lb_hit hk.vs hb
  rw [h1] at h3
  obtain ⟨hi, h4⟩ := List.getElem?_eq_some_iff.1 h3
  exact ⟨hi, by rw [h4]; exact h2, List.any_eq_true.2 ⟨b, hb, decide_eq_true h1⟩⟩

set_option maxHeartbeats 8000000 in
set_option maxRecDepth 100000 in
theorem cache_sl (v : Sc) (s : Sy) (y : Cc) (w : World) (hs : SyAt w v s) (hk : HOk s.h) (hw : s.w.length = 4096) (hy : CcAt w y) (hc : CaOk s y.c) :
    Calls Tryz.prog 34 #[.agg #[.slice v.a1 v.n1 v.c1, .slice v.hc.az 2 v.hc.cz, .slice v.hc.am 2 v.hc.cm, .int .i64 s.h.cpus, .slice v.hc.al v.hc.lc.length v.hc.cl, .slice v.hc.av s.h.live.length v.hc.cv, .slice v.a2 v.ys.length v.c2], .agg #[.slice y.a1 y.n1 y.c1, .int .i64 y.c.z, .int .i64 y.c.r, .int .i64 y.c.o, .slice y.a2 y.n2 y.c2, .slice y.a3 y.n3 y.c3]] w fun ev w' => ev = .returned (.bool true) ∧ Below w.heap.size w w' := by
  obtain ⟨K0, K1, F0, F1, hsz, hbw⟩ := boxes2 w #[.slice v.a1 v.n1 v.c1, .slice v.hc.az 2 v.hc.cz, .slice v.hc.am 2 v.hc.cm, .int .i64 (s.h.cpus : Int), .slice v.hc.al v.hc.lc.length v.hc.cl, .slice v.hc.av s.h.live.length v.hc.cv, .slice v.a2 v.ys.length v.c2] 38 #[.slice y.a1 y.n1 y.c1, .int .i64 (y.c.z : Int), .int .i64 (y.c.r : Int), .int .i64 (y.c.o : Int), .slice y.a2 y.n2 y.c2, .slice y.a3 y.n3 y.c3] 72
  have HS := Hid.mk (hs.below hbw)
  have HY := Hid.mk (hy.below hbw)
  have HB := Hid.mk hbw
  have HK := Hid.mk hk
  have HC := Hid.mk hc
  have HK0 := Hid.mk K0
  have HK1 := Hid.mk K1
  have hz := hc.z
  have ho := hc.o
  have hr := hc.r
  have hn2 : y.n2 ≤ 256 := by rw [← hy.l2]; exact hc.sl_len hk
  have hn3 : y.n3 = s.h.cpus := by rw [← hy.l3]; exact hc.ac
  have hcp := hk.cp
  have hn34 : y.n3 ≤ 4 := by rw [hn3]; exact hk.cp.2
  have hlv := hs.hh.nv
  have hn1 : 0 < y.n1 := by rw [← hy.l1]; exact List.length_pos_iff.2 hc.ns
  have c0 := K0 3
  have c1 := K1 0
  have c2 := K1 1
  have c3 := K1 2
  have c4 := K1 3
  have c5 := K1 5
  have c6 := K1 4
  simp only [List.getElem?_toArray, List.getElem?_cons_zero, List.getElem?_cons_succ] at c0 c1 c2 c3 c4 c5 c6
  have q1 : ((y.c.o : Int) != (layO y.c.z : Nat)) = false := by rw [ho]; simp
  have q2 : ((y.c.r : Int) != (layN y.c.z : Nat)) = false := by rw [hr]; simp
  have q3 : ((y.n1 : Int) == 0) = false := by rw [beq_eq_false_iff_ne]; omega
  have q4 : ((y.n3 : Int) != (s.h.cpus : Int)) = false := by rw [hn3]; simp
  have HOO := Hid.mk ho
  have HRR := Hid.mk hr
  clear hs hy hbw K0 K1 F0 F1 hk hc ho hr hn3
  go_enter Tryz.func34, Tryz.ntmps34
  go_wp2_with fail
  generalize (w.alloc (.cells #[.slice v.a1 v.n1 v.c1, .slice v.hc.az 2 v.hc.cz, .slice v.hc.am 2 v.hc.cm, .int .i64 (s.h.cpus : Int), .slice v.hc.al v.hc.lc.length v.hc.cl, .slice v.hc.av s.h.live.length v.hc.cv, .slice v.a2 v.ys.length v.c2] 38)).alloc (.cells #[.slice y.a1 y.n1 y.c1, .int .i64 (y.c.z : Int), .int .i64 (y.c.r : Int), .int .i64 (y.c.o : Int), .slice y.a2 y.n2 y.c2, .slice y.a3 y.n3 y.c3] 72) = w2 at *
  refine (layoutS_ok y.c.z w2 hz.1 hz.2).mono ?_
  rintro ev _ ⟨rfl, rfl⟩
  go_wp2_with fail
  go_loopw [55] (fun s55 wr => ∃ i : Nat, i ≤ y.n2 ∧ s55 = .int .i64 (i : Int) ∧ Hid (Below w2.heap.size w2 wr)) (fun s55 _ => y.n2 - (intOf s55).toNat)
  case atStart => exact ⟨0, Nat.zero_le _, rfl, Below.refl _ _⟩
  case round =>
    obtain ⟨i, hi, rfl, HBr⟩ := hrel
    by_cases hlt : i < y.n2
    · have hlti : (i : Int) < y.n2 := by omega
      have hi2 : i < y.c.sl.length := by rw [HY.out.l2]; exact hlt
      obtain ⟨bb, off, hba, hbb, hbc⟩ := row_elem encSl_length (by decide) (HY.out.r2.below HBr.out) hi2
      obtain ⟨e0, e1, e2⟩ := encSl_cells hbc
      have HX := Hid.mk (HC.out.sk _ (List.getElem_mem hi2))
      have HPV : Hid (∀ m (hm : m < i), (y.c.sl[m]'(by omega)).p < (y.c.sl[i]).p) := fun m hm => List.pairwise_iff_getElem.1 HC.out.sr m i (by omega) hi2 hm
      obtain ⟨x, hx⟩ : ∃ x, y.c.sl[i] = x := ⟨_, rfl⟩
      simp only [hx] at e0 e1 e2 HX HPV
      obtain ⟨hil, hbo, hhas⟩ := HX.out.at HK.out
      obtain ⟨cl, hcl⟩ := HX.out.chain
      have hxp := HX.out.p_lt HK.out
      have HA2 := Hid.mk hba
      rw [hba] at c6 ⊢
      clear hbc hba hx
      go_upto_region 7 with fail
      have hb3 := below_alloc wr (.cells #[.int .i64 (x.p : Int), .int .i64 (x.n : Int), .int .i64 x.h] 87)
      have KX := box_new wr #[.int .i64 (x.p : Int), .int .i64 (x.n : Int), .int .i64 x.h] 87
      have hsx := box_ltS wr (.cells #[.int .i64 (x.p : Int), .int .i64 (x.n : Int), .int .i64 x.h] 87)
      have HB3 := Hid.mk (Below.step HBr.out hb3)
      clear hb3 HBr e0 e1 e2 hbb
      obtain ⟨we, rfl⟩ : ∃ we, we = wr := ⟨_, rfl⟩
      generalize we.alloc (.cells #[.int .i64 (x.p : Int), .int .i64 (x.n : Int), .int .i64 x.h] 87) = w3 at *
      obtain ⟨BX, hBX⟩ : ∃ B, we.heap.size = B := ⟨_, rfl⟩
      rw [hBX] at KX hsx ⊢
      clear hBX
      have g0 := KX 0
      have k05 := (box_step HK0.out (by omega) HB3.out) 5
      simp only [List.getElem?_toArray, List.getElem?_cons_zero, List.getElem?_cons_succ] at g0 k05
      have hs3 : w.heap.size + 1 < w3.heap.size := Nat.lt_of_lt_of_le hsz HB3.out.size
      go_wp2_with fail
      refine (search_cache _ _ _ s.h.live x.p w3 rfl (Nat.le_trans HK.out.live_len (by decide)) (HS.out.hh.vr.below HB3.out) HK.out.vs (fun b hb => by have := (HK.out.lv b hb).1.2.2.1; omega) (by omega)).mono ?_
      rintro ev w4 ⟨rfl, hb4⟩
      rw [hhas]
      have HB4 := Hid.mk (Below.step HB3.out hb4)
      have KX4 := box_step KX hsx hb4
      have hsx4 := Nat.lt_of_lt_of_le hsx hb4.size
      clear g0 k05 hb4 KX hsx hs3
      obtain ⟨lbk, loff, hla, hlbk, hlc⟩ := row_elem encBk_length (by decide) (HS.out.hh.vr.below HB4.out) hil
      obtain ⟨l0, l1, l2⟩ := encBk_cells hlc
      rw [hbo] at l1
      have k05 := (box_step HK0.out (by omega) HB4.out) 5
      have k14 := (box_step HK1.out hsz HB4.out) 4
      have d1 := KX4 0
      simp only [List.getElem?_toArray, List.getElem?_cons_zero, List.getElem?_cons_succ] at k05 k14 d1
      rw [hla] at k05
      rw [HA2.out] at k14
      rw [HOO.out] at l1
      have hil2 := hil
      clear hla hlc l0 l2 hbo
      obtain ⟨L, hL⟩ : ∃ L, lb s.h.live x.p = L := ⟨_, rfl⟩
      rw [hL] at l1 hil2 ⊢
      clear hL hil
      have hs4 : w.heap.size + 1 < w4.heap.size := Nat.lt_of_lt_of_le hsz HB4.out.size
      have hLi : (L : Int) < s.h.live.length := by omega
      by_cases hi0 : i = 0
      · subst hi0
        go_wp2_with fail
        go_quiet (fail)
        have hbq := below_drewN (Below.refl w4.heap.size w4) nq
        have HBq := Hid.mk (Below.step HB4.out hbq)
        have KXq := box_step KX4 hsx4 hbq
        have hsxq := Nat.lt_of_lt_of_le hsx4 hbq.size
        clear HB4 KX4 hsx4 hbq d1 l1 k05 k14
        generalize w4.drewN nq = w5 at *
        have g0 := KXq 0
        have g1 := KXq 1
        have g2 := KXq 2
        have k00 := (box_step HK0.out (by omega) HBq.out) 0
        have k01 := (box_step HK0.out (by omega) HBq.out) 1
        have k02 := (box_step HK0.out (by omega) HBq.out) 2
        have k03 := (box_step HK0.out (by omega) HBq.out) 3
        have k04 := (box_step HK0.out (by omega) HBq.out) 4
        have k05 := (box_step HK0.out (by omega) HBq.out) 5
        have k06 := (box_step HK0.out (by omega) HBq.out) 6
        have k10 := (box_step HK1.out hsz HBq.out) 0
        have k11 := (box_step HK1.out hsz HBq.out) 1
        have k12 := (box_step HK1.out hsz HBq.out) 2
        have k13 := (box_step HK1.out hsz HBq.out) 3
        have k14 := (box_step HK1.out hsz HBq.out) 4
        have k15 := (box_step HK1.out hsz HBq.out) 5
        simp only [List.getElem?_toArray, List.getElem?_cons_zero, List.getElem?_cons_succ] at g0 g1 g2 k00 k01 k02 k03 k04 k05 k06 k10 k11 k12 k13 k14 k15
        have hs2 := hsz
        go_wp2_with fail
        refine (chain_sl _ _ _ _ _ _ _ _ _ _ _ _ _ _ _ _ s.h.cpus s.w y x cl w5 (HS.out.lw) (by have := HS.out.lw; omega) (HS.out.rw.below HBq.out) hz.1 (by have := HC.out.rz; omega) (by omega) hcl.1 hcl.2.1 hcl.2.2 (fun a ha => by have h9 := objB_in (hcl.2.2 a ha); have := HC.out.rz; have h8 : ((y.c.r * y.c.z : Nat) : Int) = (y.c.r : Int) * (y.c.z : Int) := Int.natCast_mul _ _; omega) (by have := HX.out.n_le; have := HC.out.r64; omega)).mono ?_
        rintro ev w6 ⟨a', c', rfl, _, hb6⟩
        have HB6 := Hid.mk (Below.step HBq.out hb6)
        clear g0 g1 g2 k00 k01 k02 k03 k04 k05 k06 k10 k11 k12 k13 k14 k15
        go_wp2_with fail
        go_roundw
        case measure => simp [intOf]; omega
        case rel => exact ⟨1, by omega, by go_num, HB6⟩
      · obtain ⟨m, rfl⟩ : ∃ m, i = m + 1 := ⟨i - 1, by omega⟩
        have hm1 : ((m + 1 : Nat) : Int) - 1 = (m : Int) := by omega
        have hml : m < y.c.sl.length := by omega
        have hpv := HPV.out m (by omega)
        obtain ⟨bb2, off2, hba2, _, hbc2⟩ := row_elem encSl_length (by decide) (HY.out.r2.below HB4.out) hml
        rw [HA2.out] at hba2
        simp only [Option.some.injEq, Addr.mk.injEq, and_true] at hba2
        obtain ⟨rfl, rfl⟩ := hba2
        obtain ⟨p0, _, _⟩ := encSl_cells hbc2
        obtain ⟨xq, hxq⟩ : ∃ x', (y.c.sl[m]).p = x' := ⟨_, rfl⟩
        rw [hxq] at p0
        simp only [hxq] at hpv
        have hge : ¬ (x.p : Int) ≤ xq := by omega
        have hged : decide ((x.p : Int) ≤ xq) = false := decide_eq_false hge
        clear hbc2 hxq
        have hmi : (m : Int) < y.n2 := by omega
        go_wp2_with fail
        go_quiet (fail)
        have hbq := below_drewN (Below.refl w4.heap.size w4) nq
        have HBq := Hid.mk (Below.step HB4.out hbq)
        have KXq := box_step KX4 hsx4 hbq
        have hsxq := Nat.lt_of_lt_of_le hsx4 hbq.size
        clear HB4 KX4 hsx4 hbq d1 l1 k05 k14 p0
        generalize w4.drewN nq = w5 at *
        have g0 := KXq 0
        have g1 := KXq 1
        have g2 := KXq 2
        have k00 := (box_step HK0.out (by omega) HBq.out) 0
        have k01 := (box_step HK0.out (by omega) HBq.out) 1
        have k02 := (box_step HK0.out (by omega) HBq.out) 2
        have k03 := (box_step HK0.out (by omega) HBq.out) 3
        have k04 := (box_step HK0.out (by omega) HBq.out) 4
        have k05 := (box_step HK0.out (by omega) HBq.out) 5
        have k06 := (box_step HK0.out (by omega) HBq.out) 6
        have k10 := (box_step HK1.out hsz HBq.out) 0
        have k11 := (box_step HK1.out hsz HBq.out) 1
        have k12 := (box_step HK1.out hsz HBq.out) 2
        have k13 := (box_step HK1.out hsz HBq.out) 3
        have k14 := (box_step HK1.out hsz HBq.out) 4
        have k15 := (box_step HK1.out hsz HBq.out) 5
        simp only [List.getElem?_toArray, List.getElem?_cons_zero, List.getElem?_cons_succ] at g0 g1 g2 k00 k01 k02 k03 k04 k05 k06 k10 k11 k12 k13 k14 k15
        have hs2 := hsz
        go_wp2_with fail
        refine (chain_sl _ _ _ _ _ _ _ _ _ _ _ _ _ _ _ _ s.h.cpus s.w y x cl w5 (HS.out.lw) (by have := HS.out.lw; omega) (HS.out.rw.below HBq.out) hz.1 (by have := HC.out.rz; omega) (by omega) hcl.1 hcl.2.1 hcl.2.2 (fun a ha => by have h9 := objB_in (hcl.2.2 a ha); have := HC.out.rz; have h8 : ((y.c.r * y.c.z : Nat) : Int) = (y.c.r : Int) * (y.c.z : Int) := Int.natCast_mul _ _; omega) (by have := HX.out.n_le; have := HC.out.r64; omega)).mono ?_
        rintro ev w6 ⟨a', c', rfl, _, hb6⟩
        have HB6 := Hid.mk (Below.step HBq.out hb6)
        clear g0 g1 g2 k00 k01 k02 k03 k04 k05 k06 k10 k11 k12 k13 k14 k15
        go_wp2_with fail
        go_roundw
        case measure => simp [intOf]; omega
        case rel => exact ⟨m + 1 + 1, by omega, by go_num, HB6⟩
    · have hie : i = y.n2 := by omega
      subst hie
      have k15 := (box_step HK1.out hsz HBr.out) 5
      simp only [List.getElem?_toArray, List.getElem?_cons_zero, List.getElem?_cons_succ] at k15
      have hszr : w.heap.size + 1 < wr.heap.size := Nat.lt_of_lt_of_le hsz HBr.out.size
      clear c6
      obtain ⟨w8, rfl⟩ : ∃ w8, w8 = wr := ⟨_, rfl⟩
      go_wp2_with fail
      clear k15
      go_loopw [111] (fun s111 wr => ∃ j : Nat, j ≤ y.n3 ∧ s111 = .int .i64 (j : Int) ∧ Hid (Below w2.heap.size w2 wr)) (fun s111 _ => y.n3 - (intOf s111).toNat)
      case atStart => exact ⟨0, Nat.zero_le _, rfl, HBr⟩
      case round =>
        obtain ⟨j, hj, rfl, HBj⟩ := hrel
        by_cases hjl : j < y.n3
        · have hjli : (j : Int) < y.n3 := by omega
          have hj2 : j < y.c.ac.length := by rw [HY.out.l3]; exact hjl
          obtain ⟨bb, off, hba, hbb, e0⟩ := row_at (HY.out.r3.below HBj.out) hj2
          have HA3 := Hid.mk hba
          have haw := HC.out.aw _ (List.getElem_mem hj2)
          have hno : ∀ m (hm : m < j), y.c.ac[j] ≠ -1 → (y.c.ac[m]'(by omega)) ≠ y.c.ac[j] := fun m hm h1 h2 => h1 (h2 ▸ List.pairwise_iff_getElem.1 HC.out.ad m j (by omega) hj2 hm h2)
          obtain ⟨a, ha⟩ : ∃ a, y.c.ac[j] = a := ⟨_, rfl⟩
          rw [ha] at e0 haw
          simp only [ha] at hno
          have HNO := Hid.mk hno
          have HAW := Hid.mk haw
          rw [hba]
          clear hba hno haw
          by_cases ham : a = -1
          · subst ham
            go_wp2_with fail
            go_roundw
            case rel => exact ⟨j + 1, by omega, by go_num, HBj⟩
            case measure => simp [intOf]; omega
          · have hamb : (a == -1) = false := by rw [beq_eq_false_iff_ne]; exact ham
            have k10 := (box_step HK1.out hsz HBj.out) 0
            have k11 := (box_step HK1.out hsz HBj.out) 1
            have k12 := (box_step HK1.out hsz HBj.out) 2
            have k13 := (box_step HK1.out hsz HBj.out) 3
            have k14 := (box_step HK1.out hsz HBj.out) 4
            have k15 := (box_step HK1.out hsz HBj.out) 5
            simp only [List.getElem?_toArray, List.getElem?_cons_zero, List.getElem?_cons_succ] at k10 k11 k12 k13 k14 k15
            have hpre : Row wr y.a3 ((y.c.ac.take j).map vI) := fun i v h => HY.out.r3.below HBj.out i v (by
              rw [List.map_take, List.getElem?_take] at h
              split at h
              · exact h
              · cases h)
            have hcon := contains_int y.a3 y.c3 (y.c.ac.take j) a wr (by rw [List.length_take]; omega) hpre
            rw [List.length_take, Nat.min_eq_left (by omega)] at hcon
            have hmiss : hasI (y.c.ac.take j) a = false := by
              unfold hasI
              rw [List.contains_eq_any_beq, List.any_eq_false]
              intro x hx
              obtain ⟨m, hm, e⟩ := List.mem_take_iff_getElem.1 hx
              have := HNO.out m (by omega) ham
              rw [e] at this
              simpa using fun h => this h.symm
            rw [hmiss] at hcon
            obtain ⟨x, hxm, hxa⟩ : ∃ x ∈ y.c.sl, (x.p : Int) = a := HAW.out.resolve_left ham
            have hxp := (HC.out.sk x hxm).p_lt HK.out
            have hfind := fun (W : World) (hW : Below wr.heap.size wr W) => find_sl y a W (HY.out.below (Below.step HBj.out hW)) (by omega) (fun x hx => by have := (HC.out.sk x hx).p_lt HK.out; omega) (by omega)
            have hpos : ¬ findI (fun x => decide ((x.p : Int) = a)) y.c.sl < 0 := by
              have h9 := findI_nonneg (fun x : Sl => decide ((x.p : Int) = a)) y.c.sl
              rw [show (y.c.sl.any fun x => decide ((x.p : Int) = a)) = true from List.any_eq_true.2 ⟨x, hxm, decide_eq_true hxa⟩] at h9
              have := of_decide_eq_true h9
              omega
            have HCON := Hid.mk hcon
            have HFI := Hid.mk hfind
            have hszj : w.heap.size + 1 < wr.heap.size := Nat.lt_of_lt_of_le hsz HBj.out.size
            rw [HA3.out] at k15
            rw [HA3.out] at HCON
            clear hpre hcon hmiss hfind hxa
            obtain ⟨fi, hfi⟩ : ∃ f, findI (fun x => decide ((x.p : Int) = a)) y.c.sl = f := ⟨_, rfl⟩
            simp only [hfi] at HFI hpos
            clear hfi
            rw [HA3.out] at HFI
            have hjc : (j : Int) ≤ y.c3 := by have := HY.out.k3; omega
            have hjc2 : j ≤ y.c3 := by have := HY.out.k3; omega
            go_wp2_with (first | (go_at_call 18; refine HCON.out.mono ?_; rintro e w' ⟨rfl, rfl⟩) | (go_at_call 77; refine (HFI.out _ (Below.refl _ _)).mono ?_; rintro e w' ⟨rfl, hb'⟩))
            have HBJ := Hid.mk (Below.step HBj.out hb')
            go_roundw
            case rel => exact ⟨j + 1, by omega, by go_num, HBJ⟩
            case measure => simp [intOf]; omega
        · obtain rfl : j = y.n3 := by omega
          have HBE := Hid.mk (Below.step HB.out HBj.out)
          go_wp2
          go_ret
          exact ⟨rfl, HBE.out⟩
end Go.Proofs.YtkcaheebaicinaaGreatDoor
