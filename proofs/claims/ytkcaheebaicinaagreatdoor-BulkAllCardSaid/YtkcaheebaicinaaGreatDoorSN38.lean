/- Sb8: texts of this claim, joined. -/
import Derived.Test.YtkcaheebaicinaaGreatDoorSN27
import Derived.Test.YtkcaheebaicinaaGreatDoorSN34
import Derived.Test.YtkcaheebaicinaaGreatDoorSN37
/- Contract of package slab: Check (a system that may be). -/
namespace Go.Proofs.YtkcaheebaicinaaGreatDoor
open Go.RowKit
set_option linter.unusedVariables false
set_option linter.unusedSimpArgs false

/-- is a cache of the same size? -/
theorem sizeC_ok (y z : Cc) (B : Nat) (W : World) (hB : B < W.heap.size) (hc : W.cell? ⟨B, 1, none⟩ = some (.int .i64 z.c.z)) :
    Calls Tryz.prog 36 (#[.agg (encCc y).toArray] ++ #[.pointer (some ⟨B, 0, none⟩)]) W fun ev w' => ev = .returned (.bool (decide (y.c.z = z.c.z))) ∧ Below W.heap.size W w' := by
  show Calls Tryz.prog 36 #[.agg #[.slice y.a1 y.n1 y.c1, .int .i64 y.c.z, .int .i64 y.c.r, .int .i64 y.c.o, .slice y.a2 y.n2 y.c2, .slice y.a3 y.n3 y.c3], .pointer (some ⟨B, 0, none⟩)] W _
  have hb := below_alloc W (.cells #[.slice y.a1 y.n1 y.c1, .int .i64 (y.c.z : Int), .int .i64 (y.c.r : Int), .int .i64 (y.c.o : Int), .slice y.a2 y.n2 y.c2, .slice y.a3 y.n3 y.c3] 72)
  have K := box_new W #[.slice y.a1 y.n1 y.c1, .int .i64 (y.c.z : Int), .int .i64 (y.c.r : Int), .int .i64 (y.c.o : Int), .slice y.a2 y.n2 y.c2, .slice y.a3 y.n3 y.c3] 72
  have k1 := K 1
  simp only [List.getElem?_toArray, List.getElem?_cons_zero, List.getElem?_cons_succ] at k1
  have hc2 := (hb.cell (p := ⟨B, 1, none⟩) hB).trans hc
  have HB := Hid.mk hb
  clear hb K hc
  go_enter Tryz.func36, Tryz.ntmps36
  go_wp2
  go_ret
  exact ⟨ret_bool (by rw [Bool.eq_iff_iff]; simp only [beq_iff_eq, decide_eq_true_eq]; omega), HB.out⟩

theorem row_take {α : Type} {enc : α → List Value} {k : Nat} (hk : ∀ x, (enc x).length = k) {w : World} {a : Option Addr} {l : List α} (h : Row w a (flat enc l)) (i : Nat) : Row w a (flat enc (l.take i)) := fun j v hj => h j v (by
  rw [← flat_take hk, List.getElem?_take] at hj
  split at hj
  · exact hj
  · cases hj)
def sSet (s : Sy) (i : Nat) (x : Lit) : Prop := ∃ c ∈ s.cs.take i, ∃ n ∈ c.ns, x = .string n
def pSet (s : Sy) (i : Nat) (x : Lit) : Prop := ∃ c ∈ s.cs.take i, ∃ q ∈ c.sl, x = .int .i64 (q.p : Int)

set_option maxHeartbeats 8000000 in
set_option maxRecDepth 100000 in
theorem checkS_ok (v : Sc) (s : Sy) (w : World) (hs : SyAt w v s) (hk : SOk s) (hf : ∀ c ∈ s.cs, c.ns.length ≤ 1000) :
    Calls Tryz.prog 11 #[.agg #[.slice v.a1 v.n1 v.c1, .slice v.hc.az 2 v.hc.cz, .slice v.hc.am 2 v.hc.cm, .int .i64 s.h.cpus, .slice v.hc.al v.hc.lc.length v.hc.cl, .slice v.hc.av s.h.live.length v.hc.cv, .slice v.a2 v.ys.length v.c2]] w fun ev w' => ev = .returned (.int .i64 0) ∧ Below w.heap.size w w' := by
  obtain ⟨K0, F0, hsz, hbw⟩ := boxes1 w #[.slice v.a1 v.n1 v.c1, .slice v.hc.az 2 v.hc.cz, .slice v.hc.am 2 v.hc.cm, .int .i64 (s.h.cpus : Int), .slice v.hc.al v.hc.lc.length v.hc.cl, .slice v.hc.av s.h.live.length v.hc.cv, .slice v.a2 v.ys.length v.c2] 38
  have HS := Hid.mk (hs.below hbw)
  have HB := Hid.mk hbw
  have HK := Hid.mk hk
  have HK0 := Hid.mk K0
  have hn1 : (v.n1 : Int) = 4096 := by rw [← hs.lw, hk.wl]; rfl
  have q1 : ((v.n1 : Int) != 4096) = false := by rw [hn1]; rfl
  have hyl : v.ys.length ≤ 20 := by have := congrArg List.length hs.cy; rw [List.length_map] at this; rw [this]; exact hk.cl
  have hyi : ¬ (20 : Int) < v.ys.length := by omega
  have hnvl : s.h.live.length ≤ 1000 := Nat.le_trans hk.hk.live_len (by decide)
  have hnll : v.hc.lc.length ≤ 1000 := by
    have h1 := congrArg List.length hs.hh.ll
    rw [List.length_map] at h1
    rw [h1]
    exact Nat.le_trans hk.hk.ls_len (by decide)
  have HCH := Hid.mk (fun (W : World) (hW : Below (w.alloc (.cells #[.slice v.a1 v.n1 v.c1, .slice v.hc.az 2 v.hc.cz, .slice v.hc.am 2 v.hc.cm, .int .i64 (s.h.cpus : Int), .slice v.hc.al v.hc.lc.length v.hc.cl, .slice v.hc.av s.h.live.length v.hc.cv, .slice v.a2 v.ys.length v.c2] 38)).heap.size (w.alloc (.cells #[.slice v.a1 v.n1 v.c1, .slice v.hc.az 2 v.hc.cz, .slice v.hc.am 2 v.hc.cm, .int .i64 (s.h.cpus : Int), .slice v.hc.al v.hc.lc.length v.hc.cl, .slice v.hc.av s.h.live.length v.hc.cv, .slice v.a2 v.ys.length v.c2] 38)) W) => checkH_pg _ _ _ _ v.hc.cz v.hc.cm v.hc.cl v.hc.cv _ _ _ _ _ s.h W ((hs.below hbw).hh.below hW) hk.hk hnll hnvl)
  have c0 := K0 0
  have c1 := K0 1
  have c2 := K0 2
  have c3 := K0 3
  have c4 := K0 4
  have c5 := K0 5
  have c6 := K0 6
  simp only [List.getElem?_toArray, List.getElem?_cons_zero, List.getElem?_cons_succ] at c0 c1 c2 c3 c4 c5 c6
  have hmm := @run_makeMap Tryz.prog
  clear hs hbw K0 F0 hk
  go_enter Tryz.func11, Tryz.ntmps11
  go_upto_region 4 with (go_at_call 33; refine (HCH.out _ (Below.refl _ _)).mono ?_; rintro ev w2 ⟨rfl, hb2⟩; have HB2 := Hid.mk hb2; have c6a := (hb2.cell (p := ⟨w.heap.size, 6, none⟩) hsz).trans c6)
  have hba := below_alloc w2 (.map #[] 0)
  have hbb := below_alloc (w2.alloc (.map #[] 0)) (.map #[] 0)
  have S1 := (SetAt.made w2 Tryz.prog 9 4).below hbb
  have S2 := SetAt.made (w2.alloc (.map #[] 0)) Tryz.prog 3 4
  have HB24 := Hid.mk (Below.step hba hbb)
  have hM2 : (w2.alloc (.map #[] 0)).heap.size = w2.heap.size + 1 := by simp
  rw [hM2] at S2
  have HS1 : Hid (SetAt _ Tryz.prog 9 4 w2.heap.size 0 (sSet s 0)) := S1.imp fun x => ⟨fun h => h.elim, fun ⟨c, hc, _⟩ => by simp at hc⟩
  have HS2 : Hid (SetAt _ Tryz.prog 3 4 (w2.heap.size + 1) 0 (pSet s 0)) := S2.imp fun x => ⟨fun h => h.elim, fun ⟨c, hc, _⟩ => by simp at hc⟩
  clear S1 S2 hba hbb hM2 hmm c0 c1 c2 c3 c4 c5 HCH q1
  generalize (w2.alloc (.map #[] 0)).alloc (.map #[] 0) = w4 at *
  have hs2 := HB2.out.size
  have hs4 := HB24.out.size
  have hBs : w.heap.size < w2.heap.size := Nat.lt_of_lt_of_le hsz hs2
  have c6b := (HB24.out.cell (p := ⟨w.heap.size, 6, none⟩) hBs).trans c6a
  clear c6 c6a
  go_wp2_with fail
  clear c6b
  go_loopw [32] (fun s32 wr => ∃ (i n m : Nat), i ≤ v.ys.length ∧ s32 = .int .i64 (i : Int) ∧ n ≤ 1000 * i ∧ m ≤ 256 * i ∧ Hid (SetAt wr Tryz.prog 9 4 w2.heap.size n (sSet s i)) ∧ Hid (SetAt wr Tryz.prog 3 4 (w2.heap.size + 1) m (pSet s i)) ∧ Hid (Below w2.heap.size w2 wr)) (fun s32 _ => v.ys.length - (intOf s32).toNat)
  case atStart => exact ⟨0, 0, 0, Nat.zero_le _, rfl, Nat.zero_le _, Nat.zero_le _, HS1, HS2, HB24⟩
  case round =>
    obtain ⟨i, n, m, hi, rfl, hn, hm, HN, HM, HBr⟩ := hrel
    by_cases hlt : i < v.ys.length
    · have hlti : (i : Int) < v.ys.length := by omega
      have hic : i < s.cs.length := by rw [← HS.out.cy, List.length_map]; exact hlt
      have hel : v.ys[i].c = s.cs[i] := by
        have h1 := congrArg (·[i]?) HS.out.cy
        simp [hlt, hic] at h1
        exact h1
      have HSr := Hid.mk (HS.out.below (HB2.out.trans (HBr.out.mono hs2)))
      obtain ⟨bb, off, hba, hbb, hbc⟩ := row_elem encCc_length (by decide) HSr.out.rc hlt
      have hcy := HSr.out.ca _ (List.getElem_mem hlt)
      have hck : CaOk s v.ys[i].c := by rw [hel]; exact HK.out.ck _ (List.getElem_mem hic)
      have hfy : v.ys[i].c.ns.length ≤ 1000 := by rw [hel]; exact hf _ (List.getElem_mem hic)
      have hzd : ((v.ys.take i).any fun z => decide (z.c.z = v.ys[i].c.z)) = false := by
        rw [List.any_eq_false]
        intro z hz
        obtain ⟨m, hm, e⟩ := List.mem_take_iff_getElem.1 hz
        have hmc : m < s.cs.length := by omega
        have h1 : v.ys[m].c = s.cs[m] := by
          have h2 := congrArg (·[m]?) HS.out.cy
          simp [show m < v.ys.length by omega, hmc] at h2
          exact h2
        have h2 := List.pairwise_iff_getElem.1 HK.out.zd m i hmc hic (by omega)
        rw [← e, h1, hel]
        simpa using h2
      have hSS : ∀ x, sSet s (i + 1) x ↔ (sSet s i x ∨ ∃ n ∈ v.ys[i].c.ns, x = .string n) := fun x => by
        unfold sSet
        rw [List.take_succ_eq_append_getElem hic, ← hel]
        simp only [List.mem_append, List.mem_singleton]
        constructor
        · rintro ⟨c, hc | rfl, h⟩
          · exact .inl ⟨c, hc, h⟩
          · exact .inr h
        · rintro (⟨c, hc, h⟩ | h)
          · exact ⟨c, .inl hc, h⟩
          · exact ⟨_, .inr rfl, h⟩
      have hPP : ∀ x, pSet s (i + 1) x ↔ (pSet s i x ∨ ∃ q ∈ v.ys[i].c.sl, x = .int .i64 (q.p : Int)) := fun x => by
        unfold pSet
        rw [List.take_succ_eq_append_getElem hic, ← hel]
        simp only [List.mem_append, List.mem_singleton]
        constructor
        · rintro ⟨c, hc | rfl, h⟩
          · exact .inl ⟨c, hc, h⟩
          · exact .inr h
        · rintro (⟨c, hc, h⟩ | h)
          · exact ⟨c, .inl hc, h⟩
          · exact ⟨_, .inr rfl, h⟩
      have HSS := Hid.mk hSS
      have HPP := Hid.mk hPP
      obtain ⟨e0, e1, e2, e3, e4, e5⟩ := encCc_cells hbc
      have HTK : Hid ((v.ys.take i).length = i) := by unfold Hid; rw [List.length_take]; omega
      obtain ⟨y, hy⟩ : ∃ y, v.ys[i] = y := ⟨_, rfl⟩
      rw [hy] at e0 e1 e2 e3 e4 e5 hcy hck hfy hzd
      have HA := Hid.mk hba
      have HYI := Hid.mk hy
      rw [hba]
      clear hbc hba hel hSS hPP hy
      go_upto_region 7 with fail
      have hb5 := below_alloc wr (.cells #[.slice y.a1 y.n1 y.c1, .int .i64 (y.c.z : Int), .int .i64 (y.c.r : Int), .int .i64 (y.c.o : Int), .slice y.a2 y.n2 y.c2, .slice y.a3 y.n3 y.c3] 72)
      have K6 := box_new wr #[.slice y.a1 y.n1 y.c1, .int .i64 (y.c.z : Int), .int .i64 (y.c.r : Int), .int .i64 (y.c.o : Int), .slice y.a2 y.n2 y.c2, .slice y.a3 y.n3 y.c3] 72
      have hs6 := box_ltS wr (.cells #[.slice y.a1 y.n1 y.c1, .int .i64 (y.c.z : Int), .int .i64 (y.c.r : Int), .int .i64 (y.c.o : Int), .slice y.a2 y.n2 y.c2, .slice y.a3 y.n3 y.c3] 72)
      have hBCM := HM.out.lt
      have HN5 := Hid.mk (HN.out.below hb5)
      have HM5 := Hid.mk (HM.out.below hb5)
      have HB5 := Hid.mk (Below.step HBr.out hb5)
      have HS5 := Hid.mk (HSr.out.below hb5)
      have HY5 := Hid.mk (hcy.below hb5)
      clear hb5 HN HM HBr HSr hcy e0 e1 e2 e3 e4 e5 hbb
      obtain ⟨we, rfl⟩ : ∃ we, we = wr := ⟨_, rfl⟩
      generalize we.alloc (.cells #[.slice y.a1 y.n1 y.c1, .int .i64 (y.c.z : Int), .int .i64 (y.c.r : Int), .int .i64 (y.c.o : Int), .slice y.a2 y.n2 y.c2, .slice y.a3 y.n3 y.c3] 72) = w5 at *
      obtain ⟨BC, hBC⟩ : ∃ B, we.heap.size = B := ⟨_, rfl⟩
      rw [hBC] at K6 hs6 hBCM ⊢
      clear hBC
      have hb15 := HB2.out.trans (HB5.out.mono hs2)
      have k0 := box_step HK0.out hsz hb15
      have c0 := k0 0
      have c1 := k0 1
      have c2 := k0 2
      have c3 := k0 3
      have c4 := k0 4
      have c5 := k0 5
      have c6 := k0 6
      have g0 := K6 0
      have g1 := K6 1
      have g2 := K6 2
      have g3 := K6 3
      have g4 := K6 4
      have g5 := K6 5
      simp only [List.getElem?_toArray, List.getElem?_cons_zero, List.getElem?_cons_succ] at c0 c1 c2 c3 c4 c5 c6 g0 g1 g2 g3 g4 g5
      have hcall := cache_sl v s y w5 HS5.out HK.out.hk HK.out.wl HY5.out hck
      have HC1 := Hid.mk hcall
      have eg : ∀ args w, (callFunc 36 args).run Tryz.prog w = .ok (.enter 36 args) w := enters_of Tryz.func36 (by kernel_rfl) rfl
      have hkc := HS5.out.kc
      have HC2 : Hid (∀ W, Below w5.heap.size w5 W → Calls Tryz.prog 35 #[.slice (some ⟨bb, off, none⟩) i v.c2, .func (.func 36) #[] #[.pointer (some ⟨BC, 0, none⟩)]] W fun ev w' => ev = .returned (.bool false) ∧ Below W.heap.size W w') := fun W hW => by
        have h9 := containsFuncCc v.a2 i v.c2 (v.ys.take i) 36 #[.pointer (some ⟨BC, 0, none⟩)] (fun z => decide (z.c.z = y.c.z)) W HTK.out (by omega) (row_take encCc_length (HS5.out.rc.below hW) i) eg (fun W2 hW2 z hz => sizeC_ok z y BC W2 (Nat.lt_of_lt_of_le (Nat.lt_of_lt_of_le hs6 hW.size) hW2.size) ((hW2.cell (p := ⟨BC, 1, none⟩) (Nat.lt_of_lt_of_le hs6 hW.size)).trans ((hW.cell (p := ⟨BC, 1, none⟩) hs6).trans g1)))
        rw [hzd, HA.out] at h9
        exact h9
      have hic2 : (i : Int) ≤ v.c2 := by omega
      have hic3 : i ≤ v.c2 := by omega
      have hszw : w.heap.size < w5.heap.size := Nat.lt_of_lt_of_le hsz hb15.size
      rw [HA.out] at c6 HC1
      clear hcall eg hzd k0
      go_upto_region 9 with (first | (go_at_call 34; refine HC1.out.mono ?_; rintro ev w6 ⟨rfl, hb6⟩; have c6b := (hb6.cell (p := ⟨w.heap.size, 6, none⟩) hszw).trans c6) | (go_at_call 35; refine (HC2.out _ hb6).mono ?_; rintro ev w7 ⟨rfl, hb7⟩))
      have hb57 := Below.step hb6 hb7
      have HN7 := Hid.mk (HN5.out.below hb57)
      have HM7 := Hid.mk (HM5.out.below hb57)
      have HB7 := Hid.mk (Below.step HB5.out hb57)
      have HY7 := Hid.mk (HY5.out.below hb57)
      have K7 := box_step K6 hs6 hb57
      have hs7 := Nat.lt_of_lt_of_le hs6 hb57.size
      clear HC1 HC2 hb6 hb7 hb57 c0 c1 c2 c3 c4 c5 c6 c6b g0 g1 g2 g3 g4 g5 HN5 HM5 HB5 HS5 HY5 K6 hs6 hb15
      have HK7 := Hid.mk K7
      have k0 := K7 0
      simp only [List.getElem?_toArray, List.getElem?_cons_zero, List.getElem?_cons_succ] at k0
      have hn1 : y.n1 ≤ 1000 := by rw [← HY7.out.l1]; exact hfy
      clear K7
      go_wp2_with fail
      clear k0
      obtain ⟨wo, rfl⟩ : ∃ wo, wo = w7 := ⟨_, rfl⟩
      go_loopw [52] (fun s52 wr => ∃ (j k : Nat), j ≤ y.n1 ∧ s52 = .int .i64 (j : Int) ∧ k ≤ 1000 * i + j ∧ Hid (SetAt wr Tryz.prog 9 4 w2.heap.size k (fun x => sSet s i x ∨ ∃ n ∈ y.c.ns.take j, x = .string n)) ∧ Hid (SetAt wr Tryz.prog 3 4 (w2.heap.size + 1) m (pSet s i)) ∧ Hid (∀ o, wr.cell? ⟨BC, o, none⟩ = (#[.slice y.a1 y.n1 y.c1, .int .i64 (y.c.z : Int), .int .i64 (y.c.r : Int), .int .i64 (y.c.o : Int), .slice y.a2 y.n2 y.c2, .slice y.a3 y.n3 y.c3] : Array Value)[o]?) ∧ BC < wr.heap.size ∧ Hid (Below w2.heap.size w2 wr)) (fun s52 _ => y.n1 - (intOf s52).toNat)
      case atStart => exact ⟨0, n, Nat.zero_le _, rfl, by omega, HN7.out.imp fun x => ⟨.inl, fun h => h.resolve_right (by rintro ⟨n, hn, _⟩; simp at hn)⟩, HM7, HK7, hs7, HB7⟩
      case round =>
        obtain ⟨j, k, hj, rfl, hkn, HNj, HMj, HKj, hsj, HBj⟩ := hrel
        have hs15 := HB2.out.trans (HBj.out.mono hs2)
        have hcyj := (HS.out.below hs15).ca _ (List.getElem_mem hlt)
        rw [HYI.out] at hcyj
        by_cases hjl : j < y.n1
        · have hji : (j : Int) < y.n1 := by omega
          have hjn : j < y.c.ns.length := by rw [hcyj.l1]; exact hjl
          obtain ⟨b1, o1, hb1, hb1l, hb1c⟩ := row_elem encS_length (by decide) hcyj.r1 hjn
          have n0 := encS_cells hb1c
          have hnm : nameB y.c.ns[j] = true := hck.nm _ (List.getElem_mem hjn)
          have hl8 : y.c.ns[j].length ≤ 8 := by
            unfold nameB at hnm
            simp only [Bool.and_eq_true, decide_eq_true_eq] at hnm
            exact hnm.1.2
          have hfresh : ¬ (sSet s i (.string y.c.ns[j]) ∨ ∃ n ∈ y.c.ns.take j, (Lit.string y.c.ns[j]) = .string n) := by
            rintro (⟨c, hc, n, hn, e⟩ | ⟨n, hn, e⟩)
            · obtain ⟨m, hm, e2⟩ := List.mem_take_iff_getElem.1 hc
              have hmc : m < s.cs.length := by omega
              have h2 := List.pairwise_iff_getElem.1 HK.out.nd m i hmc hic (by omega)
              have e3 : y.c = s.cs[i] := by
                have h1 := congrArg (·[i]?) HS.out.cy
                simp [hlt, hic] at h1
                rw [← h1, HYI.out]
              refine h2 n (by rw [e2]; exact hn) ?_
              rw [← e3]
              obtain rfl : y.c.ns[j] = n := by simpa using e
              exact List.getElem_mem hjn
            · obtain ⟨m, hm, e2⟩ := List.mem_take_iff_getElem.1 hn
              have h2 := List.pairwise_iff_getElem.1 hck.nr m j (by omega) hjn (by omega)
              obtain e3 : y.c.ns[j] = n := by simpa using e
              rw [e3, e2, bl_irr] at h2
              cases h2
          have HIM : Hid (∀ x, (x = Lit.string y.c.ns[j] ∨ (sSet s i x ∨ ∃ n ∈ y.c.ns.take j, x = .string n)) ↔ (sSet s i x ∨ ∃ n ∈ y.c.ns.take (j + 1), x = .string n)) := fun x => by
            rw [List.take_succ_eq_append_getElem hjn]
            simp only [List.mem_append, List.mem_singleton]
            constructor
            · rintro (h | h | ⟨n, hn, h⟩)
              · exact .inr ⟨_, .inr rfl, h⟩
              · exact .inl h
              · exact .inr ⟨n, .inl hn, h⟩
            · rintro (h | ⟨n, hn | rfl, h⟩)
              · exact .inr (.inl h)
              · exact .inr (.inr ⟨n, hn, h⟩)
              · exact .inl h
          have hname : Hid (∀ W, Calls Tryz.prog 23 #[.string ⟨y.c.ns[j].toArray⟩] W fun ev w' => ev = .returned (.bool true) ∧ Below W.heap.size W w') := fun W => by
            have h := nameS_ok y.c.ns[j] W (by omega)
            rw [hnm] at h
            exact h
          have g0 := HKj.out 0
          simp only [List.getElem?_toArray, List.getElem?_cons_zero, List.getElem?_cons_succ] at g0
          have HFR := Hid.mk hfresh
          by_cases hj0 : 0 < j
          · have hjp : j - 1 < y.c.ns.length := by omega
            obtain ⟨b2, o2, hb2, _, hb2c⟩ := row_elem encS_length (by decide) hcyj.r1 hjp
            have n1 := encS_cells hb2c
            rw [hb1] at hb2
            obtain ⟨rfl, rfl⟩ : b1 = b2 ∧ o1 = o2 := by simpa using hb2
            have hlt1 := List.pairwise_iff_getElem.1 hck.nr (j - 1) j hjp hjn (by omega)
            have q1 := bl_list hlt1
            have e1 : ((j - 1 : Nat) : Int) = (j : Int) - 1 := by omega
            generalize y.c.ns[j - 1] = l1 at *
            generalize y.c.ns[j] = l at *
            rw [hb1] at g0 ⊢
            clear hb1c hb2c hb2 hcyj hfresh hb1l hs15
            rw [Nat.mul_one] at n0 n1
            have hj1 : ((j : Int) - 1).toNat = j - 1 := by omega
            have hj2 : (0 : Int) ≤ (j : Int) - 1 := by omega
            have hj3 : (j : Int) - 1 < y.n1 := by omega
            have hzj : (0 : Int) < j := by omega
            have hb1s := World.block_lt_of_cell? _ _ n1
            clear hnm hjn hjp q1
            go_upto_region 12 with fail
            go_upto_region 14 with (go_at_call 23; refine (hname.out _).mono ?_; rintro ev w8 ⟨rfl, hb8⟩; have hlk := setS_out (HNj.out.below hb8) l (by omega) HFR.out; unfold sV at hlk; have g8 := (hb8.cell (p := ⟨BC, 0, none⟩) hsj).trans g0; have n8 := (hb8.cell (p := ⟨b1, o1 + (j - 1), none⟩) hb1s).trans n1; have hge := run_geq_s w8 hlt1)
            clear hlk g8 n8 g0 n0 n1 hge hlt1
            obtain ⟨w9, hup, HS9, hg9⟩ := setS_put (HNj.out.below hb8) (by omega) l (by omega)
            unfold sV at hup
            have HS9i := Hid.mk (HS9.imp HIM.out)
            have HM9 := Hid.mk ((HMj.out.below hb8).kept hg9 (by simp))
            have hs8 : w2.heap.size ≤ w8.heap.size := Nat.le_trans HBj.out.size hb8.size
            have HK9 := Hid.mk (box_row (box_step HKj.out hsj hb8) hg9 (Nat.lt_of_lt_of_le hsj hb8.size) (by omega))
            have hs9 := Nat.lt_of_lt_of_le (Nat.lt_of_lt_of_le hsj hb8.size) hg9.size
            have HB9 := Hid.mk ((HBj.out.trans (hb8.mono HBj.out.size)).trans (below_row hg9 (Nat.le_refl _) hs8))
            clear hg9 HS9 HNj HMj HKj HBj hb8 hsj
            go_wp2
            go_roundw
            case rel => exact ⟨j + 1, k + 1, by omega, by go_num, by omega, HS9i, HM9, (by rw [hb1] at HK9; exact HK9), hs9, HB9⟩
            case measure => simp [intOf]; omega
          · obtain rfl : j = 0 := by omega
            generalize y.c.ns[0] = l at *
            rw [hb1] at g0 ⊢
            simp only [Nat.zero_mul, Nat.add_zero] at n0
            have hb1s := World.block_lt_of_cell? _ _ n0
            clear hb1c hcyj hfresh hb1l hs15 hnm hjn hj0
            go_upto_region 12 with fail
            go_upto_region 14 with (go_at_call 23; refine (hname.out _).mono ?_; rintro ev w8 ⟨rfl, hb8⟩; have hlk := setS_out (HNj.out.below hb8) l (by omega) HFR.out; unfold sV at hlk; have g8 := (hb8.cell (p := ⟨BC, 0, none⟩) hsj).trans g0)
            clear hlk g8 g0 n0
            obtain ⟨w9, hup, HS9, hg9⟩ := setS_put (HNj.out.below hb8) (by omega) l (by omega)
            unfold sV at hup
            have HS9i := Hid.mk (HS9.imp HIM.out)
            have HM9 := Hid.mk ((HMj.out.below hb8).kept hg9 (by simp))
            have hs8 : w2.heap.size ≤ w8.heap.size := Nat.le_trans HBj.out.size hb8.size
            have HK9 := Hid.mk (box_row (box_step HKj.out hsj hb8) hg9 (Nat.lt_of_lt_of_le hsj hb8.size) (by omega))
            have hs9 := Nat.lt_of_lt_of_le (Nat.lt_of_lt_of_le hsj hb8.size) hg9.size
            have HB9 := Hid.mk ((HBj.out.trans (hb8.mono HBj.out.size)).trans (below_row hg9 (Nat.le_refl _) hs8))
            clear hg9 HS9 HNj HMj HKj HBj hb8 hsj
            go_wp2
            go_roundw
            case rel => exact ⟨0 + 1, k + 1, by omega, by go_num, by omega, HS9i, HM9, (by rw [hb1] at HK9; exact HK9), hs9, HB9⟩
            case measure => simp [intOf]; omega
        · obtain rfl : j = y.n1 := by omega
          have k4 := HKj.out 4
          simp only [List.getElem?_toArray, List.getElem?_cons_zero, List.getElem?_cons_succ] at k4
          have hn2 : y.n2 ≤ 256 := by rw [← hcyj.l2]; exact hck.sl_len HK.out.hk
          have HNa : Hid (SetAt wr Tryz.prog 9 4 w2.heap.size k (sSet s (i + 1))) := HNj.out.imp fun x => by
            rw [HSS.out x, HYI.out, List.take_of_length_le (by rw [hcyj.l1]; omega)]
          obtain ⟨wn, rfl⟩ : ∃ wn, wn = wr := ⟨_, rfl⟩
          clear hs15 hcyj HNj hj hjl
          go_wp2_with fail
          clear k4
          go_loopw [85] (fun s85 wr => ∃ (j q : Nat), j ≤ y.n2 ∧ s85 = .int .i64 (j : Int) ∧ q ≤ 256 * i + j ∧ Hid (SetAt wr Tryz.prog 9 4 w2.heap.size k (sSet s (i + 1))) ∧ Hid (SetAt wr Tryz.prog 3 4 (w2.heap.size + 1) q (fun x => pSet s i x ∨ ∃ z ∈ y.c.sl.take j, x = .int .i64 (z.p : Int))) ∧ Hid (Below w2.heap.size w2 wr)) (fun s85 _ => y.n2 - (intOf s85).toNat)
          case atStart => exact ⟨0, m, Nat.zero_le _, rfl, by omega, HNa, HMj.out.imp fun x => ⟨.inl, fun h => h.resolve_right (by rintro ⟨n, hn, _⟩; simp at hn)⟩, HBj⟩
          case round =>
            clear HMj HKj HBj HNa
            obtain ⟨j, q, hj, rfl, hq, HNq, HMq, HBq⟩ := hrel
            have hs15 := HB2.out.trans (HBq.out.mono hs2)
            have hcyj := (HS.out.below hs15).ca _ (List.getElem_mem hlt)
            rw [HYI.out] at hcyj
            by_cases hjl : j < y.n2
            · have hji : (j : Int) < y.n2 := by omega
              have hjn : j < y.c.sl.length := by rw [hcyj.l2]; exact hjl
              obtain ⟨b1, o1, hb1, hb1l, hb1c⟩ := row_elem encSl_length (by decide) hcyj.r2 hjn
              obtain ⟨n0, n1, n2⟩ := encSl_cells hb1c
              have hp := (hck.sk _ (List.getElem_mem hjn)).p_lt HK.out.hk
              have e3 : y.c = s.cs[i] := by
                have h1 := congrArg (·[i]?) HS.out.cy
                simp [hlt, hic] at h1
                rw [← h1, HYI.out]
              have hfresh : ¬ (pSet s i (.int .i64 (y.c.sl[j].p : Int)) ∨ ∃ z ∈ y.c.sl.take j, (Lit.int .i64 (y.c.sl[j].p : Int)) = .int .i64 (z.p : Int)) := by
                rintro (⟨c, hc, n, hn, e⟩ | ⟨n, hn, e⟩)
                · obtain ⟨m, hm, e2⟩ := List.mem_take_iff_getElem.1 hc
                  have hmc : m < s.cs.length := by omega
                  have h2 := List.pairwise_iff_getElem.1 HK.out.pd m i hmc hic (by omega)
                  refine h2 n (by rw [e2]; exact hn) y.c.sl[j] (by rw [← e3]; exact List.getElem_mem hjn) ?_
                  have e4 : (y.c.sl[j].p : Int) = n.p := by simpa using e
                  omega
                · obtain ⟨m, hm, e2⟩ := List.mem_take_iff_getElem.1 hn
                  have h2 := List.pairwise_iff_getElem.1 hck.sr m j (by omega) hjn (by omega)
                  have e4 : (y.c.sl[j].p : Int) = n.p := by simpa using e
                  rw [e2] at h2
                  omega
              have HIM : Hid (∀ x, (x = Lit.int .i64 (y.c.sl[j].p : Int) ∨ (pSet s i x ∨ ∃ z ∈ y.c.sl.take j, x = .int .i64 (z.p : Int))) ↔ (pSet s i x ∨ ∃ z ∈ y.c.sl.take (j + 1), x = .int .i64 (z.p : Int))) := fun x => by
                rw [List.take_succ_eq_append_getElem hjn]
                simp only [List.mem_append, List.mem_singleton]
                constructor
                · rintro (h | h | ⟨n, hn, h⟩)
                  · exact .inr ⟨_, .inr rfl, h⟩
                  · exact .inl h
                  · exact .inr ⟨n, .inl hn, h⟩
                · rintro (h | ⟨n, hn | rfl, h⟩)
                  · exact .inr (.inl h)
                  · exact .inr (.inr ⟨n, hn, h⟩)
                  · exact .inl h
              have HFR := Hid.mk hfresh
              generalize y.c.sl[j] = x at *
              rw [hb1]
              clear hb1c hfresh hb1l hs15 hcyj hjn e3
              go_upto_region 19 with fail
              have hb8 := below_alloc wr (.cells #[.int .i64 (x.p : Int), .int .i64 (x.n : Int), .int .i64 x.h] 87)
              have c0 := box_new wr #[.int .i64 (x.p : Int), .int .i64 (x.n : Int), .int .i64 x.h] 87 0
              simp only [List.getElem?_toArray, List.getElem?_cons_zero, List.getElem?_cons_succ] at c0
              have hss : wr.heap.size < (wr.alloc (.cells #[.int .i64 (x.p : Int), .int .i64 (x.n : Int), .int .i64 x.h] 87)).heap.size := by simp
              have hMlt := HMq.out.lt
              clear n0 n1 n2
              generalize wr.alloc (.cells #[.int .i64 (x.p : Int), .int .i64 (x.n : Int), .int .i64 x.h] 87) = w8 at *
              have hlk := setI_out (HMq.out.below hb8) x.p (by omega) HFR.out
              obtain ⟨w9, hup, HS9, hg9⟩ := setI_put (HMq.out.below hb8) (by omega) x.p (by omega)
              have HS9i := Hid.mk (HS9.imp HIM.out)
              have HN9 := Hid.mk ((HNq.out.below hb8).kept hg9 (by simp))
              have HB9 := Hid.mk ((HBq.out.trans (hb8.mono HBq.out.size)).trans (below_row hg9 (Nat.le_succ _) (Nat.le_trans HBq.out.size hb8.size)))
              clear hg9 HS9 HNq HMq HBq hb8
              go_wp2
              go_roundw
              case rel => exact ⟨j + 1, q + 1, by omega, by go_num, by omega, HN9, HS9i, HB9⟩
              case measure => simp [intOf]; omega
            · obtain rfl : j = y.n2 := by omega
              have HPa : Hid (SetAt wr Tryz.prog 3 4 (w2.heap.size + 1) q (pSet s (i + 1))) := HMq.out.imp fun x => by
                rw [HPP.out x, HYI.out, List.take_of_length_le (by rw [hcyj.l2]; omega)]
              clear hcyj hs15
              go_wp2
              go_roundw
              case rel => exact ⟨i + 1, k, q, by omega, by go_num, by omega, by omega, HNq, HPa, HBq⟩
              case measure => simp [intOf]; omega
    · obtain rfl : i = v.ys.length := by omega
      have HBE := Hid.mk (Below.step HB.out (Below.step HB2.out HBr.out))
      go_wp2
      go_ret
      exact ⟨rfl, HBE.out⟩
end Go.Proofs.YtkcaheebaicinaaGreatDoor
