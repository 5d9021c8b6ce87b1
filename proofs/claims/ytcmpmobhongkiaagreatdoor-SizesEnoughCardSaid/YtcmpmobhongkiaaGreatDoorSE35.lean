/- texts of this claim, joined. -/
import Derived.Test.YtcmpmobhongkiaaGreatDoorSE0
import Derived.Test.YtcmpmobhongkiaaGreatDoorSE16
import Derived.Test.YtcmpmobhongkiaaGreatDoorSE31
import Derived.Test.YtcmpmobhongkiaaGreatDoorSE34
set_option linter.unusedVariables false
set_option linter.unusedSimpArgs false
namespace Go.Proofs.YtcmpmobhongkiaaGreatDoor
section
open Go.RowKit

theorem Pz (y z : Cc) (B : Nat) (W : World) (hB : B < W.heap.size) (hc : W.cell? ⟨B, 1, none⟩ = some (.int .i64 z.c.z)) :
  Calls Tryz.prog 84 (#[.agg (dP y).toArray] ++ #[.pointer (some ⟨B, 0, none⟩)]) W fun ev w' => ev = .returned (.bool (decide (y.c.z = z.c.z))) ∧ Below W.heap.size W w' := by
 show Calls Tryz.prog 84 #[.agg #[.slice y.a1 y.n1 y.c1, .int .i64 y.c.z, .int .i64 y.c.r, .int .i64 y.c.o, .slice y.a2 y.n2 y.c2, .slice y.a3 y.n3 y.c3], .pointer (some ⟨B, 0, none⟩)] W _
 have hb := aC W (.cells #[.slice y.a1 y.n1 y.c1, .int .i64 (y.c.z : Int), .int .i64 (y.c.r : Int), .int .i64 (y.c.o : Int), .slice y.a2 y.n2 y.c2, .slice y.a3 y.n3 y.c3] 94)
 have K := aY W #[.slice y.a1 y.n1 y.c1, .int .i64 (y.c.z : Int), .int .i64 (y.c.r : Int), .int .i64 (y.c.o : Int), .slice y.a2 y.n2 y.c2, .slice y.a3 y.n3 y.c3] 94
 have k1 := K 1
 simp only [gB, gC, gD] at k1
 have hc2 := (hb.cell (p := ⟨B, 1, none⟩) hB).trans hc
 have HB := gO hb
 clear hb K hc
 go_enter Tryz.func84, Tryz.ntmps84
 go_wp2
 go_ret
 exact ⟨aU (by rw [Bool.eq_iff_iff]; simp only [beq_iff_eq, decide_eq_true_eq]; omega), HB.out⟩

theorem PD {α : Type} {enc : α → List Value} {k : Nat} (hk : ∀ x, (enc x).length = k) {w : World} {a : Option Addr} {l : List α} (h : Row w a (flat enc l)) (i : Nat) : Row w a (flat enc (l.take i)) := fun j v hj => h j v (by
 rw [← dV hk, List.getElem?_take] at hj
 split at hj
 ·exact hj
 ·cases hj)
def yU (s : Sy) (i : Nat) (x : Lit) : Prop := ∃ c ∈ s.cs.take i, ∃ n ∈ c.ns, x = .string n
def yV (s : Sy) (i : Nat) (x : Lit) : Prop := ∃ c ∈ s.cs.take i, ∃ q ∈ c.sl, x = .int .i64 (q.p : Int)

set_option maxHeartbeats 8000000 in
set_option maxRecDepth 100000 in
theorem jK (v : Sc) (s : Sy) (w : World) (hs : oU w v s) (hk : fH s) (hf : ∀ c ∈ s.cs, c.ns.length ≤ 1000) :
  Calls Tryz.prog 38 #[.agg #[.slice v.a1 v.n1 v.c1, .slice v.hc.az 2 v.hc.cz, .slice v.hc.am 2 v.hc.cm, .int .i64 s.h.aF, .slice v.hc.al v.hc.lc.length v.hc.cl, .slice v.hc.av s.h.live.length v.hc.cv, .slice v.a2 v.ys.length v.c2]] w fun ev w' => ev = .returned (.int .i64 0) ∧ Below w.heap.size w w' := by
 obtain ⟨K0, F0, hsz, hbw⟩ := boxes1 w #[.slice v.a1 v.n1 v.c1, .slice v.hc.az 2 v.hc.cz, .slice v.hc.am 2 v.hc.cm, .int .i64 (s.h.aF : Int), .slice v.hc.al v.hc.lc.length v.hc.cl, .slice v.hc.av s.h.live.length v.hc.cv, .slice v.a2 v.ys.length v.c2] 47
 have HS := gO (hs.below hbw)
 have HB := gO hbw
 have HK := gO hk
 have HK0 := gO K0
 have hn1 : (v.n1 : Int) = 4096 := by rw [← hs.lw, hk.wl]; rfl
 have q1 : ((v.n1 : Int) != 4096) = false := by rw [hn1]; rfl
 have hyl : v.ys.length ≤ 20 := by have := congrArg List.length hs.cy; rw [List.length_map] at this; rw [this]; exact hk.cl
 have hyi : ¬ (20 : Int) < v.ys.length := by omega
 have Hy : s.h.live.length ≤ 1000 := gQ hk.hk.jV (by decide)
 have VA : v.hc.lc.length ≤ 1000 := by
  have h1 := congrArg List.length hs.hh.ll
  rw [List.length_map] at h1
  rw [h1]
  exact gQ hk.hk.rX (by decide)
 have MX := gO (fun (W : World) (hW : Below (w.alloc (.cells #[.slice v.a1 v.n1 v.c1, .slice v.hc.az 2 v.hc.cz, .slice v.hc.am 2 v.hc.cm, .int .i64 (s.h.aF : Int), .slice v.hc.al v.hc.lc.length v.hc.cl, .slice v.hc.av s.h.live.length v.hc.cv, .slice v.a2 v.ys.length v.c2] 47)).heap.size (w.alloc (.cells #[.slice v.a1 v.n1 v.c1, .slice v.hc.az 2 v.hc.cz, .slice v.hc.am 2 v.hc.cm, .int .i64 (s.h.aF : Int), .slice v.hc.al v.hc.lc.length v.hc.cl, .slice v.hc.av s.h.live.length v.hc.cv, .slice v.a2 v.ys.length v.c2] 47)) W) => BA _ _ _ _ v.hc.cz v.hc.cm v.hc.cl v.hc.cv _ _ _ _ _ s.h W ((hs.below hbw).hh.below hW) hk.hk VA Hy)
 obtain ⟨c0, c1, c2, c3, c4, c5, c6⟩ := gA7 K0
 have hmm := @run_makeMap Tryz.prog
 clear hs hbw K0 F0 hk
 go_enter Tryz.func38, Tryz.ntmps38
 go_upto_region 4 with (go_at_call 81; refine (MX.out _ (Below.refl _ _)).mono ?_; rintro ev w2 ⟨rfl, hb2⟩; have HB2 := gO hb2; have c6a := (hb2.cell (p := ⟨w.heap.size, 6, none⟩) hsz).trans c6)
 have hba := aC w2 (.map #[] 0)
 have hbb := aC (w2.alloc (.map #[] 0)) (.map #[] 0)
 have S1 := (dO.made w2 Tryz.prog 9 4).below hbb
 have S2 := dO.made (w2.alloc (.map #[] 0)) Tryz.prog 3 4
 have HB24 := gO (Below.step hba hbb)
 have hM2 : (w2.alloc (.map #[] 0)).heap.size = w2.heap.size + 1 := by simp
 rw [hM2] at S2
 have HS1 : Hid (dO _ Tryz.prog 9 4 w2.heap.size 0 (yU s 0)) := S1.imp fun x => ⟨fun h => h.elim, fun ⟨c, hc, _⟩ => by simp at hc⟩
 have HS2 : Hid (dO _ Tryz.prog 3 4 (w2.heap.size + 1) 0 (yV s 0)) := S2.imp fun x => ⟨fun h => h.elim, fun ⟨c, hc, _⟩ => by simp at hc⟩
 clear S1 S2 hba hbb hM2 hmm c0 c1 c2 c3 c4 c5 MX q1
 generalize (w2.alloc (.map #[] 0)).alloc (.map #[] 0) = w4 at *
 have hs2 := HB2.out.size
 have hs4 := HB24.out.size
 have hBs : w.heap.size < w2.heap.size := gI hsz hs2
 have c6b := (HB24.out.cell (p := ⟨w.heap.size, 6, none⟩) hBs).trans c6a
 clear c6 c6a
 go_wp2_with fail
 clear c6b
 go_loopw [32] (fun s32 wr => ∃ (i n m : Nat), i ≤ v.ys.length ∧ s32 = .int .i64 (i : Int) ∧ n ≤ 1000 * i ∧ m ≤ 256 * i ∧ Hid (dO wr Tryz.prog 9 4 w2.heap.size n (yU s i)) ∧ Hid (dO wr Tryz.prog 3 4 (w2.heap.size + 1) m (yV s i)) ∧ Hid (Below w2.heap.size w2 wr)) (fun s32 _ => v.ys.length - (intOf s32).toNat)
 case atStart => exact ⟨0, 0, 0, Nat.zero_le _, rfl, Nat.zero_le _, Nat.zero_le _, HS1, HS2, HB24⟩
 case round =>
  obtain ⟨i, n, m, hi, rfl, hn, hm, HN, HM, oJ⟩ := hrel
  by_cases hlt : i < v.ys.length
  ·have Hr : (i : Int) < v.ys.length := by omega
   have hic : i < s.cs.length := by rw [← HS.out.cy, List.length_map]; exact hlt
   have hel : v.ys[i].c = s.cs[i] := by
    have h1 := congrArg (·[i]?) HS.out.cy
    simp [hlt, hic] at h1
    exact h1
   have l7 := gO (HS.out.below (HB2.out.trans (oJ.out.mono hs2)))
   obtain ⟨bb, off, hba, hbb, hbc⟩ := aK dR (by decide) l7.out.rc hlt
   have hcy := l7.out.ca _ (gL hlt)
   have hck : nP s v.ys[i].c := by rw [hel]; exact HK.out.ck _ (gL hic)
   have Uz : v.ys[i].c.ns.length ≤ 1000 := by rw [hel]; exact hf _ (gL hic)
   have hzd : ((v.ys.take i).any fun z => decide (z.c.z = v.ys[i].c.z)) = false := by
    rw [List.any_eq_false]
    intro z hz
    obtain ⟨m, hm, e⟩ := List.mem_take_iff_getElem.1 hz
    have hmc : m < s.cs.length := by omega
    have h1 : v.ys[m].c = s.cs[m] := by
     have h2 := congrArg (·[m]?) HS.out.cy
     simp [show m < v.ys.length by omega, hmc] at h2
     exact h2
    have h2 := List.pairwise_iff_getElem.1 HK.out.zd m i hmc hic (by omega)
    rw [← e, h1, hel]
    simpa using h2
   have hSS : ∀ x, yU s (i + 1) x ↔ (yU s i x ∨ ∃ n ∈ v.ys[i].c.ns, x = .string n) := fun x => by
    unfold yU
    rw [List.take_succ_eq_append_getElem hic, ← hel]
    simp only [List.mem_append, List.mem_singleton]
    constructor
    ·rintro ⟨c, hc | rfl, h⟩
     ·exact .inl ⟨c, hc, h⟩
     ·exact .inr h
    ·rintro (⟨c, hc, h⟩ | h)
     ·exact ⟨c, .inl hc, h⟩
     ·exact ⟨_, .inr rfl, h⟩
   have Uc : ∀ x, yV s (i + 1) x ↔ (yV s i x ∨ ∃ q ∈ v.ys[i].c.sl, x = .int .i64 (q.p : Int)) := fun x => by
    unfold yV
    rw [List.take_succ_eq_append_getElem hic, ← hel]
    simp only [List.mem_append, List.mem_singleton]
    constructor
    ·rintro ⟨c, hc | rfl, h⟩
     ·exact .inl ⟨c, hc, h⟩
     ·exact .inr h
    ·rintro (⟨c, hc, h⟩ | h)
     ·exact ⟨c, .inl hc, h⟩
     ·exact ⟨_, .inr rfl, h⟩
   have VB := gO hSS
   have HPP := gO Uc
   obtain ⟨e0, e1, e2, e3, e4, e5⟩ := kQ hbc
   have Xy : Hid ((v.ys.take i).length = i) := by unfold Hid; rw [List.length_take]; omega
   obtain ⟨y, hy⟩ : ∃ y, v.ys[i] = y := ⟨_, rfl⟩
   rw [hy] at e0 e1 e2 e3 e4 e5 hcy hck Uz hzd
   have HA := gO hba
   have WV := gO hy
   rw [hba]
   clear hbc hba hel hSS Uc hy
   go_upto_region 7 with fail
   have hb5 := aC wr (.cells #[.slice y.a1 y.n1 y.c1, .int .i64 (y.c.z : Int), .int .i64 (y.c.r : Int), .int .i64 (y.c.o : Int), .slice y.a2 y.n2 y.c2, .slice y.a3 y.n3 y.c3] 94)
   have K6 := aY wr #[.slice y.a1 y.n1 y.c1, .int .i64 (y.c.z : Int), .int .i64 (y.c.r : Int), .int .i64 (y.c.o : Int), .slice y.a2 y.n2 y.c2, .slice y.a3 y.n3 y.c3] 94
   have hs6 := Jv wr (.cells #[.slice y.a1 y.n1 y.c1, .int .i64 (y.c.z : Int), .int .i64 (y.c.r : Int), .int .i64 (y.c.o : Int), .slice y.a2 y.n2 y.c2, .slice y.a3 y.n3 y.c3] 94)
   have aA9 := HM.out.lt
   have HN5 := gO (HN.out.below hb5)
   have HM5 := gO (HM.out.below hb5)
   have HB5 := gO (Below.step oJ.out hb5)
   have HS5 := gO (l7.out.below hb5)
   have HY5 := gO (hcy.below hb5)
   clear hb5 HN HM oJ l7 hcy e0 e1 e2 e3 e4 e5 hbb
   obtain ⟨we, rfl⟩ : ∃ we, we = wr := ⟨_, rfl⟩
   generalize we.alloc (.cells #[.slice y.a1 y.n1 y.c1, .int .i64 (y.c.z : Int), .int .i64 (y.c.r : Int), .int .i64 (y.c.o : Int), .slice y.a2 y.n2 y.c2, .slice y.a3 y.n3 y.c3] 94) = w5 at *
   obtain ⟨BC, Yo⟩ : ∃ B, we.heap.size = B := ⟨_, rfl⟩
   rw [Yo] at K6 hs6 aA9 ⊢
   clear Yo
   have VD := HB2.out.trans (HB5.out.mono hs2)
   have k0 := aB HK0.out hsz VD
   have c0 := k0 0
   have c1 := k0 1
   have c2 := k0 2
   have c3 := k0 3
   have c4 := k0 4
   have c5 := k0 5
   have c6 := k0 6
   have g0 := K6 0
   have g1 := K6 1
   have g2 := K6 2
   have g3 := K6 3
   have g4 := K6 4
   have g5 := K6 5
   simp only [gB, gC, gD] at c0 c1 c2 c3 c4 c5 c6 g0 g1 g2 g3 g4 g5
   have hcall := Py v s y w5 HS5.out HK.out.hk HK.out.wl HY5.out hck
   have HC1 := gO hcall
   have eg : ∀ args w, (callFunc 84 args).run Tryz.prog w = .ok (.enter 84 args) w := enters_of Tryz.func84 (by kernel_rfl) rfl
   have hkc := HS5.out.kc
   have HC2 : Hid (∀ W, Below w5.heap.size w5 W → Calls Tryz.prog 83 #[.slice (some ⟨bb, off, none⟩) i v.c2, .func (.func 84) #[] #[.pointer (some ⟨BC, 0, none⟩)]] W fun ev w' => ev = .returned (.bool false) ∧ Below W.heap.size W w') := fun W hW => by
    have h9 := pX v.a2 i v.c2 (v.ys.take i) 84 #[.pointer (some ⟨BC, 0, none⟩)] (fun z => decide (z.c.z = y.c.z)) W Xy.out (by omega) (PD dR (HS5.out.rc.below hW) i) eg (fun W2 hW2 z hz => Pz z y BC W2 (gI (gI hs6 hW.size) hW2.size) ((hW2.cell (p := ⟨BC, 1, none⟩) (gI hs6 hW.size)).trans ((hW.cell (p := ⟨BC, 1, none⟩) hs6).trans g1)))
    rw [hzd, HA.out] at h9
    exact h9
   have aEN : (i : Int) ≤ v.c2 := by omega
   have aEO : i ≤ v.c2 := by omega
   have aBa : w.heap.size < w5.heap.size := gI hsz VD.size
   rw [HA.out] at c6 HC1
   clear hcall eg hzd k0
   go_upto_region 9 with (first | (go_at_call 82; refine HC1.out.mono ?_; rintro ev w6 ⟨rfl, hb6⟩; have c6b := (hb6.cell (p := ⟨w.heap.size, 6, none⟩) aBa).trans c6) | (go_at_call 83; refine (HC2.out _ hb6).mono ?_; rintro ev w7 ⟨rfl, hb7⟩))
   have Ih := Below.step hb6 hb7
   have HN7 := gO (HN5.out.below Ih)
   have HM7 := gO (HM5.out.below Ih)
   have HB7 := gO (Below.step HB5.out Ih)
   have HY7 := gO (HY5.out.below Ih)
   have K7 := aB K6 hs6 Ih
   have hs7 := gI hs6 Ih.size
   clear HC1 HC2 hb6 hb7 Ih c0 c1 c2 c3 c4 c5 c6 c6b g0 g1 g2 g3 g4 g5 HN5 HM5 HB5 HS5 HY5 K6 hs6 VD
   have HK7 := gO K7
   have k0 := K7 0
   simp only [gB, gC, gD] at k0
   have hn1 : y.n1 ≤ 1000 := by rw [← HY7.out.l1]; exact Uz
   clear K7
   go_wp2_with fail
   clear k0
   obtain ⟨wo, rfl⟩ : ∃ wo, wo = w7 := ⟨_, rfl⟩
   go_loopw [52] (fun s52 wr => ∃ (j k : Nat), j ≤ y.n1 ∧ s52 = .int .i64 (j : Int) ∧ k ≤ 1000 * i + j ∧ Hid (dO wr Tryz.prog 9 4 w2.heap.size k (fun x => yU s i x ∨ ∃ n ∈ y.c.ns.take j, x = .string n)) ∧ Hid (dO wr Tryz.prog 3 4 (w2.heap.size + 1) m (yV s i)) ∧ Hid (∀ o, wr.cell? ⟨BC, o, none⟩ = (#[.slice y.a1 y.n1 y.c1, .int .i64 (y.c.z : Int), .int .i64 (y.c.r : Int), .int .i64 (y.c.o : Int), .slice y.a2 y.n2 y.c2, .slice y.a3 y.n3 y.c3] : Array Value)[o]?) ∧ BC < wr.heap.size ∧ Hid (Below w2.heap.size w2 wr)) (fun s52 _ => y.n1 - (intOf s52).toNat)
   case atStart => exact ⟨0, n, Nat.zero_le _, rfl, by omega, HN7.out.imp fun x => ⟨.inl, fun h => h.resolve_right (by rintro ⟨n, hn, _⟩; simp at hn)⟩, HM7, HK7, hs7, HB7⟩
   case round =>
    obtain ⟨j, k, hj, rfl, hkn, LX, PE, zQ, hsj, oZ⟩ := hrel
    have ET := HB2.out.trans (oZ.out.mono hs2)
    have qW := (HS.out.below ET).ca _ (gL hlt)
    rw [WV.out] at qW
    by_cases hjl : j < y.n1
    ·have hji : (j : Int) < y.n1 := by omega
     have hjn : j < y.c.ns.length := by rw [qW.l1]; exact hjl
     obtain ⟨b1, o1, hb1, RN, LY⟩ := aK aV (by decide) qW.r1 hjn
     have n0 := lM LY
     have hnm : nameB y.c.ns[j] = true := hck.nm _ (gL hjn)
     have hl8 : y.c.ns[j].length ≤ 8 := by
      unfold nameB at hnm
      simp only [Bool.and_eq_true, decide_eq_true_eq] at hnm
      exact hnm.1.2
     have hfresh : ¬ (yU s i (.string y.c.ns[j]) ∨ ∃ n ∈ y.c.ns.take j, (Lit.string y.c.ns[j]) = .string n) := by
      rintro (⟨c, hc, n, hn, e⟩ | ⟨n, hn, e⟩)
      ·obtain ⟨m, hm, e2⟩ := List.mem_take_iff_getElem.1 hc
       have hmc : m < s.cs.length := by omega
       have h2 := List.pairwise_iff_getElem.1 HK.out.nd m i hmc hic (by omega)
       have e3 : y.c = s.cs[i] := by
        have h1 := congrArg (·[i]?) HS.out.cy
        simp [hlt, hic] at h1
        rw [← h1, WV.out]
       refine h2 n (by rw [e2]; exact hn) ?_
       rw [← e3]
       obtain rfl : y.c.ns[j] = n := by simpa using e
       exact gL hjn
      ·obtain ⟨m, hm, e2⟩ := List.mem_take_iff_getElem.1 hn
       have h2 := List.pairwise_iff_getElem.1 hck.nr m j (by omega) hjn (by omega)
       obtain e3 : y.c.ns[j] = n := by simpa using e
       rw [e3, e2, Oe] at h2
       cases h2
     have ZU : Hid (∀ x, (x = Lit.string y.c.ns[j] ∨ (yU s i x ∨ ∃ n ∈ y.c.ns.take j, x = .string n)) ↔ (yU s i x ∨ ∃ n ∈ y.c.ns.take (j + 1), x = .string n)) := fun x => by
      rw [List.take_succ_eq_append_getElem hjn]
      simp only [List.mem_append, List.mem_singleton]
      constructor
      ·rintro (h | h | ⟨n, hn, h⟩)
       ·exact .inr ⟨_, .inr rfl, h⟩
       ·exact .inl h
       ·exact .inr ⟨n, .inl hn, h⟩
      ·rintro (h | ⟨n, hn | rfl, h⟩)
       ·exact .inr (.inl h)
       ·exact .inr (.inr ⟨n, hn, h⟩)
       ·exact .inl h
     have hname : Hid (∀ W, Calls Tryz.prog 64 #[.string ⟨y.c.ns[j].toArray⟩] W fun ev w' => ev = .returned (.bool true) ∧ Below W.heap.size W w') := fun W => by
      have h := En y.c.ns[j] W (by omega)
      rw [hnm] at h
      exact h
     have g0 := zQ.out 0
     simp only [gB, gC, gD] at g0
     have MV := gO hfresh
     by_cases hj0 : 0 < j
     ·have hjp : j - 1 < y.c.ns.length := by omega
      obtain ⟨b2, o2, hb2, _, Yp⟩ := aK aV (by decide) qW.r1 hjp
      have n1 := lM Yp
      rw [hb1] at hb2
      obtain ⟨rfl, rfl⟩ : b1 = b2 ∧ o1 = o2 := by simpa using hb2
      have hlt1 := List.pairwise_iff_getElem.1 hck.nr (j - 1) j hjp hjn (by omega)
      have q1 := QV hlt1
      have e1 : ((j - 1 : Nat) : Int) = (j : Int) - 1 := by omega
      generalize y.c.ns[j - 1] = l1 at *
      generalize y.c.ns[j] = l at *
      rw [hb1] at g0 ⊢
      clear LY Yp hb2 qW hfresh RN ET
      rw [Nat.mul_one] at n0 n1
      have hj1 : ((j : Int) - 1).toNat = j - 1 := by omega
      have hj2 : (0 : Int) ≤ (j : Int) - 1 := by omega
      have hj3 : (j : Int) - 1 < y.n1 := by omega
      have hzj : (0 : Int) < j := by omega
      have Yq := World.block_lt_of_cell? _ _ n1
      clear hnm hjn hjp q1
      go_upto_region 12 with fail
      go_upto_region 14 with (go_at_call 64; refine (hname.out _).mono ?_; rintro ev w8 ⟨rfl, hb8⟩; have hlk := Eh (LX.out.below hb8) l (by omega) MV.out; unfold sV at hlk; have g8 := (hb8.cell (p := ⟨BC, 0, none⟩) hsj).trans g0; have n8 := (hb8.cell (p := ⟨b1, o1 + (j - 1), none⟩) Yq).trans n1; have hge := Kw w8 hlt1)
      clear hlk g8 n8 g0 n0 n1 hge hlt1
      obtain ⟨w9, hup, HS9, hg9⟩ := Ei (LX.out.below hb8) (by omega) l (by omega)
      unfold sV at hup
      have PG := gO (HS9.imp ZU.out)
      have HM9 := gO ((PE.out.below hb8).kept hg9 (by simp))
      have hs8 : w2.heap.size ≤ w8.heap.size := gQ oZ.out.size hb8.size
      have HK9 := gO (Jd (aB zQ.out hsj hb8) hg9 (gI hsj hb8.size) (by omega))
      have hs9 := gI (gI hsj hb8.size) hg9.size
      have HB9 := gO ((oZ.out.trans (hb8.mono oZ.out.size)).trans (uX hg9 (Nat.le_refl _) hs8))
      clear hg9 HS9 LX PE zQ oZ hb8 hsj
      go_wp2
      go_roundw
      case rel => exact ⟨j + 1, k + 1, by omega, by go_num, by omega, PG, HM9, (by rw [hb1] at HK9; exact HK9), hs9, HB9⟩
      case measure => simp [intOf]; omega
     ·obtain rfl : j = 0 := by omega
      generalize y.c.ns[0] = l at *
      rw [hb1] at g0 ⊢
      simp only [Nat.zero_mul, Nat.add_zero] at n0
      have Yq := World.block_lt_of_cell? _ _ n0
      clear LY qW hfresh RN ET hnm hjn hj0
      go_upto_region 12 with fail
      go_upto_region 14 with (go_at_call 64; refine (hname.out _).mono ?_; rintro ev w8 ⟨rfl, hb8⟩; have hlk := Eh (LX.out.below hb8) l (by omega) MV.out; unfold sV at hlk; have g8 := (hb8.cell (p := ⟨BC, 0, none⟩) hsj).trans g0)
      clear hlk g8 g0 n0
      obtain ⟨w9, hup, HS9, hg9⟩ := Ei (LX.out.below hb8) (by omega) l (by omega)
      unfold sV at hup
      have PG := gO (HS9.imp ZU.out)
      have HM9 := gO ((PE.out.below hb8).kept hg9 (by simp))
      have hs8 : w2.heap.size ≤ w8.heap.size := gQ oZ.out.size hb8.size
      have HK9 := gO (Jd (aB zQ.out hsj hb8) hg9 (gI hsj hb8.size) (by omega))
      have hs9 := gI (gI hsj hb8.size) hg9.size
      have HB9 := gO ((oZ.out.trans (hb8.mono oZ.out.size)).trans (uX hg9 (Nat.le_refl _) hs8))
      clear hg9 HS9 LX PE zQ oZ hb8 hsj
      go_wp2
      go_roundw
      case rel => exact ⟨0 + 1, k + 1, by omega, by go_num, by omega, PG, HM9, (by rw [hb1] at HK9; exact HK9), hs9, HB9⟩
      case measure => simp [intOf]; omega
    ·obtain rfl : j = y.n1 := by omega
     have k4 := zQ.out 4
     simp only [gB, gC, gD] at k4
     have hn2 : y.n2 ≤ 256 := by rw [← qW.l2]; exact hck.nR HK.out.hk
     have HNa : Hid (dO wr Tryz.prog 9 4 w2.heap.size k (yU s (i + 1))) := LX.out.imp fun x => by
      rw [VB.out x, WV.out, List.take_of_length_le (by rw [qW.l1]; omega)]
     obtain ⟨wn, rfl⟩ : ∃ wn, wn = wr := ⟨_, rfl⟩
     clear ET qW LX hj hjl
     go_wp2_with fail
     clear k4
     go_loopw [85] (fun s85 wr => ∃ (j q : Nat), j ≤ y.n2 ∧ s85 = .int .i64 (j : Int) ∧ q ≤ 256 * i + j ∧ Hid (dO wr Tryz.prog 9 4 w2.heap.size k (yU s (i + 1))) ∧ Hid (dO wr Tryz.prog 3 4 (w2.heap.size + 1) q (fun x => yV s i x ∨ ∃ z ∈ y.c.sl.take j, x = .int .i64 (z.p : Int))) ∧ Hid (Below w2.heap.size w2 wr)) (fun s85 _ => y.n2 - (intOf s85).toNat)
     case atStart => exact ⟨0, m, Nat.zero_le _, rfl, by omega, HNa, PE.out.imp fun x => ⟨.inl, fun h => h.resolve_right (by rintro ⟨n, hn, _⟩; simp at hn)⟩, oZ⟩
     case round =>
      clear PE zQ oZ HNa
      obtain ⟨j, q, hj, rfl, hq, HNq, Jr, lZ⟩ := hrel
      have ET := HB2.out.trans (lZ.out.mono hs2)
      have qW := (HS.out.below ET).ca _ (gL hlt)
      rw [WV.out] at qW
      by_cases hjl : j < y.n2
      ·have hji : (j : Int) < y.n2 := by omega
       have hjn : j < y.c.sl.length := by rw [qW.l2]; exact hjl
       obtain ⟨b1, o1, hb1, RN, LY⟩ := aK aO (by decide) qW.r2 hjn
       obtain ⟨n0, n1, n2⟩ := gX LY
       have hp := (hck.sk _ (gL hjn)).zV HK.out.hk
       have e3 : y.c = s.cs[i] := by
        have h1 := congrArg (·[i]?) HS.out.cy
        simp [hlt, hic] at h1
        rw [← h1, WV.out]
       have hfresh : ¬ (yV s i (.int .i64 (y.c.sl[j].p : Int)) ∨ ∃ z ∈ y.c.sl.take j, (Lit.int .i64 (y.c.sl[j].p : Int)) = .int .i64 (z.p : Int)) := by
        rintro (⟨c, hc, n, hn, e⟩ | ⟨n, hn, e⟩)
        ·obtain ⟨m, hm, e2⟩ := List.mem_take_iff_getElem.1 hc
         have hmc : m < s.cs.length := by omega
         have h2 := List.pairwise_iff_getElem.1 HK.out.pd m i hmc hic (by omega)
         refine h2 n (by rw [e2]; exact hn) y.c.sl[j] (by rw [← e3]; exact gL hjn) ?_
         have e4 : (y.c.sl[j].p : Int) = n.p := by simpa using e
         omega
        ·obtain ⟨m, hm, e2⟩ := List.mem_take_iff_getElem.1 hn
         have h2 := List.pairwise_iff_getElem.1 hck.sr m j (by omega) hjn (by omega)
         have e4 : (y.c.sl[j].p : Int) = n.p := by simpa using e
         rw [e2] at h2
         omega
       have ZU : Hid (∀ x, (x = Lit.int .i64 (y.c.sl[j].p : Int) ∨ (yV s i x ∨ ∃ z ∈ y.c.sl.take j, x = .int .i64 (z.p : Int))) ↔ (yV s i x ∨ ∃ z ∈ y.c.sl.take (j + 1), x = .int .i64 (z.p : Int))) := fun x => by
        rw [List.take_succ_eq_append_getElem hjn]
        simp only [List.mem_append, List.mem_singleton]
        constructor
        ·rintro (h | h | ⟨n, hn, h⟩)
         ·exact .inr ⟨_, .inr rfl, h⟩
         ·exact .inl h
         ·exact .inr ⟨n, .inl hn, h⟩
        ·rintro (h | ⟨n, hn | rfl, h⟩)
         ·exact .inr (.inl h)
         ·exact .inr (.inr ⟨n, hn, h⟩)
         ·exact .inl h
       have MV := gO hfresh
       generalize y.c.sl[j] = x at *
       rw [hb1]
       clear LY hfresh RN ET qW hjn e3
       go_upto_region 19 with fail
       have hb8 := aC wr (.cells #[.int .i64 (x.p : Int), .int .i64 (x.n : Int), .int .i64 x.h] 137)
       have c0 := aY wr #[.int .i64 (x.p : Int), .int .i64 (x.n : Int), .int .i64 x.h] 137 0
       simp only [gB, gC, gD] at c0
       have hss : wr.heap.size < (wr.alloc (.cells #[.int .i64 (x.p : Int), .int .i64 (x.n : Int), .int .i64 x.h] 137)).heap.size := by simp
       have aEP := Jr.out.lt
       clear n0 n1 n2
       generalize wr.alloc (.cells #[.int .i64 (x.p : Int), .int .i64 (x.n : Int), .int .i64 x.h] 137) = w8 at *
       have hlk := Og (Jr.out.below hb8) x.p (by omega) MV.out
       obtain ⟨w9, hup, HS9, hg9⟩ := Oh (Jr.out.below hb8) (by omega) x.p (by omega)
       have PG := gO (HS9.imp ZU.out)
       have HN9 := gO ((HNq.out.below hb8).kept hg9 (by simp))
       have HB9 := gO ((lZ.out.trans (hb8.mono lZ.out.size)).trans (uX hg9 (Nat.le_succ _) (gQ lZ.out.size hb8.size)))
       clear hg9 HS9 HNq Jr lZ hb8
       go_wp2
       go_roundw
       case rel => exact ⟨j + 1, q + 1, by omega, by go_num, by omega, HN9, PG, HB9⟩
       case measure => simp [intOf]; omega
      ·obtain rfl : j = y.n2 := by omega
       have HPa : Hid (dO wr Tryz.prog 3 4 (w2.heap.size + 1) q (yV s (i + 1))) := Jr.out.imp fun x => by
        rw [HPP.out x, WV.out, List.take_of_length_le (by rw [qW.l2]; omega)]
       clear qW ET
       go_wp2
       go_roundw
       case rel => exact ⟨i + 1, k, q, by omega, by go_num, by omega, by omega, HNq, HPa, lZ⟩
       case measure => simp [intOf]; omega
  ·obtain rfl : i = v.ys.length := by omega
   have HBE := gO (Below.step HB.out (Below.step HB2.out oJ.out))
   go_wp2
   go_ret
   exact ⟨rfl, HBE.out⟩
end
end Go.Proofs.YtcmpmobhongkiaaGreatDoor
