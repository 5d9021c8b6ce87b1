/- texts of this claim, joined. -/
import Derived.Test.YtcmpmobhongkiaaGreatDoorSE0
import Derived.Test.YtcmpmobhongkiaaGreatDoorSE10
import Derived.Test.YtcmpmobhongkiaaGreatDoorSE19
import Derived.Test.YtcmpmobhongkiaaGreatDoorSE30
import Derived.Test.YtcmpmobhongkiaaGreatDoorSE32
import Derived.Test.YtcmpmobhongkiaaGreatDoorSE4
set_option linter.unusedVariables false
set_option linter.unusedSimpArgs false
namespace Go.Proofs.YtcmpmobhongkiaaGreatDoor
section
theorem eY.erase {h : Hp} (hk : eY h) {i : Nat} (hi : i < h.live.length) :
  eY { h with live := h.live.eraseIdx i } ∧ ∀ q, cnt ({ h with live := h.live.eraseIdx i } : Hp).all q + hit ⟨h.live[i].a, h.live[i].o, 0⟩ q = cnt h.all q := by
 have hce : ∀ q, cnt ({ h with live := h.live.eraseIdx i } : Hp).all q + hit ⟨h.live[i].a, h.live[i].o, 0⟩ q = cnt h.all q := fun q => by
  have h1 := AV hi q
  have h2 : hit ⟨h.live[i].a, h.live[i].o, 0⟩ q = hit h.live[i] q := rfl
  rw [dM, dM, h2]
  simp only
  omega
 exact ⟨⟨hk.o0, hk.o1, hk.f0, hk.e0, hk.e1, hk.m0, hk.m1, hk.cp, hk.lk, hk.lr, fun b hb => hk.lv b ((List.eraseIdx_sublist _ _).subset hb), hk.vs.sublist (List.eraseIdx_sublist _ _), fun q => by have := hce q; have := hk.one q; omega⟩, hce⟩
def Hp.typ (h : Hp) (p : Nat) : Nat := (h.zone (h.lU p)).y.getD ((p - (h.zone (h.lU p)).f) / 8) 0
end
section
structure Ah (h0 h : Hp) (away : List Bk) : Prop where
 ok : eY h
 same : Same h0 h
 cn : ∀ q, cnt h.all q = cnt h0.all q
 lv : (away.map DV).Perm (h.live.map DV)
 t0 : ∀ b ∈ away, b.t = 0
theorem Ju : ∀ {l : List Bk} {k N : Nat}, nN l → (∀ x ∈ l, k ≤ x.a ∧ x.a < N) → l.length + k ≤ N ∨ l = []
 | [], _, _, _, _ => .inr rfl
 | c :: m, k, N, q1, q2 => by
  have q3 := List.pairwise_cons.1 q1
  have q4 := q2 c (by simp)
  rcases Ju (k := c.a + 1) (N := N) q3.2 fun x hx => ⟨q3.1 x hx, (q2 x (by simp [hx])).2⟩ with q5 | rfl
  ·simp only [List.length_cons]; exact .inl (by omega)
  ·simp only [List.length_cons, List.length_nil]; exact .inl (by omega)
theorem eY.jV {h : Hp} (hk : eY h) : h.live.length ≤ 256 := by
 rcases Ju (k := 0) (N := 256) hk.vs fun x hx => ⟨Nat.zero_le _, (hk.lv x hx).1.2.2.1⟩ with h1 | h1
 ·omega
 ·rw [h1]; exact Nat.zero_le _
theorem Ah.len {h0 h : Hp} {away : List Bk} (hp : Ah h0 h away) : away.length = h.live.length ∧ away.length ≤ 256 := by
 have h1 := hp.lv.length_eq
 have h2 := hp.ok.jV
 simp only [List.length_map] at h1
 omega
theorem Ah.start {h0 : Hp} (hk : eY h0) (hl : h0.live = []) : Ah h0 h0 [] := ⟨hk, Same.refl h0, fun _ => rfl, by rw [hl], by simp⟩
theorem Ah.drain {h0 h : Hp} {away : List Bk} (hp : Ah h0 h away) : Ah h0 h.drain away := by
 obtain ⟨k1, k2, k3, k4, k5⟩ := hp.ok.drain
 exact ⟨k1, hp.same.trans k3, fun q => by rw [k2, hp.cn], by rw [k5]; exact hp.lv, hp.t0⟩
theorem Ah.alloc {h0 h h' : Hp} {away : List Bk} (hp : Ah h0 h away) {cpu order t a : Nat} {u lo : Bool} (hc : cpu < h0.aF) (ho : order ≤ 4) (ht : t < 3) (he : h.alloc cpu order t u lo = some (h', a)) : Ah h0 h' (away ++ [⟨a, order, 0⟩]) := by
 obtain ⟨k1, k2, k3, k4, k5⟩ := hp.ok.alloc (by rw [hp.same.aF]; exact hc) ho ht he
 refine ⟨k1, hp.same.trans k3, fun q => by rw [k2, hp.cn], ?_, fun b hb => ?_⟩
 ·rw [k4, List.map_append]
  unfold bC
  rw [List.map_append, List.map_cons]
  have p1 : ((List.map DV (h.live.take (lb h.live a))) ++ DV ⟨a, order, t⟩ :: List.map DV (h.live.drop (lb h.live a))).Perm (DV ⟨a, order, t⟩ :: (List.map DV (h.live.take (lb h.live a)) ++ List.map DV (h.live.drop (lb h.live a)))) := List.perm_middle
  rw [← List.map_append, List.take_append_drop] at p1
  refine List.Perm.trans ?_ p1.symm
  refine (List.perm_append_comm).trans ?_
  exact List.Perm.cons _ hp.lv
 ·rcases List.mem_append.1 hb with h1 | h1
  ·exact hp.t0 b h1
  ·rw [List.mem_singleton.1 h1]
end
section
open Go.RowKit

theorem Jv (w : World) (o : Obj) : w.heap.size < (w.alloc o).heap.size := by simp
theorem pF.at {s : Sy} {c : Ca} {x : Sl} (h : pF s c x) (hk : eY s.h) : ∃ hi : lb s.h.live x.p < s.h.live.length, s.h.live[lb s.h.live x.p].o = c.o ∧ hasB s.h.live x.p = true := by
 obtain ⟨b, hb, h1, h2⟩ := h.live
 have h3 := mJ hk.vs hb
 rw [h1] at h3
 obtain ⟨hi, h4⟩ := List.getElem?_eq_some_iff.1 h3
 exact ⟨hi, by rw [h4]; exact h2, List.any_eq_true.2 ⟨b, hb, decide_eq_true h1⟩⟩

set_option maxHeartbeats 8000000 in
set_option maxRecDepth 100000 in
theorem Py (v : Sc) (s : Sy) (y : Cc) (w : World) (hs : oU w v s) (hk : eY s.h) (hw : s.w.length = 4096) (hy : CB w y) (hc : nP s y.c) :
  Calls Tryz.prog 82 #[.agg #[.slice v.a1 v.n1 v.c1, .slice v.hc.az 2 v.hc.cz, .slice v.hc.am 2 v.hc.cm, .int .i64 s.h.aF, .slice v.hc.al v.hc.lc.length v.hc.cl, .slice v.hc.av s.h.live.length v.hc.cv, .slice v.a2 v.ys.length v.c2], .agg #[.slice y.a1 y.n1 y.c1, .int .i64 y.c.z, .int .i64 y.c.r, .int .i64 y.c.o, .slice y.a2 y.n2 y.c2, .slice y.a3 y.n3 y.c3]] w fun ev w' => ev = .returned (.bool true) ∧ Below w.heap.size w w' := by
 obtain ⟨K0, K1, F0, F1, hsz, hbw⟩ := boxes2 w #[.slice v.a1 v.n1 v.c1, .slice v.hc.az 2 v.hc.cz, .slice v.hc.am 2 v.hc.cm, .int .i64 (s.h.aF : Int), .slice v.hc.al v.hc.lc.length v.hc.cl, .slice v.hc.av s.h.live.length v.hc.cv, .slice v.a2 v.ys.length v.c2] 47 #[.slice y.a1 y.n1 y.c1, .int .i64 (y.c.z : Int), .int .i64 (y.c.r : Int), .int .i64 (y.c.o : Int), .slice y.a2 y.n2 y.c2, .slice y.a3 y.n3 y.c3] 94
 have HS := gO (hs.below hbw)
 have HY := gO (hy.below hbw)
 have HB := gO hbw
 have HK := gO hk
 have HC := gO hc
 have HK0 := gO K0
 have HK1 := gO K1
 have hz := hc.z
 have ho := hc.o
 have hr := hc.r
 have hn2 : y.n2 ≤ 256 := by rw [← hy.l2]; exact hc.nR hk
 have hn3 : y.n3 = s.h.aF := by rw [← hy.l3]; exact hc.ac
 have hcp := hk.cp
 have aEC : y.n3 ≤ 4 := by rw [hn3]; exact hk.cp.2
 have hlv := hs.hh.nv
 have hn1 : 0 < y.n1 := by rw [← hy.l1]; exact List.length_pos_iff.2 hc.ns
 have c0 := K0 3
 have c1 := K1 0
 have c2 := K1 1
 have c3 := K1 2
 have c4 := K1 3
 have c5 := K1 5
 have c6 := K1 4
 simp only [gB, gC, gD] at c0 c1 c2 c3 c4 c5 c6
 have q1 : ((y.c.o : Int) != (dQ y.c.z : Nat)) = false := by rw [ho]; simp
 have q2 : ((y.c.r : Int) != (eH y.c.z : Nat)) = false := by rw [hr]; simp
 have q3 : ((y.n1 : Int) == 0) = false := by rw [beq_eq_false_iff_ne]; omega
 have q4 : ((y.n3 : Int) != (s.h.aF : Int)) = false := by rw [hn3]; simp
 have HOO := gO ho
 have HRR := gO hr
 clear hs hy hbw K0 K1 F0 F1 hk hc ho hr hn3
 go_enter Tryz.func82, Tryz.ntmps82
 go_wp2_with fail
 generalize (w.alloc (.cells #[.slice v.a1 v.n1 v.c1, .slice v.hc.az 2 v.hc.cz, .slice v.hc.am 2 v.hc.cm, .int .i64 (s.h.aF : Int), .slice v.hc.al v.hc.lc.length v.hc.cl, .slice v.hc.av s.h.live.length v.hc.cv, .slice v.a2 v.ys.length v.c2] 47)).alloc (.cells #[.slice y.a1 y.n1 y.c1, .int .i64 (y.c.z : Int), .int .i64 (y.c.r : Int), .int .i64 (y.c.o : Int), .slice y.a2 y.n2 y.c2, .slice y.a3 y.n3 y.c3] 94) = w2 at *
 refine (yT y.c.z w2 hz.1 hz.2).mono ?_
 rintro ev _ ⟨rfl, rfl⟩
 go_wp2_with fail
 go_loopw [55] (fun s55 wr => ∃ i : Nat, i ≤ y.n2 ∧ s55 = .int .i64 (i : Int) ∧ Hid (Below w2.heap.size w2 wr)) (fun s55 _ => y.n2 - (intOf s55).toNat)
 case atStart => exact ⟨0, Nat.zero_le _, rfl, Below.refl _ _⟩
 case round =>
  obtain ⟨i, hi, rfl, oJ⟩ := hrel
  by_cases hlt : i < y.n2
  ·have Hr : (i : Int) < y.n2 := by omega
   have hi2 : i < y.c.sl.length := by rw [HY.out.l2]; exact hlt
   obtain ⟨bb, off, hba, hbb, hbc⟩ := aK aO (by decide) (HY.out.r2.below oJ.out) hi2
   obtain ⟨e0, e1, e2⟩ := gX hbc
   have HX := gO (HC.out.sk _ (gL hi2))
   have HPV : Hid (∀ m (hm : m < i), (y.c.sl[m]'(by omega)).p < (y.c.sl[i]).p) := fun m hm => List.pairwise_iff_getElem.1 HC.out.sr m i (by omega) hi2 hm
   obtain ⟨x, hx⟩ : ∃ x, y.c.sl[i] = x := ⟨_, rfl⟩
   simp only [hx] at e0 e1 e2 HX HPV
   obtain ⟨hil, JR, hhas⟩ := HX.out.at HK.out
   obtain ⟨cl, hcl⟩ := HX.out.chain
   have hxp := HX.out.zV HK.out
   have HA2 := gO hba
   rw [hba] at c6 ⊢
   clear hbc hba hx
   go_upto_region 7 with fail
   have hb3 := aC wr (.cells #[.int .i64 (x.p : Int), .int .i64 (x.n : Int), .int .i64 x.h] 137)
   have KX := aY wr #[.int .i64 (x.p : Int), .int .i64 (x.n : Int), .int .i64 x.h] 137
   have hsx := Jv wr (.cells #[.int .i64 (x.p : Int), .int .i64 (x.n : Int), .int .i64 x.h] 137)
   have HB3 := gO (Below.step oJ.out hb3)
   clear hb3 oJ e0 e1 e2 hbb
   obtain ⟨we, rfl⟩ : ∃ we, we = wr := ⟨_, rfl⟩
   generalize we.alloc (.cells #[.int .i64 (x.p : Int), .int .i64 (x.n : Int), .int .i64 x.h] 137) = w3 at *
   obtain ⟨BX, hBX⟩ : ∃ B, we.heap.size = B := ⟨_, rfl⟩
   rw [hBX] at KX hsx ⊢
   clear hBX
   have g0 := KX 0
   have k05 := (aB HK0.out (by omega) HB3.out) 5
   simp only [gB, gC, gD] at g0 k05
   have hs3 : w.heap.size + 1 < w3.heap.size := gI hsz HB3.out.size
   go_wp2_with fail
   refine (Dh _ _ _ s.h.live x.p w3 rfl (gQ HK.out.jV (by decide)) (HS.out.hh.vr.below HB3.out) HK.out.vs (fun b hb => by have := (HK.out.lv b hb).1.2.2.1; omega) (by omega)).mono ?_
   rintro ev w4 ⟨rfl, hb4⟩
   rw [hhas]
   have HB4 := gO (Below.step HB3.out hb4)
   have KX4 := aB KX hsx hb4
   have LW := gI hsx hb4.size
   clear g0 k05 hb4 KX hsx hs3
   obtain ⟨lbk, aEE, hla, aEF, hlc⟩ := aK aI (by decide) (HS.out.hh.vr.below HB4.out) hil
   obtain ⟨l0, l1, l2⟩ := bD hlc
   rw [JR] at l1
   have k05 := (aB HK0.out (by omega) HB4.out) 5
   have k14 := (aB HK1.out hsz HB4.out) 4
   have d1 := KX4 0
   simp only [gB, gC, gD] at k05 k14 d1
   rw [hla] at k05
   rw [HA2.out] at k14
   rw [HOO.out] at l1
   have aA4 := hil
   clear hla hlc l0 l2 JR
   obtain ⟨L, hL⟩ : ∃ L, lb s.h.live x.p = L := ⟨_, rfl⟩
   rw [hL] at l1 aA4 ⊢
   clear hL hil
   have hs4 : w.heap.size + 1 < w4.heap.size := gI hsz HB4.out.size
   have hLi : (L : Int) < s.h.live.length := by omega
   by_cases hi0 : i = 0
   ·subst hi0
    go_wp2_with fail
    go_quiet (fail)
    have hbq := below_drewN (Below.refl w4.heap.size w4) nq
    have lZ := gO (Below.step HB4.out hbq)
    have Vx := aB KX4 LW hbq
    have aA5 := gI LW hbq.size
    clear HB4 KX4 LW hbq d1 l1 k05 k14
    generalize w4.drewN nq = w5 at *
    have g0 := Vx 0
    have g1 := Vx 1
    have g2 := Vx 2
    have k00 := (aB HK0.out (by omega) lZ.out) 0
    have k01 := (aB HK0.out (by omega) lZ.out) 1
    have k02 := (aB HK0.out (by omega) lZ.out) 2
    have k03 := (aB HK0.out (by omega) lZ.out) 3
    have k04 := (aB HK0.out (by omega) lZ.out) 4
    have k05 := (aB HK0.out (by omega) lZ.out) 5
    have k06 := (aB HK0.out (by omega) lZ.out) 6
    have k10 := (aB HK1.out hsz lZ.out) 0
    have k11 := (aB HK1.out hsz lZ.out) 1
    have k12 := (aB HK1.out hsz lZ.out) 2
    have k13 := (aB HK1.out hsz lZ.out) 3
    have k14 := (aB HK1.out hsz lZ.out) 4
    have k15 := (aB HK1.out hsz lZ.out) 5
    simp only [gB, gC, gD] at g0 g1 g2 k00 k01 k02 k03 k04 k05 k06 k10 k11 k12 k13 k14 k15
    have hs2 := hsz
    go_wp2_with fail
    refine (yK _ _ _ _ _ _ _ _ _ _ _ _ _ _ _ _ s.h.aF s.w y x cl w5 (HS.out.lw) (by have := HS.out.lw; omega) (HS.out.rw.below lZ.out) hz.1 (by have := HC.out.rz; omega) (by omega) hcl.1 hcl.2.1 hcl.2.2 (fun a ha => by have h9 := sN (hcl.2.2 a ha); have := HC.out.rz; have h8 : ((y.c.r * y.c.z : Nat) : Int) = (y.c.r : Int) * (y.c.z : Int) := Int.natCast_mul _ _; omega) (by have := HX.out.QS; have := HC.out.r64; omega)).mono ?_
    rintro ev w6 ⟨a', c', rfl, _, hb6⟩
    have HB6 := gO (Below.step lZ.out hb6)
    clear g0 g1 g2 k00 k01 k02 k03 k04 k05 k06 k10 k11 k12 k13 k14 k15
    go_wp2_with fail
    go_roundw
    case measure => simp [intOf]; omega
    case rel => exact ⟨1, by omega, by go_num, HB6⟩
   ·obtain ⟨m, rfl⟩ : ∃ m, i = m + 1 := ⟨i - 1, by omega⟩
    have hm1 : ((m + 1 : Nat) : Int) - 1 = (m : Int) := by omega
    have hml : m < y.c.sl.length := by omega
    have hpv := HPV.out m (by omega)
    obtain ⟨bb2, off2, Vy, _, hbc2⟩ := aK aO (by decide) (HY.out.r2.below HB4.out) hml
    rw [HA2.out] at Vy
    simp only [Option.some.injEq, Addr.mk.injEq, and_true] at Vy
    obtain ⟨rfl, rfl⟩ := Vy
    obtain ⟨p0, _, _⟩ := gX hbc2
    obtain ⟨xq, Vz⟩ : ∃ x', (y.c.sl[m]).p = x' := ⟨_, rfl⟩
    rw [Vz] at p0
    simp only [Vz] at hpv
    have hge : ¬ (x.p : Int) ≤ xq := by omega
    have aEG : decide ((x.p : Int) ≤ xq) = false := decide_eq_false hge
    clear hbc2 Vz
    have hmi : (m : Int) < y.n2 := by omega
    go_wp2_with fail
    go_quiet (fail)
    have hbq := below_drewN (Below.refl w4.heap.size w4) nq
    have lZ := gO (Below.step HB4.out hbq)
    have Vx := aB KX4 LW hbq
    have aA5 := gI LW hbq.size
    clear HB4 KX4 LW hbq d1 l1 k05 k14 p0
    generalize w4.drewN nq = w5 at *
    have g0 := Vx 0
    have g1 := Vx 1
    have g2 := Vx 2
    have k00 := (aB HK0.out (by omega) lZ.out) 0
    have k01 := (aB HK0.out (by omega) lZ.out) 1
    have k02 := (aB HK0.out (by omega) lZ.out) 2
    have k03 := (aB HK0.out (by omega) lZ.out) 3
    have k04 := (aB HK0.out (by omega) lZ.out) 4
    have k05 := (aB HK0.out (by omega) lZ.out) 5
    have k06 := (aB HK0.out (by omega) lZ.out) 6
    have k10 := (aB HK1.out hsz lZ.out) 0
    have k11 := (aB HK1.out hsz lZ.out) 1
    have k12 := (aB HK1.out hsz lZ.out) 2
    have k13 := (aB HK1.out hsz lZ.out) 3
    have k14 := (aB HK1.out hsz lZ.out) 4
    have k15 := (aB HK1.out hsz lZ.out) 5
    simp only [gB, gC, gD] at g0 g1 g2 k00 k01 k02 k03 k04 k05 k06 k10 k11 k12 k13 k14 k15
    have hs2 := hsz
    go_wp2_with fail
    refine (yK _ _ _ _ _ _ _ _ _ _ _ _ _ _ _ _ s.h.aF s.w y x cl w5 (HS.out.lw) (by have := HS.out.lw; omega) (HS.out.rw.below lZ.out) hz.1 (by have := HC.out.rz; omega) (by omega) hcl.1 hcl.2.1 hcl.2.2 (fun a ha => by have h9 := sN (hcl.2.2 a ha); have := HC.out.rz; have h8 : ((y.c.r * y.c.z : Nat) : Int) = (y.c.r : Int) * (y.c.z : Int) := Int.natCast_mul _ _; omega) (by have := HX.out.QS; have := HC.out.r64; omega)).mono ?_
    rintro ev w6 ⟨a', c', rfl, _, hb6⟩
    have HB6 := gO (Below.step lZ.out hb6)
    clear g0 g1 g2 k00 k01 k02 k03 k04 k05 k06 k10 k11 k12 k13 k14 k15
    go_wp2_with fail
    go_roundw
    case measure => simp [intOf]; omega
    case rel => exact ⟨m + 1 + 1, by omega, by go_num, HB6⟩
  ·have hie : i = y.n2 := by omega
   subst hie
   have k15 := (aB HK1.out hsz oJ.out) 5
   simp only [gB, gC, gD] at k15
   have Ou : w.heap.size + 1 < wr.heap.size := gI hsz oJ.out.size
   clear c6
   obtain ⟨w8, rfl⟩ : ∃ w8, w8 = wr := ⟨_, rfl⟩
   go_wp2_with fail
   clear k15
   go_loopw [111] (fun s111 wr => ∃ j : Nat, j ≤ y.n3 ∧ s111 = .int .i64 (j : Int) ∧ Hid (Below w2.heap.size w2 wr)) (fun s111 _ => y.n3 - (intOf s111).toNat)
   case atStart => exact ⟨0, Nat.zero_le _, rfl, oJ⟩
   case round =>
    obtain ⟨j, hj, rfl, oZ⟩ := hrel
    by_cases hjl : j < y.n3
    ·have aEH : (j : Int) < y.n3 := by omega
     have hj2 : j < y.c.ac.length := by rw [HY.out.l3]; exact hjl
     obtain ⟨bb, off, hba, hbb, e0⟩ := Np (HY.out.r3.below oZ.out) hj2
     have HA3 := gO hba
     have haw := HC.out.aw _ (gL hj2)
     have hno : ∀ m (hm : m < j), y.c.ac[j] ≠ -1 → (y.c.ac[m]'(by omega)) ≠ y.c.ac[j] := fun m hm h1 h2 => h1 (h2 ▸ List.pairwise_iff_getElem.1 HC.out.ad m j (by omega) hj2 hm h2)
     obtain ⟨a, ha⟩ : ∃ a, y.c.ac[j] = a := ⟨_, rfl⟩
     rw [ha] at e0 haw
     simp only [ha] at hno
     have Ry := gO hno
     have HAW := gO haw
     rw [hba]
     clear hba hno haw
     by_cases ham : a = -1
     ·subst ham
      go_wp2_with fail
      go_roundw
      case rel => exact ⟨j + 1, by omega, by go_num, oZ⟩
      case measure => simp [intOf]; omega
     ·have aEJ : (a == -1) = false := by rw [beq_eq_false_iff_ne]; exact ham
      have k10 := (aB HK1.out hsz oZ.out) 0
      have k11 := (aB HK1.out hsz oZ.out) 1
      have k12 := (aB HK1.out hsz oZ.out) 2
      have k13 := (aB HK1.out hsz oZ.out) 3
      have k14 := (aB HK1.out hsz oZ.out) 4
      have k15 := (aB HK1.out hsz oZ.out) 5
      simp only [gB, gC, gD] at k10 k11 k12 k13 k14 k15
      have hpre : Row wr y.a3 ((y.c.ac.take j).map vI) := fun i v h => HY.out.r3.below oZ.out i v (by
       rw [List.map_take, List.getElem?_take] at h
       split at h
       ·exact h
       ·cases h)
      have hcon := jM y.a3 y.c3 (y.c.ac.take j) a wr (by rw [List.length_take]; omega) hpre
      rw [List.length_take, Nat.min_eq_left (by omega)] at hcon
      have hmiss : qR (y.c.ac.take j) a = false := by
       unfold qR
       rw [List.contains_eq_any_beq, List.any_eq_false]
       intro x hx
       obtain ⟨m, hm, e⟩ := List.mem_take_iff_getElem.1 hx
       have := Ry.out m (by omega) ham
       rw [e] at this
       simpa using fun h => this h.symm
      rw [hmiss] at hcon
      obtain ⟨x, hxm, hxa⟩ : ∃ x ∈ y.c.sl, (x.p : Int) = a := HAW.out.resolve_left ham
      have hxp := (HC.out.sk x hxm).zV HK.out
      have hfind := fun (W : World) (hW : Below wr.heap.size wr W) => Jh y a W (HY.out.below (Below.step oZ.out hW)) (by omega) (fun x hx => by have := (HC.out.sk x hx).zV HK.out; omega) (by omega)
      have hpos : ¬ bZ (fun x => decide ((x.p : Int) = a)) y.c.sl < 0 := by
       have h9 := fE (fun x : Sl => decide ((x.p : Int) = a)) y.c.sl
       rw [show (y.c.sl.any fun x => decide ((x.p : Int) = a)) = true from List.any_eq_true.2 ⟨x, hxm, decide_eq_true hxa⟩] at h9
       have := of_decide_eq_true h9
       omega
      have ES := gO hcon
      have HFI := gO hfind
      have Yn : w.heap.size + 1 < wr.heap.size := gI hsz oZ.out.size
      rw [HA3.out] at k15
      rw [HA3.out] at ES
      clear hpre hcon hmiss hfind hxa
      obtain ⟨fi, hfi⟩ : ∃ f, bZ (fun x => decide ((x.p : Int) = a)) y.c.sl = f := ⟨_, rfl⟩
      simp only [hfi] at HFI hpos
      clear hfi
      rw [HA3.out] at HFI
      have hjc : (j : Int) ≤ y.c3 := by have := HY.out.k3; omega
      have aEK : j ≤ y.c3 := by have := HY.out.k3; omega
      go_wp2_with (first | (go_at_call 35; refine ES.out.mono ?_; rintro e w' ⟨rfl, rfl⟩) | (go_at_call 131; refine (HFI.out _ (Below.refl _ _)).mono ?_; rintro e w' ⟨rfl, hb'⟩))
      have HBJ := gO (Below.step oZ.out hb')
      go_roundw
      case rel => exact ⟨j + 1, by omega, by go_num, HBJ⟩
      case measure => simp [intOf]; omega
    ·obtain rfl : j = y.n3 := by omega
     have HBE := gO (Below.step HB.out oZ.out)
     go_wp2
     go_ret
     exact ⟨rfl, HBE.out⟩
end
end Go.Proofs.YtcmpmobhongkiaaGreatDoor
