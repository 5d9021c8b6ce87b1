/- texts of this claim, joined. -/
import Derived.Test.YtcmpmobhongkiaaGreatDoorCG0
import Derived.Test.YtcmpmobhongkiaaGreatDoorCG2
import Derived.Test.YtcmpmobhongkiaaGreatDoorCG40
import Derived.Test.YtcmpmobhongkiaaGreatDoorCG46
import Derived.Test.YtcmpmobhongkiaaGreatDoorCG47
import Derived.Test.YtcmpmobhongkiaaGreatDoorCG48
import Derived.WalkKit
import Derived.OpenShut
import Derived.ProofKit
set_option linter.unusedVariables false
set_option linter.unusedSimpArgs false
namespace Go.Proofs.YtcmpmobhongkiaaGreatDoor
section
open Go.RowKit

set_option maxHeartbeats 8000000 in
set_option maxRecDepth 100000 in
theorem EO (a0 a1 : Int) (h01 : -9223372036854775808 ≤ a0) (h02 : a0 ≤ 9223372036854775807) (h11 : -9223372036854775808 ≤ a1) (h12 : a1 ≤ 9223372036854775807) (w : World) (ho : yK w) (hsz : Yr w) :
  Calls Tryz.prog 8 #[.int .i64 a0, .int .i64 a1] w fun ev w' => ev = .returned (.bool true) ∧ Below w.heap.size w w' := by
 obtain ⟨p, hp⟩ : ∃ p : Nat, pk a0 3 = (p : Int) := ⟨(pk a0 3).toNat, by have := vZ a0 3 (by omega); omega⟩
 have hp2 : p ≤ 2 := by have := VK a0 3 (by omega); omega
 obtain ⟨z, hz⟩ : ∃ z : Nat, 3 + 2 * p = z := ⟨_, rfl⟩
 have hz3 : z = 3 ∨ z = 5 ∨ z = 7 := by omega
 obtain ⟨k, hk⟩ : ∃ k : Nat, 1 + pk a1 40 = (k : Int) := ⟨(1 + pk a1 40).toNat, by have := vZ a1 40 (by omega); omega⟩
 have hk1 : 1 ≤ k ∧ k ≤ 40 := by
  have := vZ a1 40 (by omega)
  have := VK a1 40 (by omega)
  omega
 have HP0 : Hid (∀ W, Calls Tryz.prog 28 #[.int .i64 a0, .int .i64 3] W fun e w' => e = .returned (.int .i64 (p : Int)) ∧ W = w') := fun W => by
  have h := yQ a0 3 W h01 h02 (by omega) (by omega)
  rw [hp] at h
  exact h
 have HP1 : Hid (∀ W, Calls Tryz.prog 28 #[.int .i64 a1, .int .i64 40] W fun e w' => e = .returned (.int .i64 ((k : Int) - 1)) ∧ W = w') := fun W => by
  have h := yQ a1 40 W h11 h12 (by omega) (by omega)
  rw [show pk a1 40 = (k : Int) - 1 by omega] at h
  exact h
 have e1 : (3 : Int) + (p : Int) * 2 = (z : Int) := by omega
 have e2 : (1 : Int) + ((k : Int) - 1) = k := by omega
 obtain ⟨t0, l0, hbk, hll, hgo⟩ := VI hz3 hk1.2
 have bA := aC w (.cells #[.int .i64 0, .int .i64 200] 55)
 have bB := aC (w.alloc (.cells #[.int .i64 0, .int .i64 200] 55)) (.cells #[.slice (some ⟨w.heap.size, 0, none⟩) 1 1, .slice none 0 0, .int .i64 64, .int .i64 0, .int .i64 2] 29)
 have bAB := Below.step bA bB
 have KS := bC (w.alloc (.cells #[.int .i64 0, .int .i64 200] 55)) #[.slice (some ⟨w.heap.size, 0, none⟩) 1 1, .slice none 0 0, .int .i64 64, .int .i64 0, .int .i64 2] 29
 have hsA : (w.alloc (.cells #[.int .i64 0, .int .i64 200] 55)).heap.size = w.heap.size + 1 := by simp
 rw [hsA] at KS
 have hKR := bC w #[.int .i64 0, .int .i64 200] 55
 have hbt : JX ((w.alloc (.cells #[.int .i64 0, .int .i64 200] 55)).alloc (.cells #[.slice (some ⟨w.heap.size, 0, none⟩) 1 1, .slice none 0 0, .int .i64 64, .int .i64 0, .int .i64 2] 29)) (some ⟨w.heap.size, 0, none⟩) none 1 0 bt200 := by
  refine ⟨rfl, rfl, ?_, Row.nil _ _⟩
  refine Row.below (w := w.alloc (.cells #[.int .i64 0, .int .i64 200] 55)) (fun j v hj => ?_) bB
  match j, hj with
  | 0, hj =>
   obtain rfl : vI 0 = v := by simpa [bt200, flat, iO] using hj
   exact ⟨w.heap.size, 0, rfl, by simp, hKR 0⟩
  | 1, hj =>
   obtain rfl : vI 200 = v := by simpa [bt200, flat, iO] using hj
   exact ⟨w.heap.size, 0, rfl, by simp, hKR 1⟩
  | j + 2, hj => simp [bt200, flat, iO] at hj
 have Bd := gO (Vw (some ⟨w.heap.size, 0, none⟩) none 1 0 1 0 bt200 64 0 2 _ hbt AY.1 rfl AY.2 (by decide) (by decide) (by decide) (by decide) (hsz.below bAB))
 unfold WQ at Bd
 have hk0 := xB La 6 (Nat.le_refl _)
 have hn0 := yB yH 6
 have YO := Dy yH
 have hc0 := yI yH hz3
 change Hid (Calls Tryz.prog 27 _ _ fun ev w' => ∃ v', ev = .returned (.tuple #[.agg (v'.vals (fA yH 6)), .int .i64 0]) ∧ jY w' _ (fA yH 6) v' ∧ Below _ _ w') at Bd
 generalize fA yH 6 = S0 at hk0 hn0 YO hc0 Bd
 obtain ⟨S1, hS1⟩ : ∃ S1, xG yH z = S1 := ⟨_, rfl⟩
 have hk1 := Na La hz3
 have hn1 := o8 yH z
 have hi1 := AZ yH z
 have hcp1 : 1 < (xG yH z).h.aF := show 1 < 2 by decide
 rw [hS1] at hk1 hn1 hi1 hc0 hbk hcp1
 clear hS1
 have HK0 := gO hk0
 have HN0 := gO hn0
 have HK1 := gO hk1
 have HN1 := gO hn1
 have HI1 := gO hi1
 have HCP1 := gO hcp1
 have HNO0 := gO YO
 have HC0 := gO hc0
 obtain ⟨s0, s1, s2, s3, s4⟩ := gA5 KS
 have RX := gO bAB
 have HO := gO ho
 have IK := gO hbk
 have HGO := gO hgo
 have Px := gO hll
 have HZ3 := gO hz3
 have hwB : w.heap.size < ((w.alloc (.cells #[.int .i64 0, .int .i64 200] 55)).alloc (.cells #[.slice (some ⟨w.heap.size, 0, none⟩) 1 1, .slice none 0 0, .int .i64 64, .int .i64 0, .int .i64 2] 29)).heap.size := by simp; omega
 clear bA bB bAB KS hsA hKR hbt ho hsz hp hk hbk hgo hll hz hp2 hk0 hn0 YO hc0 hk1 hn1 hi1 hcp1
 go_enter Tryz.func8, Tryz.ntmps8
 go_upto_region 2 with fail
 generalize (w.alloc (.cells #[.int .i64 0, .int .i64 200] 55)).alloc (.cells #[.slice (some ⟨w.heap.size, 0, none⟩) 1 1, .slice none 0 0, .int .i64 64, .int .i64 0, .int .i64 2] 29) = w2 at *
 go_upto_region 3 with (go_at_call 27; refine Bd.out.mono ?_; rintro ev w3 ⟨v1, he, hn3, hb3⟩; (replace he : ev = .returned (.tuple #[.agg #[.slice v1.a1 v1.n1 v1.c1, .slice v1.hc.az 2 v1.hc.cz, .slice v1.hc.am 2 v1.hc.cm, .int .i64 (S0.h.aF : Int), .slice v1.hc.al v1.hc.lc.length v1.hc.cl, .slice v1.hc.av S0.h.live.length v1.hc.cv, .slice v1.a2 v1.ys.length v1.c2], .int .i64 0]) := he); subst he)
 clear s0 s1 s2 s3 s4 Bd
 have HS4 : Hid (SS (w3.alloc (.cells #[.slice v1.a1 v1.n1 v1.c1, .slice v1.hc.az 2 v1.hc.cz, .slice v1.hc.am 2 v1.hc.cm, .int .i64 (S0.h.aF : Int), .slice v1.hc.al v1.hc.lc.length v1.hc.cl, .slice v1.hc.av S0.h.live.length v1.hc.cv, .slice v1.a2 v1.ys.length v1.c2] 47)) w3.heap.size (fun _ => False) S0 v1) := (jY.box hn3).sub (fun _ h => h.elim)
 have aFb : w.heap.size ≤ w3.heap.size := gQ (gR hwB) hb3.size
 have HB4 := gO (RX.out.trans ((Below.step hb3 (aC w3 (.cells #[.slice v1.a1 v1.n1 v1.c1, .slice v1.hc.az 2 v1.hc.cz, .slice v1.hc.am 2 v1.hc.cm, .int .i64 (S0.h.aF : Int), .slice v1.hc.al v1.hc.lc.length v1.hc.cl, .slice v1.hc.av S0.h.live.length v1.hc.cv, .slice v1.a2 v1.ys.length v1.c2] 47))).mono RX.out.size))
 clear hn3 hb3
 generalize w3.alloc (.cells #[.slice v1.a1 v1.n1 v1.c1, .slice v1.hc.az 2 v1.hc.cz, .slice v1.hc.am 2 v1.hc.cm, .int .i64 (S0.h.aF : Int), .slice v1.hc.al v1.hc.lc.length v1.hc.cl, .slice v1.hc.av S0.h.live.length v1.hc.cv, .slice v1.a2 v1.ys.length v1.c2] 47) = w4 at *
 generalize w3.heap.size = B6 at *
 obtain ⟨g0, g1, g2, g3, g4, g5, g6⟩ := gA7 HS4.out.k
 have hd := (Below.refl w4.heap.size w4).drew
 have hB6 : B6 < w4.heap.size := HS4.out.r.hr.gs
 have WB : Hid (Calls Tryz.prog 31 #[.agg #[.slice v1.a1 v1.n1 v1.c1, .slice v1.hc.az 2 v1.hc.cz, .slice v1.hc.am 2 v1.hc.cm, .int .i64 (S0.h.aF : Int), .slice v1.hc.al v1.hc.lc.length v1.hc.cl, .slice v1.hc.av S0.h.live.length v1.hc.cv, .slice v1.a2 v1.ys.length v1.c2], .string ⟨#[120, 97]⟩, .int .i64 z, .int .i64 1] w4.drew (MJ S1 w4.drew)) :=
  Ai v1 S0 S1 [120, 97] z w4.drew (HS4.out.below hd).r.at HK0.out HN0.out (by decide) (by have := HZ3.out; omega) HNO0.out HC0.out
 have Zh := gO (HS4.out.below hd)
 have Wq := gO (Below.step HB4.out hd)
 have aCb : B6 < w4.drew.heap.size := Zh.out.r.hr.gs
 go_cut [8] (fun s8 wx => ∃ v2, s8 = .int .i64 0 ∧ Hid (SS wx B6 (fun _ => False) S1 v2) ∧ Hid (Below w.heap.size w wx))
 case first =>
  clear hd HS4 HB4
  have hw1 : IntKind.i64.wrap ((p : Int) * 2) = (p : Int) * 2 := IntWalk.i64_in _ (by omega)
  have hw2 : IntKind.i64.wrap (z : Int) = (z : Int) := IntWalk.i64_in _ (by have := HZ3.out; omega)
  go_region_with (first | (go_at_call 28; refine (HP0.out _).mono ?_; rintro ev w' ⟨rfl, rfl⟩) | (go_at_call 31; (with_reducible refine WB.out.mono ?_); rintro ev w5 ⟨v2, he, hn5, hb5⟩; (replace he : ev = .returned (.tuple #[.agg #[.slice v2.a1 v2.n1 v2.c1, .slice v2.hc.az 2 v2.hc.cz, .slice v2.hc.am 2 v2.hc.cm, .int .i64 (S1.h.aF : Int), .slice v2.hc.al v2.hc.lc.length v2.hc.cl, .slice v2.hc.av S1.h.live.length v2.hc.cv, .slice v2.a2 v2.ys.length v2.c2], .int .i64 0]) := he); subst he; have TM := Zh.out.below hb5; obtain ⟨y0, y1, y2, y3, y4, y5, y6⟩ := gA7 TM.k; obtain ⟨f0, f1, f2, f3, f4, f5, f6⟩ := gF7 TM.fz; skip))
  all_goals
   have hst := jY.store (B := B6) hn5 aCb (a0 := .slice v1.a1 v1.n1 v1.c1) (a1 := .slice v1.hc.az 2 v1.hc.cz) (a2 := .slice v1.hc.am 2 v1.hc.cm) (a3 := .int .i64 (S0.h.aF : Int)) (a4 := .slice v1.hc.al v1.hc.lc.length v1.hc.cl) (a5 := .slice v1.hc.av S0.h.live.length v1.hc.cv) (a6 := .slice v1.a2 v1.ys.length v1.c2) (fun o => TM.k o) TM.fz
   have pI : Hid (SS (((((((w5.setCell ⟨B6, 0, none⟩ (.slice v2.a1 v2.n1 v2.c1)).setCell ⟨B6, 1, none⟩ (.slice v2.hc.az 2 v2.hc.cz)).setCell ⟨B6, 2, none⟩ (.slice v2.hc.am 2 v2.hc.cm)).setCell ⟨B6, 3, none⟩ (.int .i64 (S1.h.aF : Int))).setCell ⟨B6, 4, none⟩ (.slice v2.hc.al v2.hc.lc.length v2.hc.cl)).setCell ⟨B6, 5, none⟩ (.slice v2.hc.av S1.h.live.length v2.hc.cv)).setCell ⟨B6, 6, none⟩ (.slice v2.a2 v2.ys.length v2.c2)) B6 (fun _ => False) S1 v2) := hst.sub (fun _ h => h.elim)
   have kK := gO (tV (T := B6) (Below.step Wq.out hb5) aFb v2 S1)
   clear hst TM y0 y1 y2 y3 y4 y5 y6 f0 f1 f2 f3 f4 f5 f6 hn5 hb5
   go_wp2_with fail
   go_meet
   exact ⟨v2, rfl, pI, kK⟩
 case rest =>
  obtain ⟨v2, rfl, HS5, HB5⟩ := hcut
  obtain ⟨w5, rfl⟩ : ∃ w5, w5 = wc := ⟨_, rfl⟩
  clear g0 g1 g2 g3 g4 g5 g6 hd WB Zh Wq aCb hB6 HS4 HB4
  go_upto_region 5 with (go_at_call 28; refine (HP1.out _).mono ?_; rintro ev w' ⟨rfl, rfl⟩)
  obtain ⟨g0, g1, g2, g3, g4, g5, g6⟩ := gA7 HS5.out.k
  have WZ := RN v2 S1 [120, 97] 1 6 k w5 HS5.out.r.at HK1.out HN1.out HI1.out HCP1.out hk1.1 (by omega) (HO.out.below HB5.out)
  have HBU : Hid (Calls Tryz.prog 36 #[.agg #[.slice v2.a1 v2.n1 v2.c1, .slice v2.hc.az 2 v2.hc.cz, .slice v2.hc.am 2 v2.hc.cm, .int .i64 (S1.h.aF : Int), .slice v2.hc.al v2.hc.lc.length v2.hc.cl, .slice v2.hc.av S1.h.live.length v2.hc.cv, .slice v2.a2 v2.ys.length v2.c2], .string ⟨#[120, 97]⟩, .int .i64 1, .int .i64 k] w5 fun ev w' => ∃ v3 a' c', ev = .returned (.tuple #[.agg #[.slice v3.a1 v3.n1 v3.c1, .slice v3.hc.az 2 v3.hc.cz, .slice v3.hc.am 2 v3.hc.cm, .int .i64 (t0.h.aF : Int), .slice v3.hc.al v3.hc.lc.length v3.hc.cl, .slice v3.hc.av t0.h.live.length v3.hc.cv, .slice v3.a2 v3.ys.length v3.c2], .slice a' k c', .int .i64 0]) ∧ jY w' w5.heap.size t0 v3 ∧ w'.ownsRow w5.heap.size 3 1 (.slice a' k c') k (l0.map vI) ∧ Below w5.heap.size w5 w') := by
   refine WZ.mono ?_
   rintro ev w' (⟨h9, _⟩ | ⟨t', l', v3, a', c', h9, h10, aFc, _, h13, aFd⟩)
   ·rw [IK.out] at h9
    cases h9
   ·rw [IK.out] at h9
    obtain ⟨rfl, rfl⟩ : t0 = t' ∧ l0 = l' := by simpa using h9
    exact ⟨v3, a', c', h10, aFc, h13, aFd⟩
  clear WZ
  go_upto_region 6 with (go_at_call 36; refine HBU.out.mono ?_; rintro ev w6 ⟨v3, a', c', rfl, hn6, Dv, hb6⟩)
  have aFe : w.heap.size ≤ w5.heap.size := HB5.out.size
  have TN : (Value.slice a' k c').ownBlock ≠ some w6.heap.size := fun e => by have := (Dv.lt _ e).2; omega
  have HS7 : Hid (SS (w6.alloc (.cells #[.slice v3.a1 v3.n1 v3.c1, .slice v3.hc.az 2 v3.hc.cz, .slice v3.hc.am 2 v3.hc.cm, .int .i64 (t0.h.aF : Int), .slice v3.hc.al v3.hc.lc.length v3.hc.cl, .slice v3.hc.av t0.h.live.length v3.hc.cv, .slice v3.a2 v3.ys.length v3.c2] 47)) w6.heap.size (fun _ => False) t0 v3) := (jY.box hn6).sub (fun _ h => h.elim)
  have bal := aC w6 (.cells #[.slice v3.a1 v3.n1 v3.c1, .slice v3.hc.az 2 v3.hc.cz, .slice v3.hc.am 2 v3.hc.cm, .int .i64 (t0.h.aF : Int), .slice v3.hc.al v3.hc.lc.length v3.hc.cl, .slice v3.hc.av t0.h.live.length v3.hc.cv, .slice v3.a2 v3.ys.length v3.c2] 47)
  have HR7 : Hid ((w6.alloc (.cells #[.slice v3.a1 v3.n1 v3.c1, .slice v3.hc.az 2 v3.hc.cz, .slice v3.hc.am 2 v3.hc.cm, .int .i64 (t0.h.aF : Int), .slice v3.hc.al v3.hc.lc.length v3.hc.cl, .slice v3.hc.av t0.h.live.length v3.hc.cv, .slice v3.a2 v3.ys.length v3.c2] 47)).ownsRow w5.heap.size 3 1 (.slice a' k c') k (l0.map vI)) := own_below Dv bal (Nat.le_refl _)
  have aCc : w.heap.size ≤ w6.heap.size := gQ aFe hb6.size
  have HB7 := gO (Below.step (Below.step HB5.out hb6) bal)
  clear hn6 hb6 Dv bal HBU g0 g1 g2 g3 g4 g5 g6
  generalize w6.alloc (.cells #[.slice v3.a1 v3.n1 v3.c1, .slice v3.hc.az 2 v3.hc.cz, .slice v3.hc.am 2 v3.hc.cm, .int .i64 (t0.h.aF : Int), .slice v3.hc.al v3.hc.lc.length v3.hc.cl, .slice v3.hc.av t0.h.live.length v3.hc.cv, .slice v3.a2 v3.ys.length v3.c2] 47) = w7 at *
  generalize w6.heap.size = BT at *
  obtain ⟨g0, g1, g2, g3, g4, g5, g6⟩ := gA7 HS7.out.k
  obtain ⟨c6, hc6, hn6, hl6, hi6⟩ := HGO.out.at
  have Xa : t0.destroy 6 [120, 97] = none := by
   cases l0 with
   | nil => exact absurd Px.out (by simp; omega)
   | cons a l => exact HGO.out.busy
  have HNT := gO (lW HGO.out.ns (o8 yH z))
  have hdes := yF v3 t0 [120, 97] 6 w7 HS7.out.r.at HGO.out.ok HNT.out hi6
  rw [Xa] at hdes
  have HDE : Hid (Calls Tryz.prog 34 #[.agg #[.slice v3.a1 v3.n1 v3.c1, .slice v3.hc.az 2 v3.hc.cz, .slice v3.hc.am 2 v3.hc.cm, .int .i64 (t0.h.aF : Int), .slice v3.hc.al v3.hc.lc.length v3.hc.cl, .slice v3.hc.av t0.h.live.length v3.hc.cv, .slice v3.a2 v3.ys.length v3.c2], .string ⟨#[120, 97]⟩] w7 fun ev w' => ev = .returned (.tuple #[.agg #[.slice none 0 0, .slice none 0 0, .slice none 0 0, .int .i64 0, .slice none 0 0, .slice none 0 0, .slice none 0 0], .int .i64 7]) ∧ Below w7.heap.size w7 w') := by
   refine hdes.mono ?_
   rintro ev w' (⟨_, h, hb⟩ | ⟨s', v', h, _⟩)
   ·exact ⟨h, hb⟩
   ·cases h
  clear hdes Xa hc6 hn6 hl6 hi6
  go_upto_region 7 with (go_at_call 34; refine HDE.out.mono ?_; rintro ev w8 ⟨rfl, hb8⟩)
  have hb9 := Below.step hb8 (aC w8 (.cells #[.slice none 0 0, .slice none 0 0, .slice none 0 0, .int .i64 0, .slice none 0 0, .slice none 0 0, .slice none 0 0] 47))
  have HS9 := gO (HS7.out.below hb9)
  have HR9 := gO (own_below HR7.out hb9 (Nat.le_refl _))
  have HB9 := gO (Below.step HB7.out hb9)
  clear hb8 hb9 HDE g0 g1 g2 g3 g4 g5 g6 HS7 HR7 HB7
  generalize w8.alloc (.cells #[.slice none 0 0, .slice none 0 0, .slice none 0 0, .int .i64 0, .slice none 0 0, .slice none 0 0, .slice none 0 0] 47) = w9 at *
  have Py := gO TN
  have aIX : BT < w9.heap.size := HS9.out.r.hr.gs
  have HL0 := gO (show l0.length = k from Px.out)
  clear TN
  go_wp2_with fail
  go_loopw [58] (fun s58 wr => ∃ (j : Nat) (t : Sy) (v' : Sc), j ≤ k ∧ s58 = .int .i64 (j : Int) ∧ Hid (Go6 t z (l0.drop j)) ∧ Hid (SS wr BT (fun _ => False) t v') ∧ Hid (wr.ownsRow w5.heap.size 3 1 (.slice a' k c') k (l0.map vI)) ∧ Hid (Below w.heap.size w wr)) (fun s58 _ => k - (intOf s58).toNat)
  case atStart => exact ⟨0, t0, v3, Nat.zero_le _, rfl, HGO, HS9, HR9, HB9⟩
  case round =>
   obtain ⟨j, t, v', hj, rfl, HGj, kL, HRj, lY⟩ := hrel
   clear HS9 HR9 HB9
   by_cases hlt : j < k
   ·have hji : (j : Int) < k := by omega
    have hjl : j < l0.length := by rw [HL0.out]; exact hlt
    have hdr : l0.drop j = l0[j] :: l0.drop (j + 1) := List.drop_eq_getElem_cons hjl
    have hG := HGj.out
    rw [hdr] at hG
    obtain ⟨c, kk, x, q1, q2, q3, q4, q5⟩ := hG.step
    obtain ⟨_, _, _, _, hnm⟩ := hG.at
    obtain ⟨rb, ro, hra, _, hrc⟩ := (aW HRj.out) j (vI l0[j]) (by rw [List.getElem?_map, gJ hjl]; rfl)
    have hat : ((l0[j].toNat : Nat) : Int) = l0[j] := Int.toNat_of_nonneg q4
    have aCe := gO (lW hG.ns (o8 yH z))
    have Vj : 0 < t.h.aF := by rw [hG.cp]; decide
    have hfree := TD v' t [120, 97] 0 6 kk l0[j].toNat c x wr kL.out.r.at hG.ok aCe.out hnm Vj q1 q2 (by rw [hat]; exact q3)
    obtain ⟨A, hA⟩ : ∃ A, l0[j] = A := ⟨_, rfl⟩
    rw [hA] at hfree hrc hat q4 q5
    obtain ⟨tN, htN⟩ : ∃ tN, t.free 6 kk A.toNat 0 = tN := ⟨_, rfl⟩
    rw [htN] at q5 hfree
    rw [hat] at hfree
    have vW : Hid (Calls Tryz.prog 33 #[.agg #[.slice v'.a1 v'.n1 v'.c1, .slice v'.hc.az 2 v'.hc.cz, .slice v'.hc.am 2 v'.hc.cm, .int .i64 (t.h.aF : Int), .slice v'.hc.al v'.hc.lc.length v'.hc.cl, .slice v'.hc.av t.h.live.length v'.hc.cv, .slice v'.a2 v'.ys.length v'.c2], .string ⟨#[120, 97]⟩, .int .i64 0, .int .i64 A] wr fun ev w' => ∃ v4, ev = .returned (.tuple #[.agg #[.slice v4.a1 v4.n1 v4.c1, .slice v4.hc.az 2 v4.hc.cz, .slice v4.hc.am 2 v4.hc.cm, .int .i64 (tN.h.aF : Int), .slice v4.hc.al v4.hc.lc.length v4.hc.cl, .slice v4.hc.av tN.h.live.length v4.hc.cv, .slice v4.a2 v4.ys.length v4.c2], .int .i64 0]) ∧ jY w' wr.heap.size tN v4 ∧ Below wr.heap.size wr w') := hfree
    have HGN := gO q5
    have HRA := gO hra
    unfold vI at hrc
    rw [hra]
    clear hfree htN q1 q2 q3 q4 q5 hA hat hdr hG hnm hra aCe hjl Vj
    obtain ⟨g0, g1, g2, g3, g4, g5, g6⟩ := gA7 kL.out.k
    go_upto_region 11 with (go_at_call 33; refine vW.out.mono ?_; rintro ev w10 ⟨v4, rfl, TP, mQ⟩)
    have bal := aC w10 (.cells #[.slice v4.a1 v4.n1 v4.c1, .slice v4.hc.az 2 v4.hc.cz, .slice v4.hc.am 2 v4.hc.cm, .int .i64 (tN.h.aF : Int), .slice v4.hc.al v4.hc.lc.length v4.hc.cl, .slice v4.hc.av tN.h.live.length v4.hc.cv, .slice v4.a2 v4.ys.length v4.c2] 47)
    have K11 := bC w10 #[.slice v4.a1 v4.n1 v4.c1, .slice v4.hc.az 2 v4.hc.cz, .slice v4.hc.am 2 v4.hc.cm, .int .i64 (tN.h.aF : Int), .slice v4.hc.al v4.hc.lc.length v4.hc.cl, .slice v4.hc.av tN.h.live.length v4.hc.cv, .slice v4.a2 v4.ys.length v4.c2] 47
    have aCf : jY (w10.alloc (.cells #[.slice v4.a1 v4.n1 v4.c1, .slice v4.hc.az 2 v4.hc.cz, .slice v4.hc.am 2 v4.hc.cm, .int .i64 (tN.h.aF : Int), .slice v4.hc.al v4.hc.lc.length v4.hc.cl, .slice v4.hc.av tN.h.live.length v4.hc.cv, .slice v4.a2 v4.ys.length v4.c2] 47)) wr.heap.size tN v4 := SR.below TP bal
    have SS11 := kL.out.below (Below.step mQ bal)
    have HB11 := gO (Below.step (Below.step lY.out mQ) bal)
    have HR11 := gO (own_below HRj.out (Below.step mQ bal) (Nat.le_refl _))
    clear bal TP mQ
    have mQ := True.intro
    generalize w10.alloc (.cells #[.slice v4.a1 v4.n1 v4.c1, .slice v4.hc.az 2 v4.hc.cz, .slice v4.hc.am 2 v4.hc.cm, .int .i64 (tN.h.aF : Int), .slice v4.hc.al v4.hc.lc.length v4.hc.cl, .slice v4.hc.av tN.h.live.length v4.hc.cv, .slice v4.a2 v4.ys.length v4.c2] 47) = w11 at *
    generalize w10.heap.size = B17 at *
    have YP : BT < wr.heap.size := kL.out.r.hr.gs
    have hBw : w.heap.size ≤ BT := aCc
    have HS12 : Hid (SS (((((((w11.setCell ⟨BT, 0, none⟩ (.slice v4.a1 v4.n1 v4.c1)).setCell ⟨BT, 1, none⟩ (.slice v4.hc.az 2 v4.hc.cz)).setCell ⟨BT, 2, none⟩ (.slice v4.hc.am 2 v4.hc.cm)).setCell ⟨BT, 3, none⟩ (.int .i64 (tN.h.aF : Int))).setCell ⟨BT, 4, none⟩ (.slice v4.hc.al v4.hc.lc.length v4.hc.cl)).setCell ⟨BT, 5, none⟩ (.slice v4.hc.av tN.h.live.length v4.hc.cv)).setCell ⟨BT, 6, none⟩ (.slice v4.a2 v4.ys.length v4.c2)) BT (fun _ => False) tN v4) := (jY.store (B := BT) aCf YP (a0 := .slice v'.a1 v'.n1 v'.c1) (a1 := .slice v'.hc.az 2 v'.hc.cz) (a2 := .slice v'.hc.am 2 v'.hc.cm) (a3 := .int .i64 (t.h.aF : Int)) (a4 := .slice v'.hc.al v'.hc.lc.length v'.hc.cl) (a5 := .slice v'.hc.av t.h.live.length v'.hc.cv) (a6 := .slice v'.a2 v'.ys.length v'.c2) (fun o => SS11.k o) SS11.fz).sub (fun _ h => h.elim)
    have HR12 := gO (TL (T := BT) HR11.out Py.out v4 tN)
    have HB12 := gO (tV (T := BT) HB11.out hBw v4 tN)
    obtain ⟨x0, x1, x2, x3, x4, x5, x6⟩ := gA7 K11
    obtain ⟨y0, y1, y2, y3, y4, y5, y6⟩ := gA7 SS11.k
    obtain ⟨f0, f1, f2, f3, f4, f5, f6⟩ := gF7 SS11.fz
    clear K11 mQ aCf SS11 HB11 HR11 g0 g1 g2 g3 g4 g5 g6 vW kL HRj lY HGj hrc
    go_upto_region 14 with fail
    clear y0 y1 y2 y3 y4 y5 y6 f0 f1 f2 f3 f4 f5 f6 x0 x1 x2 x3 x4 x5 x6
    generalize ((((((w11.setCell ⟨BT, 0, none⟩ (.slice v4.a1 v4.n1 v4.c1)).setCell ⟨BT, 1, none⟩ (.slice v4.hc.az 2 v4.hc.cz)).setCell ⟨BT, 2, none⟩ (.slice v4.hc.am 2 v4.hc.cm)).setCell ⟨BT, 3, none⟩ (.int .i64 (tN.h.aF : Int))).setCell ⟨BT, 4, none⟩ (.slice v4.hc.al v4.hc.lc.length v4.hc.cl)).setCell ⟨BT, 5, none⟩ (.slice v4.hc.av tN.h.live.length v4.hc.cv)).setCell ⟨BT, 6, none⟩ (.slice v4.a2 v4.ys.length v4.c2) = w12 at *
    go_wp2
    go_roundw
    case rel => exact ⟨j + 1, tN, v4, by omega, by go_num, HGN, HS12, (by rw [HRA.out] at HR12; exact HR12), HB12⟩
    case measure => simp [intOf]; omega
   ·obtain rfl : j = k := by omega
    have hG := HGj.out
    rw [List.drop_eq_nil_of_le (by have := HL0.out; omega)] at hG
    obtain ⟨tE, q1, q2, q3, q4, q5, q6⟩ := hG.gone
    obtain ⟨_, _, _, _, hnm⟩ := hG.at
    have hdes := yF v' t [120, 97] 6 wr kL.out.r.at hG.ok (lW hG.ns (o8 yH z)) hnm
    rw [q1] at hdes
    have HDE : Hid (Calls Tryz.prog 34 #[.agg #[.slice v'.a1 v'.n1 v'.c1, .slice v'.hc.az 2 v'.hc.cz, .slice v'.hc.am 2 v'.hc.cm, .int .i64 (t.h.aF : Int), .slice v'.hc.al v'.hc.lc.length v'.hc.cl, .slice v'.hc.av t.h.live.length v'.hc.cv, .slice v'.a2 v'.ys.length v'.c2], .string ⟨#[120, 97]⟩] wr fun ev w' => ∃ v4, ev = .returned (.tuple #[.agg #[.slice v4.a1 v4.n1 v4.c1, .slice v4.hc.az 2 v4.hc.cz, .slice v4.hc.am 2 v4.hc.cm, .int .i64 (tE.h.aF : Int), .slice v4.hc.al v4.hc.lc.length v4.hc.cl, .slice v4.hc.av tE.h.live.length v4.hc.cv, .slice v4.a2 v4.ys.length v4.c2], .int .i64 0]) ∧ jY w' wr.heap.size tE v4 ∧ Below wr.heap.size wr w') := by
     refine hdes.mono ?_
     rintro ev w' (⟨h, _⟩ | ⟨s', v4, h, h1, h2, h3⟩)
     ·cases h
     ·obtain rfl : tE = s' := by simpa using h
      exact ⟨v4, h1, h2, h3⟩
    have Q2 := gO q2
    have Q3 := gO q3
    have Q4 := gO q4
    have Q6 := gO q6
    have YP : BT < wr.heap.size := kL.out.r.hr.gs
    have hBw : w.heap.size ≤ BT := aCc
    clear hdes hG hnm q1 q2 q3 q4 q5 q6 HRj HGj
    obtain ⟨g0, g1, g2, g3, g4, g5, g6⟩ := gA7 kL.out.k
    go_upto_region 16 with (go_at_call 34; refine HDE.out.mono ?_; rintro ev w10 ⟨v4, rfl, TP, mQ⟩; have TM := kL.out.below mQ; obtain ⟨y0, y1, y2, y3, y4, y5, y6⟩ := gA7 TM.k; obtain ⟨f0, f1, f2, f3, f4, f5, f6⟩ := gF7 TM.fz; skip)
    have HS12 : Hid (SS (((((((w10.setCell ⟨BT, 0, none⟩ (.slice v4.a1 v4.n1 v4.c1)).setCell ⟨BT, 1, none⟩ (.slice v4.hc.az 2 v4.hc.cz)).setCell ⟨BT, 2, none⟩ (.slice v4.hc.am 2 v4.hc.cm)).setCell ⟨BT, 3, none⟩ (.int .i64 (tE.h.aF : Int))).setCell ⟨BT, 4, none⟩ (.slice v4.hc.al v4.hc.lc.length v4.hc.cl)).setCell ⟨BT, 5, none⟩ (.slice v4.hc.av tE.h.live.length v4.hc.cv)).setCell ⟨BT, 6, none⟩ (.slice v4.a2 v4.ys.length v4.c2)) BT (fun _ => False) tE v4) := (jY.store (B := BT) TP YP (a0 := .slice v'.a1 v'.n1 v'.c1) (a1 := .slice v'.hc.az 2 v'.hc.cz) (a2 := .slice v'.hc.am 2 v'.hc.cm) (a3 := .int .i64 (t.h.aF : Int)) (a4 := .slice v'.hc.al v'.hc.lc.length v'.hc.cl) (a5 := .slice v'.hc.av t.h.live.length v'.hc.cv) (a6 := .slice v'.a2 v'.ys.length v'.c2) (fun o => TM.k o) TM.fz).sub (fun _ h => h.elim)
    have HB12 := gO (tV (T := BT) (Below.step lY.out mQ) hBw v4 tE)
    clear y0 y1 y2 y3 y4 y5 y6 f0 f1 f2 f3 f4 f5 f6 g0 g1 g2 g3 g4 g5 g6 TM TP mQ HDE kL lY
    generalize ((((((w10.setCell ⟨BT, 0, none⟩ (.slice v4.a1 v4.n1 v4.c1)).setCell ⟨BT, 1, none⟩ (.slice v4.hc.az 2 v4.hc.cz)).setCell ⟨BT, 2, none⟩ (.slice v4.hc.am 2 v4.hc.cm)).setCell ⟨BT, 3, none⟩ (.int .i64 (tE.h.aF : Int))).setCell ⟨BT, 4, none⟩ (.slice v4.hc.al v4.hc.lc.length v4.hc.cl)).setCell ⟨BT, 5, none⟩ (.slice v4.hc.av tE.h.live.length v4.hc.cv)).setCell ⟨BT, 6, none⟩ (.slice v4.a2 v4.ys.length v4.c2) = w12 at *
    obtain ⟨g0, g1, g2, g3, g4, g5, g6⟩ := gA7 HS12.out.k
    have IJ := gO (Io v4 tE [120, 97] 0 w12 HS12.out.r.at Q2.out Q6.out Q4.out)
    go_upto_region 17 with (go_at_call 32; refine IJ.out.mono ?_; rintro ev w13 ⟨rfl, aCg⟩)
    have vS := Below.step aCg (aC w13 (.cells #[.slice none 0 0, .slice none 0 0, .slice none 0 0, .int .i64 0, .slice none 0 0, .slice none 0 0, .slice none 0 0] 47))
    have HS14 := gO (HS12.out.below vS)
    have HB14 := gO (Below.step HB12.out vS)
    clear aCg vS g0 g1 g2 g3 g4 g5 g6 IJ HS12 HB12
    generalize w13.alloc (.cells #[.slice none 0 0, .slice none 0 0, .slice none 0 0, .int .i64 0, .slice none 0 0, .slice none 0 0, .slice none 0 0] 47) = w14 at *
    have hlv : tE.h.live.length = 0 := by rw [Q3.out]; rfl
    have g5 := HS14.out.k 5
    unfold Sc.vals at g5
    simp only [gB, gC, gD] at g5
    rw [hlv] at g5
    go_wp2
    go_ret
    exact ⟨rfl, HB14.out⟩
theorem Ba (a0 : Int) (w0 : (Lit.int .i64 a0).wf = true) (a1 : Int) (w1 : (Lit.int .i64 a1).wf = true) {w : World} (ho : yK w) (hsz : Yr w) :
  Calls Tryz.prog 8 #[.int .i64 a0, .int .i64 a1] w fun ev w' => ev = .returned (.bool true) ∧ Below w.heap.size w w' := by
 have h0 := bounds_i64 w0
 have h1 := bounds_i64 w1
 exact EO a0 a1 (by omega) (by omega) (by omega) (by omega) w ho hsz
end
end Go.Proofs.YtcmpmobhongkiaaGreatDoor
