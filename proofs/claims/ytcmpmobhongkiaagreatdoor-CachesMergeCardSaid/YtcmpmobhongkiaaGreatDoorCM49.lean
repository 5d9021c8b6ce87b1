/- texts of this claim, joined. -/
import Derived.Test.YtcmpmobhongkiaaGreatDoorCM0
import Derived.Test.YtcmpmobhongkiaaGreatDoorCM13
import Derived.Test.YtcmpmobhongkiaaGreatDoorCM2
import Derived.Test.YtcmpmobhongkiaaGreatDoorCM38
import Derived.Test.YtcmpmobhongkiaaGreatDoorCM44
import Derived.Test.YtcmpmobhongkiaaGreatDoorCM46
import Derived.Test.YtcmpmobhongkiaaGreatDoorCM47
import Derived.Test.YtcmpmobhongkiaaGreatDoorCM48
import Derived.WalkKit
import Derived.OpenShut
import Derived.ProofKit
set_option linter.unusedVariables false
set_option linter.unusedSimpArgs false
namespace Go.Proofs.YtcmpmobhongkiaaGreatDoor
section
open Go.RowKit

theorem Dk (z : Nat) : oL [1, 2, 4, 8, 16, 32] (z : Int) = decide (z ∈ [1, 2, 4, 8, 16, 32]) := by
 rw [Bool.eq_iff_iff]
 unfold oL
 rw [List.contains_iff_mem, decide_eq_true_eq]
 simp only [List.mem_cons, List.not_mem_nil, or_false]
 omega
set_option maxHeartbeats 8000000 in
set_option maxRecDepth 100000 in
theorem AL (n a b c : Int) (hn : -9223372036854775808 ≤ n ∧ n ≤ 9223372036854775807) (ha : -9223372036854775808 ≤ a ∧ a ≤ 9223372036854775807) (hb : -9223372036854775808 ≤ b ∧ b ≤ 9223372036854775807) (hc : -9223372036854775808 ≤ c ∧ c ≤ 9223372036854775807) (w : World) (ho : yK w) (hsz : VG w) :
  Calls Tryz.prog 7 #[.int .i64 n, .int .i64 a, .int .i64 b, .int .i64 c] w fun ev w' => ev = .returned (.bool true) ∧ Below w.heap.size w w' := by
 obtain ⟨z, hk⟩ : ∃ k : Nat, 1 + pk n 40 = (k : Int) := ⟨(1 + pk n 40).toNat, by have := wC n 40 (by omega); omega⟩
 have hk1 : 1 ≤ z ∧ z ≤ 40 := by
  have := wC n 40 (by omega)
  have := UN n 40 (by omega)
  omega
 have HP0 : Hid (∀ W, Calls Tryz.prog 28 #[.int .i64 n, .int .i64 40] W fun e w' => e = .returned (.int .i64 ((z : Int) - 1)) ∧ W = w') := fun W => by
  have h := yP n 40 W hn.1 hn.2 (by omega) (by omega)
  rw [show pk n 40 = (z : Int) - 1 by omega] at h
  exact h
 obtain ⟨split, least, aF, en1, en2, en3, en4, en5, en6, en7, en8⟩ := UL a b c
 have HSU : Hid (Calls Tryz.prog 26 #[.int .i64 a, .int .i64 b, .int .i64 c] w fun ev w' => ∃ m1 d1 m2 d2, ev = .returned (.agg #[.slice m1 2 d1, .slice m2 2 d2, .int .i64 (split : Int), .int .i64 (least : Int), .int .i64 (aF : Int)]) ∧ Ez w' m1 m2 2 2 (AQ a b c) ∧ Below w.heap.size w w') := by
  have h := RY a b c w ha hb hc
  rw [en1, en2, en3] at h
  refine h.mono ?_
  rintro ev w' ⟨m1, d1, m2, d2, h1, h2, h3⟩
  exact ⟨m1, d1, m2, d2, h1, h2, h3⟩
 obtain ⟨h0, hh0⟩ : ∃ h0, newH (iJ (AQ a b c)) split least aF = h0 := ⟨_, rfl⟩
 have hk0 : dW h0 := by
  rw [← hh0]
  exact (LP (Ih a b c) en4 en5 en6 ⟨en7, en8⟩).1
 have Dp : Hid (∀ (W : World) (m1 m2 : Option Addr) (d1 d2 : Nat), Ez W m1 m2 2 2 (AQ a b c) → VG W → Calls Tryz.prog 27 #[.agg #[.slice m1 2 d1, .slice m2 2 d2, .int .i64 (split : Int), .int .i64 (least : Int), .int .i64 (aF : Int)]] W (Rj h0 W)) := fun W m1 m2 d1 d2 h1 h2 => by
  rw [← hh0]
  exact Uy m1 m2 2 2 d1 d2 (AQ a b c) split least aF W h1 (JZ a b c).1 (JZ a b c).2 (Ih a b c) en4 en5 en6 ⟨en7, en8⟩ h2
 clear en1 en2 en3 en4 en5 en6 en7 en8 hh0

 obtain ⟨S1, S2, i, ns, ns', hmg⟩ := Yc hk0 hk1.1 hk1.2
 have hS := xG hk0 6 (Nat.le_refl _)
 have hN := yD h0 6
 have hl0 : (dY h0 6).cs.length = 6 := rfl
 have Yd := hmg.c1
 have Ye := hmg.n0
 obtain ⟨S0, hS0⟩ : ∃ S0, dY h0 6 = S0 := ⟨_, rfl⟩
 unfold Rj at Dp
 rw [hS0] at hS hN hl0 Yd Ye
 simp only [hS0] at Dp
 have HKS := gO hS
 have HNS := gO hN
 have HC1 := gO Yd
 have HN1 := gO Ye
 have Si := gO hmg
 have HO := gO ho
 have HL0 := gO hl0
 have HZ := gO hk1
 have HF2 := gO (fun c hc => Nat.le_succ_of_le (hmg.f2 c hc) : ∀ c ∈ S2.cs, c.ns.length ≤ 1000)
 clear hS hN hS0 ho hk0 hk Yd Ye hmg hl0
 have e2 : (1 : Int) + ((z : Int) - 1) = z := by omega
 go_enter Tryz.func7, Tryz.ntmps7
 go_upto_region 2 with (go_at_call 26; refine HSU.out.mono ?_; rintro ev w1 ⟨m1, d1, m2, d2, rfl, hbt, hb1⟩)
 have bS := aB w1 (.cells #[.slice m1 2 d1, .slice m2 2 d2, .int .i64 (split : Int), .int .i64 (least : Int), .int .i64 (aF : Int)] 29)
 have KS := bC w1 #[.slice m1 2 d1, .slice m2 2 d2, .int .i64 (split : Int), .int .i64 (least : Int), .int .i64 (aF : Int)] 29
 obtain ⟨s0, s1, s2, s3, s4⟩ := gA5 KS
 have CS := gO (Below.step hb1 bS)
 have NH := gO (Dp.out _ m1 m2 d1 d2 (hbt.below bS) (hsz.below (Below.step hb1 bS)))
 clear hb1 bS KS hbt Dp HSU
 generalize w1.alloc (.cells #[.slice m1 2 d1, .slice m2 2 d2, .int .i64 (split : Int), .int .i64 (least : Int), .int .i64 (aF : Int)] 29) = w2 at *
 generalize w1.heap.size = BS at *
 have Yt : Hid (Calls Tryz.prog 27 #[.agg #[.slice m1 2 d1, .slice m2 2 d2, .int .i64 (split : Int), .int .i64 (least : Int), .int .i64 (aF : Int)]] w2 fun ev w' => ∃ v', ev = .returned (.tuple #[.agg (v'.vals S0), .int .i64 0]) ∧ kH w' w2.heap.size S0 v' ∧ Below w2.heap.size w2 w') := NH.out
 clear NH
 go_upto_region 3 with (go_at_call 27; refine Yt.out.mono ?_; rintro ev w3 ⟨v1, he, hn3, hb3⟩; (replace he : ev = .returned (.tuple #[.agg #[.slice v1.a1 v1.n1 v1.c1, .slice v1.hc.az 2 v1.hc.cz, .slice v1.hc.am 2 v1.hc.cm, .int .i64 (S0.h.aF : Int), .slice v1.hc.al v1.hc.lc.length v1.hc.cl, .slice v1.hc.av S0.h.live.length v1.hc.cv, .slice v1.a2 v1.ys.length v1.c2], .int .i64 0]) := he); subst he)
 have aBq : w.heap.size ≤ w3.heap.size := gQ CS.out.size hb3.size
 have HS4 : Hid (SS (w3.alloc (.cells #[.slice v1.a1 v1.n1 v1.c1, .slice v1.hc.az 2 v1.hc.cz, .slice v1.hc.am 2 v1.hc.cm, .int .i64 (S0.h.aF : Int), .slice v1.hc.al v1.hc.lc.length v1.hc.cl, .slice v1.hc.av S0.h.live.length v1.hc.cv, .slice v1.a2 v1.ys.length v1.c2] 47)) w3.heap.size (fun _ => False) S0 v1) := (kH.box hn3).sub (fun _ h => h.elim)
 have HB4 := gO (CS.out.trans ((Below.step hb3 (aB w3 (.cells #[.slice v1.a1 v1.n1 v1.c1, .slice v1.hc.az 2 v1.hc.cz, .slice v1.hc.am 2 v1.hc.cm, .int .i64 (S0.h.aF : Int), .slice v1.hc.al v1.hc.lc.length v1.hc.cl, .slice v1.hc.av S0.h.live.length v1.hc.cv, .slice v1.a2 v1.ys.length v1.c2] 47))).mono CS.out.size))
 clear s0 s1 s2 s3 s4 Yt hn3 hb3 CS
 generalize w3.alloc (.cells #[.slice v1.a1 v1.n1 v1.c1, .slice v1.hc.az 2 v1.hc.cz, .slice v1.hc.am 2 v1.hc.cm, .int .i64 (S0.h.aF : Int), .slice v1.hc.al v1.hc.lc.length v1.hc.cl, .slice v1.hc.av S0.h.live.length v1.hc.cv, .slice v1.a2 v1.ys.length v1.c2] 47) = w4 at *
 generalize w3.heap.size = B6 at *

 go_upto_region 4 with (go_at_call 28; refine (HP0.out _).mono ?_; rintro ev w' ⟨rfl, rfl⟩)
 have aBr : v1.ys.length = 6 := by have h := congrArg List.length HS4.out.r.cy; rw [List.length_map, HL0.out] at h; exact h
 have HLY1 := gO aBr
 clear aBr
 obtain ⟨g0, g1, g2, g3, g4, g5, g6⟩ := gA7 HS4.out.k
 have hB6 : B6 < w4.heap.size := HS4.out.r.hr.gs
 have HCR1 : Hid (Calls Tryz.prog 31 #[.agg #[.slice v1.a1 v1.n1 v1.c1, .slice v1.hc.az 2 v1.hc.cz, .slice v1.hc.am 2 v1.hc.cm, .int .i64 (S0.h.aF : Int), .slice v1.hc.al v1.hc.lc.length v1.hc.cl, .slice v1.hc.av S0.h.live.length v1.hc.cv, .slice v1.a2 v1.ys.length v1.c2], .string ⟨#[120, 97]⟩, .int .i64 z, .int .i64 1] w4 (En S1 w4)) := tN v1 S0 S1 [120, 97] z w4 HS4.out.r.at HKS.out HNS.out (by decide) (by have := HZ.out; omega) HN1.out HC1.out
 go_upto_region 6 with (go_at_call 31; refine HCR1.out.mono ?_; rintro ev w5 ⟨v2, he, hn5, hb5⟩; (replace he : ev = .returned (.tuple #[.agg #[.slice v2.a1 v2.n1 v2.c1, .slice v2.hc.az 2 v2.hc.cz, .slice v2.hc.am 2 v2.hc.cm, .int .i64 (S1.h.aF : Int), .slice v2.hc.al v2.hc.lc.length v2.hc.cl, .slice v2.hc.av S1.h.live.length v2.hc.cv, .slice v2.a2 v2.ys.length v2.c2], .int .i64 0]) := he); subst he; have Ii := HS4.out.below hb5; obtain ⟨y0, y1, y2, y3, y4, y5, y6⟩ := gA7 Ii.k; obtain ⟨f0, f1, f2, f3, f4, f5, f6⟩ := gF7 Ii.fz; skip)
 have HS6 : Hid (SS (((((((w5.setCell ⟨B6, 0, none⟩ (.slice v2.a1 v2.n1 v2.c1)).setCell ⟨B6, 1, none⟩ (.slice v2.hc.az 2 v2.hc.cz)).setCell ⟨B6, 2, none⟩ (.slice v2.hc.am 2 v2.hc.cm)).setCell ⟨B6, 3, none⟩ (.int .i64 (S1.h.aF : Int))).setCell ⟨B6, 4, none⟩ (.slice v2.hc.al v2.hc.lc.length v2.hc.cl)).setCell ⟨B6, 5, none⟩ (.slice v2.hc.av S1.h.live.length v2.hc.cv)).setCell ⟨B6, 6, none⟩ (.slice v2.a2 v2.ys.length v2.c2)) B6 (fun _ => False) S1 v2) := (kH.store (B := B6) hn5 hB6 (a0 := .slice v1.a1 v1.n1 v1.c1) (a1 := .slice v1.hc.az 2 v1.hc.cz) (a2 := .slice v1.hc.am 2 v1.hc.cm) (a3 := .int .i64 (S0.h.aF : Int)) (a4 := .slice v1.hc.al v1.hc.lc.length v1.hc.cl) (a5 := .slice v1.hc.av S0.h.live.length v1.hc.cv) (a6 := .slice v1.a2 v1.ys.length v1.c2) (fun o => Ii.k o) Ii.fz).sub (fun _ h => h.elim)
 have HB6 := gO (uG (T := B6) (Below.step HB4.out hb5) aBq v2 S1)
 clear y0 y1 y2 y3 y4 y5 y6 f0 f1 f2 f3 f4 f5 f6 g0 g1 g2 g3 g4 g5 g6 Ii hn5 hb5 HCR1 HS4 HB4 hB6
 generalize ((((((w5.setCell ⟨B6, 0, none⟩ (.slice v2.a1 v2.n1 v2.c1)).setCell ⟨B6, 1, none⟩ (.slice v2.hc.az 2 v2.hc.cz)).setCell ⟨B6, 2, none⟩ (.slice v2.hc.am 2 v2.hc.cm)).setCell ⟨B6, 3, none⟩ (.int .i64 (S1.h.aF : Int))).setCell ⟨B6, 4, none⟩ (.slice v2.hc.al v2.hc.lc.length v2.hc.cl)).setCell ⟨B6, 5, none⟩ (.slice v2.hc.av S1.h.live.length v2.hc.cv)).setCell ⟨B6, 6, none⟩ (.slice v2.a2 v2.ys.length v2.c2) = w6 at *
 obtain ⟨g0, g1, g2, g3, g4, g5, g6⟩ := gA7 HS6.out.k
 have hB6 : B6 < w6.heap.size := HS6.out.r.hr.gs
 have aBs : v2.ys.length = S1.cs.length := by have h := congrArg List.length HS6.out.r.cy; rw [List.length_map] at h; exact h
 have HLY2 := gO aBs
 clear aBs
 have HCR2 : Hid (Calls Tryz.prog 31 #[.agg #[.slice v2.a1 v2.n1 v2.c1, .slice v2.hc.az 2 v2.hc.cz, .slice v2.hc.am 2 v2.hc.cm, .int .i64 (S1.h.aF : Int), .slice v2.hc.al v2.hc.lc.length v2.hc.cl, .slice v2.hc.av S1.h.live.length v2.hc.cv, .slice v2.a2 v2.ys.length v2.c2], .string ⟨#[120, 98]⟩, .int .i64 z, .int .i64 1] w6 (En S2 w6)) := tN v2 S1 S2 [120, 98] z w6 HS6.out.r.at Si.out.k1 Si.out.f1 (by decide) (by have := HZ.out; omega) Si.out.n1 Si.out.c2
 go_upto_region 8 with (go_at_call 31; refine HCR2.out.mono ?_; rintro ev w7 ⟨v3, he, hn7, hb7⟩; (replace he : ev = .returned (.tuple #[.agg #[.slice v3.a1 v3.n1 v3.c1, .slice v3.hc.az 2 v3.hc.cz, .slice v3.hc.am 2 v3.hc.cm, .int .i64 (S2.h.aF : Int), .slice v3.hc.al v3.hc.lc.length v3.hc.cl, .slice v3.hc.av S2.h.live.length v3.hc.cv, .slice v3.a2 v3.ys.length v3.c2], .int .i64 0]) := he); subst he; have Ii := HS6.out.below hb7; obtain ⟨y0, y1, y2, y3, y4, y5, y6⟩ := gA7 Ii.k; obtain ⟨f0, f1, f2, f3, f4, f5, f6⟩ := gF7 Ii.fz; skip)
 have HS8 : Hid (SS (((((((w7.setCell ⟨B6, 0, none⟩ (.slice v3.a1 v3.n1 v3.c1)).setCell ⟨B6, 1, none⟩ (.slice v3.hc.az 2 v3.hc.cz)).setCell ⟨B6, 2, none⟩ (.slice v3.hc.am 2 v3.hc.cm)).setCell ⟨B6, 3, none⟩ (.int .i64 (S2.h.aF : Int))).setCell ⟨B6, 4, none⟩ (.slice v3.hc.al v3.hc.lc.length v3.hc.cl)).setCell ⟨B6, 5, none⟩ (.slice v3.hc.av S2.h.live.length v3.hc.cv)).setCell ⟨B6, 6, none⟩ (.slice v3.a2 v3.ys.length v3.c2)) B6 (fun _ => False) S2 v3) := (kH.store (B := B6) hn7 hB6 (a0 := .slice v2.a1 v2.n1 v2.c1) (a1 := .slice v2.hc.az 2 v2.hc.cz) (a2 := .slice v2.hc.am 2 v2.hc.cm) (a3 := .int .i64 (S1.h.aF : Int)) (a4 := .slice v2.hc.al v2.hc.lc.length v2.hc.cl) (a5 := .slice v2.hc.av S1.h.live.length v2.hc.cv) (a6 := .slice v2.a2 v2.ys.length v2.c2) (fun o => Ii.k o) Ii.fz).sub (fun _ h => h.elim)
 have HB8 := gO (uG (T := B6) (Below.step HB6.out hb7) aBq v3 S2)
 clear y0 y1 y2 y3 y4 y5 y6 f0 f1 f2 f3 f4 f5 f6 g0 g1 g2 g3 g4 g5 g6 Ii hn7 hb7 HCR2 HS6 HB6 hB6
 generalize ((((((w7.setCell ⟨B6, 0, none⟩ (.slice v3.a1 v3.n1 v3.c1)).setCell ⟨B6, 1, none⟩ (.slice v3.hc.az 2 v3.hc.cz)).setCell ⟨B6, 2, none⟩ (.slice v3.hc.am 2 v3.hc.cm)).setCell ⟨B6, 3, none⟩ (.int .i64 (S2.h.aF : Int))).setCell ⟨B6, 4, none⟩ (.slice v3.hc.al v3.hc.lc.length v3.hc.cl)).setCell ⟨B6, 5, none⟩ (.slice v3.hc.av S2.h.live.length v3.hc.cv)).setCell ⟨B6, 6, none⟩ (.slice v3.a2 v3.ys.length v3.c2) = w8 at *
 have aBt : v3.ys.length = S2.cs.length := by have h := congrArg List.length HS8.out.r.cy; rw [List.length_map] at h; exact h
 have HLY3 := gO aBt
 clear aBt
 obtain ⟨g0, g1, g2, g3, g4, g5, g6⟩ := gA7 HS8.out.k
 have hia : S2.named [120, 97] = some i := by rw [rF]; exact Si.out.na
 have HIA := gO hia
 have HTW : Hid (Calls Tryz.prog 31 #[.agg #[.slice v3.a1 v3.n1 v3.c1, .slice v3.hc.az 2 v3.hc.cz, .slice v3.hc.am 2 v3.hc.cm, .int .i64 (S2.h.aF : Int), .slice v3.hc.al v3.hc.lc.length v3.hc.cl, .slice v3.hc.av S2.h.live.length v3.hc.cv, .slice v3.a2 v3.ys.length v3.c2], .string ⟨#[120, 97]⟩, .int .i64 z, .int .i64 1] w8 (fun ev w' => ev = .returned (.tuple #[.agg #[.slice none 0 0, .slice none 0 0, .slice none 0 0, .int .i64 0, .slice none 0 0, .slice none 0 0, .slice none 0 0], .int .i64 5]) ∧ Below w8.heap.size w8 w')) := Az v3 S2 [120, 97] z i w8 HS8.out.r.at Si.out.k2 HF2.out (by decide) (by have := HZ.out; omega) hia
 clear hia
 go_upto_region 9 with (go_at_call 31; refine HTW.out.mono ?_; rintro ev w9 ⟨rfl, hb9⟩)
 have rU := Below.step hb9 (aB w9 (.cells #[.slice none 0 0, .slice none 0 0, .slice none 0 0, .int .i64 0, .slice none 0 0, .slice none 0 0, .slice none 0 0] 47))
 have GL := gO (HS8.out.below rU)
 have CS := gO (Below.step HB8.out rU)
 clear hb9 rU HTW g0 g1 g2 g3 g4 g5 g6 HS8 HB8
 generalize w9.alloc (.cells #[.slice none 0 0, .slice none 0 0, .slice none 0 0, .int .i64 0, .slice none 0 0, .slice none 0 0, .slice none 0 0] 47) = wa at *
 generalize w9.heap.size = B17 at *
 obtain ⟨g0, g1, g2, g3, g4, g5, g6⟩ := gA7 GL.out.k
 have hcp2 : 0 < S2.h.aF := Si.out.k2.hk.cp.1
 have EK := gO (Oq v3 S2 [120, 97] 0 i wa GL.out.r.at Si.out.k2 HF2.out HIA.out hcp2 (HO.out.below CS.out))
 have aBu : v3.ys.length = v2.ys.length := by rw [HLY3.out, HLY2.out]; exact Si.out.l2
 have hl7 : ¬ ((6 : Int) + 1 < v2.ys.length) := by have := HLY2.out; have := Si.out.l1; omega
 have aEj : ¬ ((7 : Int) < v2.ys.length) := by omega
 have HL32 := gO aBu
 clear hcp2 aBu
 cases hone : S2.one i 0 with
 | none =>
  have HAN : Hid (Calls Tryz.prog 32 #[.agg #[.slice v3.a1 v3.n1 v3.c1, .slice v3.hc.az 2 v3.hc.cz, .slice v3.hc.am 2 v3.hc.cm, .int .i64 (S2.h.aF : Int), .slice v3.hc.al v3.hc.lc.length v3.hc.cl, .slice v3.hc.av S2.h.live.length v3.hc.cv, .slice v3.a2 v3.ys.length v3.c2], .string ⟨#[120, 97]⟩, .int .i64 0] wa fun ev w' => ev = .returned (.tuple #[.agg #[.slice none 0 0, .slice none 0 0, .slice none 0 0, .int .i64 0, .slice none 0 0, .slice none 0 0, .slice none 0 0], .int .i64 0, .int .i64 6]) ∧ Below wa.heap.size wa w') := by
   refine EK.out.mono ?_
   rintro ev w' (⟨_, h, hb⟩ | ⟨s', b', v'', h, _⟩)
   ·exact ⟨h, hb⟩
   ·rw [hone] at h
    cases h
  clear EK hone
  go_upto_region 10 with (go_at_call 32; refine HAN.out.mono ?_; rintro ev wb ⟨rfl, hbb⟩)
  have EG := Below.step hbb (aB wb (.cells #[.slice none 0 0, .slice none 0 0, .slice none 0 0, .int .i64 0, .slice none 0 0, .slice none 0 0, .slice none 0 0] 47))
  have VP := gO (GL.out.below EG)
  have HBB := gO (Below.step CS.out EG)
  clear hbb EG HAN g0 g1 g2 g3 g4 g5 g6 GL CS
  generalize wb.alloc (.cells #[.slice none 0 0, .slice none 0 0, .slice none 0 0, .int .i64 0, .slice none 0 0, .slice none 0 0, .slice none 0 0] 47) = wc at *
  generalize wb.heap.size = B19 at *
  obtain ⟨g0, g1, g2, g3, g4, g5, g6⟩ := gA7 VP.out.k
  rw [HL32.out] at g6
  rw [HLY1.out]
  go_wp2
  go_ret
  exact ⟨rfl, HBB.out⟩
 | some r =>
  obtain ⟨t, A⟩ := r
  obtain ⟨q1, q2, q3, q4, q5, ⟨c0, kk, x0, q6, q7, q8, q9⟩, t1, q10, q11, q12, q13, q14⟩ := Si.out.take hone
  have HAS : Hid (Calls Tryz.prog 32 #[.agg #[.slice v3.a1 v3.n1 v3.c1, .slice v3.hc.az 2 v3.hc.cz, .slice v3.hc.am 2 v3.hc.cm, .int .i64 (S2.h.aF : Int), .slice v3.hc.al v3.hc.lc.length v3.hc.cl, .slice v3.hc.av S2.h.live.length v3.hc.cv, .slice v3.a2 v3.ys.length v3.c2], .string ⟨#[120, 97]⟩, .int .i64 0] wa fun ev w' => ∃ v4, ev = .returned (.tuple #[.agg #[.slice v4.a1 v4.n1 v4.c1, .slice v4.hc.az 2 v4.hc.cz, .slice v4.hc.am 2 v4.hc.cm, .int .i64 (t.h.aF : Int), .slice v4.hc.al v4.hc.lc.length v4.hc.cl, .slice v4.hc.av t.h.live.length v4.hc.cv, .slice v4.a2 v4.ys.length v4.c2], .int .i64 A, .int .i64 0]) ∧ kH w' wa.heap.size t v4 ∧ Below wa.heap.size wa w') := by
   refine EK.out.mono ?_
   rintro ev w' (⟨h, _⟩ | ⟨s', b', v'', h, h1, h2, h3⟩)
   ·rw [hone] at h
    cases h
   ·rw [hone] at h
    obtain ⟨rfl, rfl⟩ : t = s' ∧ A = b' := by simpa using h
    exact ⟨v'', h1, h2, h3⟩
  have hat : ((A.toNat : Nat) : Int) = A := Int.toNat_of_nonneg q9
  have HAT := gO hat
  have Q1 := gO q1
  have Q2 := gO (fun c hc => Nat.le_succ_of_le (q2 c hc) : ∀ c ∈ t.cs, c.ns.length ≤ 1000)
  have Q3 := gO q3
  have Q4 := gO q4
  have Q6 := gO q6
  have Q7 := gO q7
  have Q8 : Hid (lG t.w c0 x0 ((A.toNat : Nat) : Int)) := by unfold Hid; rw [hat]; exact q8
  have Q10 := gO q10
  have Q11 := gO q11
  have Q12 := gO (fun c hc => Nat.le_succ_of_le (q12 c hc) : ∀ c ∈ t1.cs, c.ns.length ≤ 1000)
  have Q13 := gO q13
  have Q14 := gO q14
  clear EK hone q1 q2 q3 q4 q5 q6 q7 q8 q9 q10 q11 q12 q13 q14 hat
  go_upto_region 10 with (go_at_call 32; refine HAS.out.mono ?_; rintro ev wb ⟨v4, rfl, hnb, hbb⟩)
  have bal := aB wb (.cells #[.slice v4.a1 v4.n1 v4.c1, .slice v4.hc.az 2 v4.hc.cz, .slice v4.hc.am 2 v4.hc.cm, .int .i64 (t.h.aF : Int), .slice v4.hc.al v4.hc.lc.length v4.hc.cl, .slice v4.hc.av t.h.live.length v4.hc.cv, .slice v4.a2 v4.ys.length v4.c2] 47)
  have EG := Below.step hbb bal
  have HTB : Hid (SS (wb.alloc (.cells #[.slice v4.a1 v4.n1 v4.c1, .slice v4.hc.az 2 v4.hc.cz, .slice v4.hc.am 2 v4.hc.cm, .int .i64 (t.h.aF : Int), .slice v4.hc.al v4.hc.lc.length v4.hc.cl, .slice v4.hc.av t.h.live.length v4.hc.cv, .slice v4.a2 v4.ys.length v4.c2] 47)) wb.heap.size (fun _ => False) t v4) := (kH.box hnb).sub (fun _ h => h.elim)
  have VP := gO (GL.out.below EG)
  have HBB := gO (Below.step CS.out EG)
  have aEk : w.heap.size ≤ wb.heap.size := gQ CS.out.size hbb.size
  clear hbb EG bal hnb HAS g0 g1 g2 g3 g4 g5 g6 GL CS
  generalize wb.alloc (.cells #[.slice v4.a1 v4.n1 v4.c1, .slice v4.hc.az 2 v4.hc.cz, .slice v4.hc.am 2 v4.hc.cm, .int .i64 (t.h.aF : Int), .slice v4.hc.al v4.hc.lc.length v4.hc.cl, .slice v4.hc.av t.h.live.length v4.hc.cv, .slice v4.a2 v4.ys.length v4.c2] 47) = wc at *
  generalize wb.heap.size = B19 at *
  obtain ⟨g0, g1, g2, g3, g4, g5, g6⟩ := gA7 VP.out.k
  rw [HL32.out] at g6
  rw [HLY1.out]
  go_upto_region 14 with fail
  clear g0 g1 g2 g3 g4 g5 g6 hl7 aEj
  obtain ⟨g0, g1, g2, g3, g4, g5, g6⟩ := gA7 HTB.out.k
  have aBv : 0 < t.h.aF := Q1.out.hk.cp.1
  have hfr := RS v4 t [120, 98] 0 i kk A.toNat c0 x0 wc HTB.out.r.at Q1.out Q2.out Q4.out aBv Q6.out Q7.out Q8.out
  rw [HAT.out] at hfr
  obtain ⟨tF, htF⟩ : ∃ tF, t.free i kk A.toNat 0 = tF := ⟨_, rfl⟩
  rw [htF] at hfr
  have vZ : Hid (Calls Tryz.prog 33 #[.agg #[.slice v4.a1 v4.n1 v4.c1, .slice v4.hc.az 2 v4.hc.cz, .slice v4.hc.am 2 v4.hc.cm, .int .i64 (t.h.aF : Int), .slice v4.hc.al v4.hc.lc.length v4.hc.cl, .slice v4.hc.av t.h.live.length v4.hc.cv, .slice v4.a2 v4.ys.length v4.c2], .string ⟨#[120, 98]⟩, .int .i64 0, .int .i64 A] wc fun ev w' => ∃ v5, ev = .returned (.tuple #[.agg #[.slice v5.a1 v5.n1 v5.c1, .slice v5.hc.az 2 v5.hc.cz, .slice v5.hc.am 2 v5.hc.cm, .int .i64 (tF.h.aF : Int), .slice v5.hc.al v5.hc.lc.length v5.hc.cl, .slice v5.hc.av tF.h.live.length v5.hc.cv, .slice v5.a2 v5.ys.length v5.c2], .int .i64 0]) ∧ kH w' wc.heap.size tF v5 ∧ Below wc.heap.size wc w') := hfr
  clear hfr htF aBv
  go_upto_region 15 with (go_at_call 33; refine vZ.out.mono ?_; rintro ev wd ⟨v5, rfl, hnd, hbd⟩)
  have nM := Below.step hbd (aB wd (.cells #[.slice v5.a1 v5.n1 v5.c1, .slice v5.hc.az 2 v5.hc.cz, .slice v5.hc.am 2 v5.hc.cm, .int .i64 (tF.h.aF : Int), .slice v5.hc.al v5.hc.lc.length v5.hc.cl, .slice v5.hc.av tF.h.live.length v5.hc.cv, .slice v5.a2 v5.ys.length v5.c2] 47))
  have HTE := gO (HTB.out.below nM)
  have Yn := gO (Below.step HBB.out nM)
  clear hbd nM hnd vZ g0 g1 g2 g3 g4 g5 g6 HTB HBB VP
  generalize wd.alloc (.cells #[.slice v5.a1 v5.n1 v5.c1, .slice v5.hc.az 2 v5.hc.cz, .slice v5.hc.am 2 v5.hc.cm, .int .i64 (tF.h.aF : Int), .slice v5.hc.al v5.hc.lc.length v5.hc.cl, .slice v5.hc.av tF.h.live.length v5.hc.cv, .slice v5.a2 v5.ys.length v5.c2] 47) = we at *
  generalize wd.heap.size = B22 at *
  obtain ⟨g0, g1, g2, g3, g4, g5, g6⟩ := gA7 HTE.out.k
  have aBx : B19 < we.heap.size := HTE.out.r.hr.gs
  have hde := yI v4 t [120, 97] i we HTE.out.r.at Q1.out Q2.out Q3.out
  rw [Q10.out] at hde
  have VT : Hid (Calls Tryz.prog 34 #[.agg #[.slice v4.a1 v4.n1 v4.c1, .slice v4.hc.az 2 v4.hc.cz, .slice v4.hc.am 2 v4.hc.cm, .int .i64 (t.h.aF : Int), .slice v4.hc.al v4.hc.lc.length v4.hc.cl, .slice v4.hc.av t.h.live.length v4.hc.cv, .slice v4.a2 v4.ys.length v4.c2], .string ⟨#[120, 97]⟩] we fun ev w' => ∃ v6, ev = .returned (.tuple #[.agg #[.slice v6.a1 v6.n1 v6.c1, .slice v6.hc.az 2 v6.hc.cz, .slice v6.hc.am 2 v6.hc.cm, .int .i64 (t1.h.aF : Int), .slice v6.hc.al v6.hc.lc.length v6.hc.cl, .slice v6.hc.av t1.h.live.length v6.hc.cv, .slice v6.a2 v6.ys.length v6.c2], .int .i64 0]) ∧ kH w' we.heap.size t1 v6 ∧ Below we.heap.size we w') := by
   refine hde.mono ?_
   rintro ev w' (⟨h, _⟩ | ⟨s', v6, h, h1, h2, h3⟩)
   ·cases h
   ·obtain rfl : t1 = s' := by simpa using h
    exact ⟨v6, h1, h2, h3⟩
  clear hde
  go_upto_region 16 with (go_at_call 34; refine VT.out.mono ?_; rintro ev wf ⟨v6, rfl, hnf, hbf⟩; have Ii := HTE.out.below hbf; obtain ⟨y0, y1, y2, y3, y4, y5, y6⟩ := gA7 Ii.k; obtain ⟨f0, f1, f2, f3, f4, f5, f6⟩ := gF7 Ii.fz; skip)
  have HTG : Hid (SS (((((((wf.setCell ⟨B19, 0, none⟩ (.slice v6.a1 v6.n1 v6.c1)).setCell ⟨B19, 1, none⟩ (.slice v6.hc.az 2 v6.hc.cz)).setCell ⟨B19, 2, none⟩ (.slice v6.hc.am 2 v6.hc.cm)).setCell ⟨B19, 3, none⟩ (.int .i64 (t1.h.aF : Int))).setCell ⟨B19, 4, none⟩ (.slice v6.hc.al v6.hc.lc.length v6.hc.cl)).setCell ⟨B19, 5, none⟩ (.slice v6.hc.av t1.h.live.length v6.hc.cv)).setCell ⟨B19, 6, none⟩ (.slice v6.a2 v6.ys.length v6.c2)) B19 (fun _ => False) t1 v6) := (kH.store (B := B19) hnf aBx (a0 := .slice v4.a1 v4.n1 v4.c1) (a1 := .slice v4.hc.az 2 v4.hc.cz) (a2 := .slice v4.hc.am 2 v4.hc.cm) (a3 := .int .i64 (t.h.aF : Int)) (a4 := .slice v4.hc.al v4.hc.lc.length v4.hc.cl) (a5 := .slice v4.hc.av t.h.live.length v4.hc.cv) (a6 := .slice v4.a2 v4.ys.length v4.c2) (fun o => Ii.k o) Ii.fz).sub (fun _ h => h.elim)
  have HBG := gO (uG (T := B19) (Below.step Yn.out hbf) aEk v6 t1)
  clear y0 y1 y2 y3 y4 y5 y6 f0 f1 f2 f3 f4 f5 f6 g0 g1 g2 g3 g4 g5 g6 Ii hnf hbf VT HTE Yn aBx
  generalize ((((((wf.setCell ⟨B19, 0, none⟩ (.slice v6.a1 v6.n1 v6.c1)).setCell ⟨B19, 1, none⟩ (.slice v6.hc.az 2 v6.hc.cz)).setCell ⟨B19, 2, none⟩ (.slice v6.hc.am 2 v6.hc.cm)).setCell ⟨B19, 3, none⟩ (.int .i64 (t1.h.aF : Int))).setCell ⟨B19, 4, none⟩ (.slice v6.hc.al v6.hc.lc.length v6.hc.cl)).setCell ⟨B19, 5, none⟩ (.slice v6.hc.av t1.h.live.length v6.hc.cv)).setCell ⟨B19, 6, none⟩ (.slice v6.a2 v6.ys.length v6.c2) = wg at *
  obtain ⟨g0, g1, g2, g3, g4, g5, g6⟩ := gA7 HTG.out.k
  have hde := yI v6 t1 [120, 98] i wg HTG.out.r.at Q11.out Q12.out Q13.out
  rcases Q14.out with ⟨hn0, hz0⟩ | ⟨hz0, t2, hn0⟩
  ·rw [hn0] at hde
   have VT : Hid (Calls Tryz.prog 34 #[.agg #[.slice v6.a1 v6.n1 v6.c1, .slice v6.hc.az 2 v6.hc.cz, .slice v6.hc.am 2 v6.hc.cm, .int .i64 (t1.h.aF : Int), .slice v6.hc.al v6.hc.lc.length v6.hc.cl, .slice v6.hc.av t1.h.live.length v6.hc.cv, .slice v6.a2 v6.ys.length v6.c2], .string ⟨#[120, 98]⟩] wg fun ev w' => ev = .returned (.tuple #[.agg #[.slice none 0 0, .slice none 0 0, .slice none 0 0, .int .i64 0, .slice none 0 0, .slice none 0 0, .slice none 0 0], .int .i64 7]) ∧ Below wg.heap.size wg w') := by
    refine hde.mono ?_
    rintro ev w' (⟨_, h, hb⟩ | ⟨s', v', h, _⟩)
    ·exact ⟨h, hb⟩
    ·cases h
   have hin : oL [1, 2, 4, 8, 16, 32] (z : Int) = false := by rw [Dk, decide_eq_false hz0]
   have HIN := gO hin
   clear hde hn0 hz0 hin
   go_upto_region 17 with (go_at_call 34; refine VT.out.mono ?_; rintro ev wh ⟨rfl, hbh⟩)
   have HBH := gO (Below.step HBG.out (Below.step hbh (aB wh (.cells #[.slice none 0 0, .slice none 0 0, .slice none 0 0, .int .i64 0, .slice none 0 0, .slice none 0 0, .slice none 0 0] 47))))
   clear hbh VT g0 g1 g2 g3 g4 g5 g6 HTG HBG
   generalize wh.alloc (.cells #[.slice none 0 0, .slice none 0 0, .slice none 0 0, .int .i64 0, .slice none 0 0, .slice none 0 0, .slice none 0 0] 47) = wi at *
   generalize wh.heap.size = B25 at *
   have bsl := aB wi (.cells #[.int .i64 1, .int .i64 2, .int .i64 4, .int .i64 8, .int .i64 16, .int .i64 32] 3)
   have hcon := fM (some ⟨wi.heap.size, 0, none⟩) 6 [1, 2, 4, 8, 16, 32] z (wi.alloc (.cells #[.int .i64 1, .int .i64 2, .int .i64 4, .int .i64 8, .int .i64 16, .int .i64 32] 3)) (by decide) (fun j v hj => ⟨wi.heap.size, 0, rfl, by simp, by
    rw [Nat.zero_add]
    have h9 := bC wi #[.int .i64 1, .int .i64 2, .int .i64 4, .int .i64 8, .int .i64 16, .int .i64 32] 3 j
    rw [h9, ← hj]
    simp [vI]⟩)
   rw [HIN.out] at hcon
   have HCO := gO hcon
   have ZP := gO (Below.step HBH.out bsl)
   clear hcon bsl
   go_upto_region 18 with fail
   generalize wi.alloc (.cells #[.int .i64 1, .int .i64 2, .int .i64 4, .int .i64 8, .int .i64 16, .int .i64 32] 3) = wj at *
   generalize wi.heap.size = B27 at *
   go_wp2_with (go_at_call 35; refine HCO.out.mono ?_; rintro ev wz ⟨rfl, rfl⟩)
   go_ret
   exact ⟨rfl, ZP.out⟩

  ·rw [hn0] at hde
   have VT : Hid (Calls Tryz.prog 34 #[.agg #[.slice v6.a1 v6.n1 v6.c1, .slice v6.hc.az 2 v6.hc.cz, .slice v6.hc.am 2 v6.hc.cm, .int .i64 (t1.h.aF : Int), .slice v6.hc.al v6.hc.lc.length v6.hc.cl, .slice v6.hc.av t1.h.live.length v6.hc.cv, .slice v6.a2 v6.ys.length v6.c2], .string ⟨#[120, 98]⟩] wg fun ev w' => ∃ v7 : Sc, ev = .returned (.tuple #[.agg #[.slice v7.a1 v7.n1 v7.c1, .slice v7.hc.az 2 v7.hc.cz, .slice v7.hc.am 2 v7.hc.cm, .int .i64 (t2.h.aF : Int), .slice v7.hc.al v7.hc.lc.length v7.hc.cl, .slice v7.hc.av t2.h.live.length v7.hc.cv, .slice v7.a2 v7.ys.length v7.c2], .int .i64 0]) ∧ Below wg.heap.size wg w') := by
    refine hde.mono ?_
    rintro ev w' (⟨h, _⟩ | ⟨s', v7, h, h1, h2, h3⟩)
    ·cases h
    ·obtain rfl : t2 = s' := by simpa using h
     exact ⟨v7, h1, h3⟩
   have hin : oL [1, 2, 4, 8, 16, 32] (z : Int) = true := by rw [Dk, decide_eq_true hz0]
   have HIN := gO hin
   clear hde hn0 hz0 hin
   go_upto_region 17 with (go_at_call 34; refine VT.out.mono ?_; rintro ev wh ⟨v7, rfl, hbh⟩)
   have HBH := gO (Below.step HBG.out (Below.step hbh (aB wh (.cells #[.slice v7.a1 v7.n1 v7.c1, .slice v7.hc.az 2 v7.hc.cz, .slice v7.hc.am 2 v7.hc.cm, .int .i64 (t2.h.aF : Int), .slice v7.hc.al v7.hc.lc.length v7.hc.cl, .slice v7.hc.av t2.h.live.length v7.hc.cv, .slice v7.a2 v7.ys.length v7.c2] 47))))
   clear hbh VT g0 g1 g2 g3 g4 g5 g6 HTG HBG
   generalize wh.alloc (.cells #[.slice v7.a1 v7.n1 v7.c1, .slice v7.hc.az 2 v7.hc.cz, .slice v7.hc.am 2 v7.hc.cm, .int .i64 (t2.h.aF : Int), .slice v7.hc.al v7.hc.lc.length v7.hc.cl, .slice v7.hc.av t2.h.live.length v7.hc.cv, .slice v7.a2 v7.ys.length v7.c2] 47) = wi at *
   generalize wh.heap.size = B25 at *
   have bsl := aB wi (.cells #[.int .i64 1, .int .i64 2, .int .i64 4, .int .i64 8, .int .i64 16, .int .i64 32] 3)
   have hcon := fM (some ⟨wi.heap.size, 0, none⟩) 6 [1, 2, 4, 8, 16, 32] z (wi.alloc (.cells #[.int .i64 1, .int .i64 2, .int .i64 4, .int .i64 8, .int .i64 16, .int .i64 32] 3)) (by decide) (fun j v hj => ⟨wi.heap.size, 0, rfl, by simp, by
    rw [Nat.zero_add]
    have h9 := bC wi #[.int .i64 1, .int .i64 2, .int .i64 4, .int .i64 8, .int .i64 16, .int .i64 32] 3 j
    rw [h9, ← hj]
    simp [vI]⟩)
   rw [HIN.out] at hcon
   have HCO := gO hcon
   have ZP := gO (Below.step HBH.out bsl)
   clear hcon bsl
   go_upto_region 18 with fail
   generalize wi.alloc (.cells #[.int .i64 1, .int .i64 2, .int .i64 4, .int .i64 8, .int .i64 16, .int .i64 32] 3) = wj at *
   generalize wi.heap.size = B27 at *
   go_wp2_with (go_at_call 35; refine HCO.out.mono ?_; rintro ev wz ⟨rfl, rfl⟩)
   go_ret
   exact ⟨rfl, ZP.out⟩

theorem xI (a0 : Int) (w0 : (Lit.int .i64 a0).wf = true) (a1 : Int) (w1 : (Lit.int .i64 a1).wf = true) (a2 : Int) (w2 : (Lit.int .i64 a2).wf = true) (a3 : Int) (w3 : (Lit.int .i64 a3).wf = true) {w : World} (ho : yK w) (hsz : VG w) :
  Calls Tryz.prog 7 #[.int .i64 a0, .int .i64 a1, .int .i64 a2, .int .i64 a3] w fun ev w' => ev = .returned (.bool true) ∧ Below w.heap.size w w' := by
 have h0 := bounds_i64 w0
 have h1 := bounds_i64 w1
 have h2 := bounds_i64 w2
 have h3 := bounds_i64 w3
 exact AL a0 a1 a2 a3 ⟨by omega, by omega⟩ ⟨by omega, by omega⟩ ⟨by omega, by omega⟩ ⟨by omega, by omega⟩ w ho hsz
end
end Go.Proofs.YtcmpmobhongkiaaGreatDoor
