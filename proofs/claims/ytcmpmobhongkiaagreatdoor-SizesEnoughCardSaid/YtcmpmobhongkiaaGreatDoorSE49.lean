/- texts of this claim, joined. -/
import Derived.Test.YtcmpmobhongkiaaGreatDoorSE0
import Derived.Test.YtcmpmobhongkiaaGreatDoorSE10
import Derived.Test.YtcmpmobhongkiaaGreatDoorSE2
import Derived.Test.YtcmpmobhongkiaaGreatDoorSE47
import Derived.Test.YtcmpmobhongkiaaGreatDoorSE48
import Derived.WalkKit
import Derived.OpenShut
import Derived.ProofKit
set_option linter.unusedVariables false
set_option linter.unusedSimpArgs false
namespace Go.Proofs.YtcmpmobhongkiaaGreatDoor
section
open Go.RowKit

theorem IJ {s : Sy} (hk : fH s) {i k : Nat} {a : Int} (h : s.oP a = some (i, k)) {ev : Ending} (hp : zB s a ev) : ev = .returned (.tuple #[.int .i64 (i : Int), .int .i64 (k : Int), .int .i64 0]) := by
 rcases hp with ⟨i', k', h1, rfl⟩ | ⟨h1, _⟩
 ·obtain ⟨rfl, rfl⟩ := hk.zA h1 (zL h)
  rfl
 ·exact absurd (zL h) (h1 i k)
theorem IK {s : Sy} {a : Int} (h : s.oP a = none) {ev : Ending} (hp : zB s a ev) : ev = .returned (.tuple #[.int .i64 0, .int .i64 0, .int .i64 4]) := by
 rcases hp with ⟨i', k', h1, _⟩ | ⟨_, rfl⟩
 ·exact absurd h1 (MO h i' k')
 ·rfl
theorem xA {s : Sy} (hk : fH s) {a : Int} {b : Bk} (h : s.lT a = some b) {ev : Ending} (hp : sG s a ev) : ∃ hi : lb s.h.live b.a < s.h.live.length, s.h.live[lb s.h.live b.a] = b ∧ ev = .returned (.tuple #[.int .i64 (lb s.h.live b.a : Int), .bool true]) := by
 obtain ⟨h1, h2⟩ := vW h
 rcases hp with ⟨p, h3, h4, h5, rfl⟩ | ⟨h3, _⟩
 ·obtain rfl : p = b.a := by omega
  obtain ⟨hi, e⟩ := List.getElem?_eq_some_iff.1 (mJ hk.hk.vs h1.1)
  exact ⟨hi, e, rfl⟩
 ·exact absurd h2 (h3 b h1)
theorem xB {s : Sy} {a : Int} (h : s.lT a = none) {ev : Ending} (hp : sG s a ev) : ∃ i : Nat, ev = .returned (.tuple #[.int .i64 (i : Int), .bool false]) := by
 rcases hp with ⟨p, h3, h4, h5, _⟩ | ⟨_, h⟩
 ·exfalso
  unfold hasB at h5
  obtain ⟨b, hb, e⟩ := List.any_eq_true.1 h5
  have e' := of_decide_eq_true e
  exact II h b (qQ.2 ⟨hb, by rw [e']; exact h4⟩) (by rw [e']; exact h3)
 ·exact h
def BM (r : Option Nat) (ev : Ending) : Prop := ev = match r with
 | some m => .returned (.tuple #[.int .i64 (m : Int), .int .i64 0])
 | none => .returned (.tuple #[.int .i64 0, .int .i64 4])

set_option maxHeartbeats 8000000 in
set_option maxRecDepth 100000 in
theorem MR (v : Sc) (s : Sy) (a : Int) (w : World) (hs : oU w v s) (hk : fH s) (hf : ∀ c ∈ s.cs, c.ns.length ≤ 1000) (hsz : Gj w) (hab : -1000000 ≤ a ∧ a ≤ 10000) :
  Calls Tryz.prog 30 #[.agg #[.slice v.a1 v.n1 v.c1, .slice v.hc.az 2 v.hc.cz, .slice v.hc.am 2 v.hc.cm, .int .i64 (s.h.aF : Int), .slice v.hc.al v.hc.lc.length v.hc.cl, .slice v.hc.av s.h.live.length v.hc.cv, .slice v.a2 v.ys.length v.c2], .int .i64 a] w fun ev w' => BM (s.rG a) ev ∧ Below w.heap.size w w' := by
 obtain ⟨K1, F1, hsz1, hbw⟩ := boxes1 w #[.slice v.a1 v.n1 v.c1, .slice v.hc.az 2 v.hc.cz, .slice v.hc.am 2 v.hc.cm, .int .i64 (s.h.aF : Int), .slice v.hc.al v.hc.lc.length v.hc.cl, .slice v.hc.av s.h.live.length v.hc.cv, .slice v.a2 v.ys.length v.c2] 47
 have hs1 := hs.below hbw
 obtain ⟨rZ, hrZ⟩ : ∃ rZ, s.rG a = rZ := ⟨_, rfl⟩
 rw [hrZ]
 generalize hw1 : w.alloc (.cells #[.slice v.a1 v.n1 v.c1, .slice v.hc.az 2 v.hc.cz, .slice v.hc.am 2 v.hc.cm, .int .i64 (s.h.aF : Int), .slice v.hc.al v.hc.lc.length v.hc.cl, .slice v.hc.av s.h.live.length v.hc.cv, .slice v.a2 v.ys.length v.c2] 47) = w1 at *
 have oK := gO (jK v s w1 hs1 hk hf)
 have RP : Hid (∀ W, Below w1.heap.size w1 W → Calls Tryz.prog 43 #[.agg #[.slice v.a1 v.n1 v.c1, .slice v.hc.az 2 v.hc.cz, .slice v.hc.am 2 v.hc.cm, .int .i64 (s.h.aF : Int), .slice v.hc.al v.hc.lc.length v.hc.cl, .slice v.hc.av s.h.live.length v.hc.cv, .slice v.a2 v.ys.length v.c2], .int .i64 a] W fun ev w' => zB s a ev ∧ Below W.heap.size W w') := fun W hW => Me v s a W (hs1.below hW) hk hf (by omega)
 have HWH : Hid (∀ W, Below w1.heap.size w1 W → Calls Tryz.prog 63 #[.agg #[.slice v.a1 v.n1 v.c1, .slice v.hc.az 2 v.hc.cz, .slice v.hc.am 2 v.hc.cm, .int .i64 (s.h.aF : Int), .slice v.hc.al v.hc.lc.length v.hc.cl, .slice v.hc.av s.h.live.length v.hc.cv, .slice v.a2 v.ys.length v.c2], .int .i64 a] W fun ev w' => sG s a ev ∧ Below W.heap.size W w') := fun W hW => MN v s a W (hs1.below hW) hk hab
 have HS1 := gO hs1
 have HK := gO hk
 have HF := gO hf
 have vT := gO (hsz.below hbw)
 have HB1 := gO hbw
 have HK1 := gO K1
 have Zy := gO hrZ
 obtain ⟨k0, k1, k2, k3, k4, k5, k6⟩ := gA7 K1
 clear hs hk hf hs1 K1 F1 hbw hsz hrZ
 go_enter Tryz.func30, Tryz.ntmps30
 go_upto_region 1 with fail
 try rw [hw1]
 clear hw1
 go_upto_region 4 with (go_at_call 38; refine oK.out.mono ?_; rintro ev w2 ⟨rfl, hb2⟩)
 have K12 := aB HK1.out hsz1 hb2
 clear k0 k1 k2 k3 k4 k5 k6 oK
 have HFD2 := gO (RP.out w2 hb2)
 have HB2 := gO hb2
 obtain ⟨k0, k1, k2, k3, k4, k5, k6⟩ := gA7 K12
 clear K12 RP hb2
 cases hfo : s.oP a with
 | none =>
  have hm : s.lS a = none := by
   unfold Sy.lS
   rw [hfo]
  have Tn : Hid (Calls Tryz.prog 43 #[.agg #[.slice v.a1 v.n1 v.c1, .slice v.hc.az 2 v.hc.cz, .slice v.hc.am 2 v.hc.cm, .int .i64 (s.h.aF : Int), .slice v.hc.al v.hc.lc.length v.hc.cl, .slice v.hc.av s.h.live.length v.hc.cv, .slice v.a2 v.ys.length v.c2], .int .i64 a] w2 fun ev w' => ev = .returned (.tuple #[.int .i64 0, .int .i64 0, .int .i64 4]) ∧ Below w2.heap.size w2 w') := by
   refine HFD2.out.mono ?_
   rintro ev w' ⟨h, hb⟩
   exact ⟨IK hfo h, hb⟩
  have HM := gO hm
  clear HFD2 hfo hm
  go_upto_region 7 with (go_at_call 43; refine Tn.out.mono ?_; rintro ev w3 ⟨rfl, hb3⟩)
  have HB3 := gO (Below.step HB2.out hb3)
  clear Tn k0 k1 k2 k3 k4 k5 k6 hb3 HB2
  have Zz := aB HK1.out hsz1 HB3.out
  obtain ⟨k0, k1, k2, k3, k4, k5, k6⟩ := gA7 Zz
  have HWH3 := gO (HWH.out w3 HB3.out)
  clear Zz HWH
  cases hwo : s.lT a with
  | none =>
   have HE : Hid (rZ = none) := by
    unfold Hid
    rw [← Zy.out]
    unfold Sy.rG
    rw [HM.out]
    simp only [hwo]
    rfl
   have HWN : Hid (Calls Tryz.prog 63 #[.agg #[.slice v.a1 v.n1 v.c1, .slice v.hc.az 2 v.hc.cz, .slice v.hc.am 2 v.hc.cm, .int .i64 (s.h.aF : Int), .slice v.hc.al v.hc.lc.length v.hc.cl, .slice v.hc.av s.h.live.length v.hc.cv, .slice v.a2 v.ys.length v.c2], .int .i64 a] w3 fun ev w' => (∃ j : Nat, ev = .returned (.tuple #[.int .i64 (j : Int), .bool false])) ∧ Below w3.heap.size w3 w') := by
    refine HWH3.out.mono ?_
    rintro ev w' ⟨h, hb⟩
    exact ⟨xB hwo h, hb⟩
   clear HWH3 hwo
   go_wp2_with (go_at_call 63; refine HWN.out.mono ?_; rintro ev w9 ⟨⟨j, rfl⟩, hb9⟩)
   exact bodyPost_ret (v := .tuple #[.int .i64 0, .int .i64 4]) (by simp [results, Tryz.results30, go_sem]) rfl ⟨by unfold BM; rw [HE.out], Below.step HB1.out (Below.step HB3.out hb9)⟩
  | some b =>
   have HE : Hid (rZ = some (16 * 2 ^ b.o)) := by
    unfold Hid
    rw [← Zy.out]
    unfold Sy.rG
    rw [HM.out]
    simp only [hwo]
    rfl
   have hwb := (vW hwo).1
   obtain ⟨hi0, hlb⟩ := List.getElem?_eq_some_iff.1 (mJ HK.out.hk.vs hwb.1)
   have ZA : Hid (Calls Tryz.prog 63 #[.agg #[.slice v.a1 v.n1 v.c1, .slice v.hc.az 2 v.hc.cz, .slice v.hc.am 2 v.hc.cm, .int .i64 (s.h.aF : Int), .slice v.hc.al v.hc.lc.length v.hc.cl, .slice v.hc.av s.h.live.length v.hc.cv, .slice v.a2 v.ys.length v.c2], .int .i64 a] w3 fun ev w' => ev = .returned (.tuple #[.int .i64 (lb s.h.live b.a : Int), .bool true]) ∧ Below w3.heap.size w3 w') := by
    refine HWH3.out.mono ?_
    rintro ev w' ⟨h, hb⟩
    obtain ⟨_, _, h3⟩ := xA HK.out hwo h
    exact ⟨h3, hb⟩
   have JR : b.o ≤ 4 := (HK.out.hk.lv b hwb.1).1.1
   have hsh := shl16 JR
   have hll := HK.out.hk.jV
   generalize Tc : lb s.h.live b.a = L at hi0 hlb ZA
   have hLi : (L : Int) < s.h.live.length := by omega
   have Vb := gO hlb
   clear HWH3 hwo hwb hlb Tc
   go_upto_region 9 with (go_at_call 63; refine ZA.out.mono ?_; rintro ev w9 ⟨rfl, hb9⟩)
   have hB9 := Below.step HB3.out hb9
   have K19 := aB HK1.out hsz1 hB9
   clear k0 k1 k2 k3 k4 k5 k6
   obtain ⟨k0, k1, k2, k3, k4, k5, k6⟩ := gA7 K19
   obtain ⟨ab, ao, hav, hal, hac⟩ := aK aI (by decide) (HS1.out.below hB9).hh.vr hi0
   rw [Vb.out] at hac
   obtain ⟨d0, d1, d2⟩ := bD hac
   rw [hav] at k5
   clear K19 hac
   go_wp2_with fail
   rw [hsh]
   exact bodyPost_ret (v := .tuple #[.int .i64 ((16 * 2 ^ b.o : Nat) : Int), .int .i64 0]) (by simp [results, Tryz.results30, go_sem]) rfl ⟨by unfold BM; rw [HE.out], Below.step HB1.out hB9⟩

 | some p =>
  obtain ⟨i, k⟩ := p
  obtain ⟨c, x, hc, hx, ho⟩ := zL hfo
  have HFS : Hid (Calls Tryz.prog 43 #[.agg #[.slice v.a1 v.n1 v.c1, .slice v.hc.az 2 v.hc.cz, .slice v.hc.am 2 v.hc.cm, .int .i64 (s.h.aF : Int), .slice v.hc.al v.hc.lc.length v.hc.cl, .slice v.hc.av s.h.live.length v.hc.cv, .slice v.a2 v.ys.length v.c2], .int .i64 a] w2 fun ev w' => ev = .returned (.tuple #[.int .i64 (i : Int), .int .i64 (k : Int), .int .i64 0]) ∧ Below w2.heap.size w2 w') := by
   refine HFD2.out.mono ?_
   rintro ev w' ⟨h, hb⟩
   exact ⟨IJ HK.out hfo h, hb⟩
  have hil := (List.getElem?_eq_some_iff.1 hc).1
  have ZI : i < v.ys.length := by
   have h := congrArg List.length HS1.out.cy
   rw [List.length_map] at h
   omega
  have hyl : v.ys.length ≤ 20 := by
   have h := congrArg List.length HS1.out.cy
   rw [List.length_map] at h
   rw [h]
   exact HK.out.cl
  have YK : v.ys[i].c = c := by
   have h1 := congrArg (·[i]?) HS1.out.cy
   simp only [List.getElem?_map, gJ ZI, Option.map_some] at h1
   rw [hc] at h1
   exact gP h1
  have hii : (i : Int) < v.ys.length := by omega
  have HFO := gO hfo
  have MZ := gO hc
  have HYC := gO YK
  clear HFD2 hfo hc hx ho hil YK
  go_upto_region 5 with (go_at_call 43; refine HFS.out.mono ?_; rintro ev w3 ⟨rfl, hb3⟩)
  have hB3 := Below.step HB2.out hb3
  have HB3 := gO hB3
  have K13 := aB HK1.out hsz1 hB3
  clear HFS k0 k1 k2 k3 k4 k5 k6 hb3 HB2
  obtain ⟨k0, k1, k2, k3, k4, k5, k6⟩ := gA7 K13
  have hs3 := HS1.out.below hB3
  obtain ⟨bb, off, hba, hbb, hbc⟩ := aK dR (by decide) hs3.rc ZI
  have hcy := hs3.ca _ (gL ZI)
  obtain ⟨y, hy⟩ : ∃ y, v.ys[i] = y := ⟨_, rfl⟩
  rw [hy] at hbc hcy HYC
  obtain ⟨e0, e1, e2, e3, e4, e5⟩ := kQ hbc
  rw [hba] at k6
  have hyn : y.n1 ≤ 1000000 := by
   rw [← hcy.l1, HYC.out]
   exact gQ (HF.out c (gM MZ.out)) (by decide)
  have Sj := gO (Qp y w3 hcy hyn (vT.out.below hB3))
  have hz : y.c.z = c.z := by rw [HYC.out]
  have hmy : uK y.c.ns = uK c.ns := by rw [HYC.out]
  rw [hmy] at Sj
  clear hmy
  have HBC := gO (fun (W : World) (hW : Below w3.heap.size w3 W) => (hW.cell (p := ⟨bb, off + i * 6 + 1, none⟩) hbb).trans e1)
  have HK13 := gO K13
  have hsz3 := gI hsz1 hB3.size
  have Gi := gO hba
  clear K13 hs3 hba hbc hcy hy hyn hB3
  cases hmb : uK c.ns with
  | true =>
   rw [hmb] at Sj
   have hm : s.lS a = some (i, k, c) := by
    unfold Sy.lS
    rw [HFO.out]
    simp only [MZ.out, hmb, if_true]
   have HE : Hid (rZ = some y.c.z) := by
    unfold Hid
    rw [← Zy.out, hz]
    unfold Sy.rG
    rw [hm]
   clear hm hmb hz
   go_upto_region 6 with (go_at_call 62; refine Sj.out.mono ?_; rintro ev w4 ⟨rfl, hb4⟩)
   have K14 := aB HK13.out hsz3 hb4
   have e14 := HBC.out w4 hb4
   clear k0 k1 k2 k3 k4 k5 k6 e0 e1 e2 e3 e4 e5
   obtain ⟨k0, k1, k2, k3, k4, k5, k6⟩ := gA7 K14
   rw [Gi.out] at k6
   clear K14
   go_wp2_with fail
   exact bodyPost_ret (v := .tuple #[.int .i64 (y.c.z : Int), .int .i64 0]) (by simp [results, Tryz.results30, go_sem]) rfl ⟨by unfold BM; rw [HE.out], Below.step HB1.out (Below.step HB3.out hb4)⟩
  | false =>
   rw [hmb] at Sj
   have hm : s.lS a = none := by
    unfold Sy.lS
    rw [HFO.out]
    simp only [MZ.out, hmb]
    rfl
   have HM := gO hm
   clear hm hmb hz
   go_upto_region 7 with (go_at_call 62; refine Sj.out.mono ?_; rintro ev w4 ⟨rfl, hb4⟩)
   have HB4 := gO (Below.step HB3.out hb4)
   clear k0 k1 k2 k3 k4 k5 k6 e0 e1 e2 e3 e4 e5 Sj HBC HK13 Gi HB3 hb4
   have Zz := aB HK1.out hsz1 HB4.out
   obtain ⟨k0, k1, k2, k3, k4, k5, k6⟩ := gA7 Zz
   have HWH3 := gO (HWH.out w4 HB4.out)
   clear Zz HWH
   cases hwo : s.lT a with
   | none =>
    have HE : Hid (rZ = none) := by
     unfold Hid
     rw [← Zy.out]
     unfold Sy.rG
     rw [HM.out]
     simp only [hwo]
     rfl
    have HWN : Hid (Calls Tryz.prog 63 #[.agg #[.slice v.a1 v.n1 v.c1, .slice v.hc.az 2 v.hc.cz, .slice v.hc.am 2 v.hc.cm, .int .i64 (s.h.aF : Int), .slice v.hc.al v.hc.lc.length v.hc.cl, .slice v.hc.av s.h.live.length v.hc.cv, .slice v.a2 v.ys.length v.c2], .int .i64 a] w4 fun ev w' => (∃ j : Nat, ev = .returned (.tuple #[.int .i64 (j : Int), .bool false])) ∧ Below w4.heap.size w4 w') := by
     refine HWH3.out.mono ?_
     rintro ev w' ⟨h, hb⟩
     exact ⟨xB hwo h, hb⟩
    clear HWH3 hwo
    go_wp2_with (go_at_call 63; refine HWN.out.mono ?_; rintro ev w9 ⟨⟨j, rfl⟩, hb9⟩)
    exact bodyPost_ret (v := .tuple #[.int .i64 0, .int .i64 4]) (by simp [results, Tryz.results30, go_sem]) rfl ⟨by unfold BM; rw [HE.out], Below.step HB1.out (Below.step HB4.out hb9)⟩
   | some b =>
    have HE : Hid (rZ = some (16 * 2 ^ b.o)) := by
     unfold Hid
     rw [← Zy.out]
     unfold Sy.rG
     rw [HM.out]
     simp only [hwo]
     rfl
    have hwb := (vW hwo).1
    obtain ⟨hi0, hlb⟩ := List.getElem?_eq_some_iff.1 (mJ HK.out.hk.vs hwb.1)
    have ZA : Hid (Calls Tryz.prog 63 #[.agg #[.slice v.a1 v.n1 v.c1, .slice v.hc.az 2 v.hc.cz, .slice v.hc.am 2 v.hc.cm, .int .i64 (s.h.aF : Int), .slice v.hc.al v.hc.lc.length v.hc.cl, .slice v.hc.av s.h.live.length v.hc.cv, .slice v.a2 v.ys.length v.c2], .int .i64 a] w4 fun ev w' => ev = .returned (.tuple #[.int .i64 (lb s.h.live b.a : Int), .bool true]) ∧ Below w4.heap.size w4 w') := by
     refine HWH3.out.mono ?_
     rintro ev w' ⟨h, hb⟩
     obtain ⟨_, _, h3⟩ := xA HK.out hwo h
     exact ⟨h3, hb⟩
    have JR : b.o ≤ 4 := (HK.out.hk.lv b hwb.1).1.1
    have hsh := shl16 JR
    have hll := HK.out.hk.jV
    generalize Tc : lb s.h.live b.a = L at hi0 hlb ZA
    have hLi : (L : Int) < s.h.live.length := by omega
    have Vb := gO hlb
    clear HWH3 hwo hwb hlb Tc
    go_upto_region 9 with (go_at_call 63; refine ZA.out.mono ?_; rintro ev w9 ⟨rfl, hb9⟩)
    have hB9 := Below.step HB4.out hb9
    have K19 := aB HK1.out hsz1 hB9
    clear k0 k1 k2 k3 k4 k5 k6
    obtain ⟨k0, k1, k2, k3, k4, k5, k6⟩ := gA7 K19
    obtain ⟨ab, ao, hav, hal, hac⟩ := aK aI (by decide) (HS1.out.below hB9).hh.vr hi0
    rw [Vb.out] at hac
    obtain ⟨d0, d1, d2⟩ := bD hac
    rw [hav] at k5
    clear K19 hac
    go_wp2_with fail
    rw [hsh]
    exact bodyPost_ret (v := .tuple #[.int .i64 ((16 * 2 ^ b.o : Nat) : Int), .int .i64 0]) (by simp [results, Tryz.results30, go_sem]) rfl ⟨by unfold BM; rw [HE.out], Below.step HB1.out hB9⟩
end
section
theorem WC {s : Sy} {i : Nat} {c : Ca} (h : s.cs[i]? = some c) : s.sig[i]? = some (c.ns, c.z) := by
 unfold Sy.sig
 rw [List.getElem?_map, h]
 rfl
theorem WE {s : Sy} {i : Nat} {p : List (List UInt8) × Nat} (h : s.sig[i]? = some p) : ∃ c, s.cs[i]? = some c ∧ c.ns = p.1 ∧ c.z = p.2 := by
 unfold Sy.sig at h
 rw [List.getElem?_map] at h
 cases hc : s.cs[i]? with
 | none => rw [hc] at h; cases h
 | some c =>
  rw [hc] at h
  have h1 := gP h
  exact ⟨c, rfl, congrArg Prod.fst h1, congrArg Prod.snd h1⟩
def Tv (s : Sy) : Prop := ∀ j, j < 6 → ∃ i c, s.cs[i]? = some c ∧ s.named (kN (zz j)) = some i ∧ kN (zz j) ∈ c.ns ∧ c.z = zz j
theorem Tv.names {s : Sy} (h : Tv s) : Qu s := fun j hj => by
 obtain ⟨i, _, _, h1, _⟩ := h j hj
 exact ⟨i, h1⟩
theorem Qv {ns : List (List UInt8)} {j : Nat} (hj : j < 6) (h : kN (zz j) ∈ ns) : uK ns = true := by
 unfold uK
 rw [List.any_eq_true]
 refine ⟨zz j, ?_, List.contains_iff_mem.2 h⟩
 obtain rfl | rfl | rfl | rfl | rfl | rfl : j = 0 ∨ j = 1 ∨ j = 2 ∨ j = 3 ∨ j = 4 ∨ j = 5 := by omega
 all_goals decide
theorem IL (h : Hp) : Tv (iG h 6) := fun j hj => by
 obtain rfl | rfl | rfl | rfl | rfl | rfl : j = 0 ∨ j = 1 ∨ j = 2 ∨ j = 3 ∨ j = 4 ∨ j = 5 := by omega
 all_goals exact ⟨_, _, rfl, rfl, List.mem_singleton.2 rfl, rfl⟩
theorem fH.Tz {s t : Sy} (hk : fH s) {i cpu : Nat} {c : Ca} {a : Int} (hc : s.cs[i]? = some c) (fC : cpu < s.h.aF) (h : s.one i cpu = some (t, a)) : fH t ∧ ∃ k d, t.jD i k a ∧ t.cs[i]? = some d ∧ d.ns = c.ns ∧ d.z = c.z := by
 obtain ⟨g1, _⟩ := hk.one hc fC h
 obtain ⟨_, g2⟩ := hk.NW hc fC h
 obtain ⟨k, hk'⟩ := EZ.1 ((g2 i a).2 (.inr ⟨rfl, rfl⟩))
 have h1 := WC hc
 rw [← Jg h] at h1
 obtain ⟨d, hd, e1, e2⟩ := WE h1
 exact ⟨g1, k, d, hk', hd, e1, e2⟩
theorem fH.kU {s t : Sy} (hk : fH s) (hs : Tv s) {cpu n : Nat} {a : Int} (fC : cpu < s.h.aF) (h1 : 1 ≤ n) (h2 : n ≤ 256) (h : s.kU cpu n = some (t, a)) :
  fH t ∧ t.nss = s.nss ∧ t.h.aF = s.h.aF ∧ 0 ≤ a ∧ a ≤ 4096 ∧ ∃ m, t.rG a = some m ∧ n ≤ m ∧ m < 2 * n + 16 := by
 unfold Sy.kU at h
 split at h
 ·rename_i hn
  obtain ⟨c1, c2, c3, _⟩ := vU h1 hn
  obtain ⟨i, c, hc, hnm, hmem, hz⟩ := hs _ c1
  rw [hnm] at h
  simp only at h
  obtain ⟨g1, k, d, hd, hdc, e1, e2⟩ := hk.Tz hc fC h
  obtain ⟨_, g3, _⟩ := hk.one hc fC h
  have hm : t.lS a = some (i, k, d) := by
   unfold Sy.lS
   rw [g1.IE hd]
   simp only [hdc]
   rw [if_pos (Qv c1 (by rw [e1]; exact hmem))]
  have hab : 0 ≤ a ∧ a ≤ 4096 := by
   obtain ⟨d', x, q1, q2, q3⟩ := hd
   have hxm := gM q2
   have hdk := g1.ck _ (gM q1)
   have h3 := jH hdk.room q3.1
   obtain ⟨b, hb, b1, b2⟩ := (hdk.sk x hxm).live
   obtain ⟨o1, _, o3, o4⟩ := (g1.hk.lv b hb).1
   rw [b2] at o4 o1
   rw [b1] at o4 o3
   rcases IU o1 with e | e | e | e | e <;> rw [e] at o4 h3 <;> omega
  refine ⟨g1, QX h, g3, hab.1, hab.2, d.z, ?_, by rw [e2, hz]; exact c2, by rw [e2, hz]; omega⟩
  unfold Sy.rG
  rw [hm]
 ·rename_i hn
  obtain ⟨o1, o2, o3, o4, _⟩ := y9 (show 33 ≤ n by omega) h2
  unfold Sy.Qs at h
  cases hal : s.h.alloc cpu (oL n) 0 false false with
  | none => rw [hal] at h; cases h
  | some r =>
   obtain ⟨h', p⟩ := r
   rw [hal] at h
   have h3 := gP h
   rw [Prod.mk.injEq] at h3
   obtain ⟨rfl, rfl⟩ := h3
   obtain ⟨g1, g2, g3, _, g5⟩ := hk.Wy fC o2 (by decide) hal
   have hw := (g3 ⟨p, oL n, 0⟩).2 (.inl rfl)
   have hf := IG (g1.MP hw)
   have hm : ({ s with h := h' } : Sy).lS (16 * (p : Int)) = none := by
    unfold Sy.lS
    rw [hf]
   refine ⟨g1, rfl, g2, by omega, by have := g5.2.2.1; omega, 16 * 2 ^ oL n, ?_, o3, o4⟩
   unfold Sy.rG
   rw [hm]
   simp only [g1.FP hw]
   rfl
end
section
open Go.RowKit

set_option maxHeartbeats 8000000 in
set_option maxRecDepth 100000 in
theorem zO (n a b c : Int) (hn : -9223372036854775808 ≤ n ∧ n ≤ 9223372036854775807) (ha : -9223372036854775808 ≤ a ∧ a ≤ 9223372036854775807) (hb : -9223372036854775808 ≤ b ∧ b ≤ 9223372036854775807) (hc : -9223372036854775808 ≤ c ∧ c ≤ 9223372036854775807) (w : World) (ho : vC w) (hsz : Gj w) :
  Calls Tryz.prog 6 #[.int .i64 n, .int .i64 a, .int .i64 b, .int .i64 c] w fun ev w' => ev = .returned (.bool true) ∧ Below w.heap.size w w' := by
 obtain ⟨k, hk⟩ : ∃ k : Nat, 1 + pk n 256 = (k : Int) := ⟨(1 + pk n 256).toNat, by have := qJ n 256 (by omega); omega⟩
 obtain ⟨p, hp⟩ : ∃ p : Nat, pk n 100 = (p : Int) := ⟨(pk n 100).toNat, by have := qJ n 100 (by omega); omega⟩
 have hk1 : 1 ≤ k ∧ k ≤ 256 := by
  have := qJ n 256 (by omega)
  have := Nh n 256 (by omega)
  omega
 have hp1 : p < 100 := by
  have := Nh n 100 (by omega)
  omega
 have HP0 : Hid (∀ W, Calls Tryz.prog 28 #[.int .i64 n, .int .i64 256] W fun e w' => e = .returned (.int .i64 ((k : Int) - 1)) ∧ W = w') := fun W => by
  have h := rM n 256 W hn.1 hn.2 (by omega) (by omega)
  rw [show pk n 256 = (k : Int) - 1 by omega] at h
  exact h
 have HP1 : Hid (∀ W, Calls Tryz.prog 28 #[.int .i64 n, .int .i64 100] W fun e w' => e = .returned (.int .i64 (p : Int)) ∧ W = w') := fun W => by
  have h := rM n 100 W hn.1 hn.2 (by omega) (by omega)
  rw [hp] at h
  exact h
 obtain ⟨split, least, aF, en1, en2, en3, en4, en5, en6, en7, en8⟩ := TA a b c
 have HSU : Hid (Calls Tryz.prog 26 #[.int .i64 a, .int .i64 b, .int .i64 c] w fun ev w' => ∃ m1 d1 m2 d2, ev = .returned (.agg #[.slice m1 2 d1, .slice m2 2 d2, .int .i64 (split : Int), .int .i64 (least : Int), .int .i64 (aF : Int)]) ∧ Dt w' m1 m2 2 2 (zS a b c) ∧ Below w.heap.size w w') := by
  have h := Qw a b c w ha hb hc
  rw [en1, en2, en3] at h
  refine h.mono ?_
  rintro ev w' ⟨m1, d1, m2, d2, h1, h2, h3⟩
  exact ⟨m1, d1, m2, d2, h1, h2, h3⟩
 obtain ⟨h0, hh0⟩ : ∃ h0, newH (gU (zS a b c)) split least aF = h0 := ⟨_, rfl⟩
 have hk0 : eY h0 := by
  rw [← hh0]
  exact (JE (FY a b c) en4 en5 en6 ⟨en7, en8⟩).1
 have BP : Hid (∀ (W : World) (m1 m2 : Option Addr) (d1 d2 : Nat), Dt W m1 m2 2 2 (zS a b c) → Gj W → Calls Tryz.prog 27 #[.agg #[.slice m1 2 d1, .slice m2 2 d2, .int .i64 (split : Int), .int .i64 (least : Int), .int .i64 (aF : Int)]] W (Qm h0 W)) := fun W m1 m2 d1 d2 h1 h2 => by
  rw [← hh0]
  exact Tf m1 m2 2 2 d1 d2 (zS a b c) split least aF W h1 (IQ a b c).1 (IQ a b c).2 (FY a b c) en4 en5 en6 ⟨en7, en8⟩ h2
 clear en1 en2 en3 en4 en5 en6 en7 en8 hh0

 have hS := vV hk0 6 (Nat.le_refl _)
 have hN := wW h0 6
 have hG := IL h0
 have hC : 0 < (iG h0 6).h.aF := hk0.cp.1
 obtain ⟨S0, hS0⟩ : ∃ S0, iG h0 6 = S0 := ⟨_, rfl⟩
 unfold Qm at BP
 rw [hS0] at hS hN hG hC
 simp only [hS0] at BP
 have WG := gO hS
 have WH := gO (fun c hc => Nat.le_succ_of_le (hN c hc) : ∀ c ∈ S0.cs, c.ns.length ≤ 1000)
 have Xa := gO hG
 have HO := gO ho
 have vT := gO hsz
 clear hS hN hG hS0 ho hk0 hk hp
 have e2 : (1 : Int) + ((k : Int) - 1) = k := by omega
 go_enter Tryz.func6, Tryz.ntmps6
 go_upto_region 2 with (go_at_call 26; refine HSU.out.mono ?_; rintro ev w1 ⟨m1, d1, m2, d2, rfl, hbt, hb1⟩)
 have bS := aC w1 (.cells #[.slice m1 2 d1, .slice m2 2 d2, .int .i64 (split : Int), .int .i64 (least : Int), .int .i64 (aF : Int)] 29)
 have KS := aY w1 #[.slice m1 2 d1, .slice m2 2 d2, .int .i64 (split : Int), .int .i64 (least : Int), .int .i64 (aF : Int)] 29
 obtain ⟨s0, s1, s2, s3, s4⟩ := gA5 KS
 have Gi := gO (Below.step hb1 bS)
 have LV := gO (BP.out _ m1 m2 d1 d2 (hbt.below bS) (hsz.below (Below.step hb1 bS)))
 clear hb1 bS KS hbt BP HSU
 generalize w1.alloc (.cells #[.slice m1 2 d1, .slice m2 2 d2, .int .i64 (split : Int), .int .i64 (least : Int), .int .i64 (aF : Int)] 29) = w2 at *
 generalize w1.heap.size = BS at *
 have WY : Hid (Calls Tryz.prog 27 #[.agg #[.slice m1 2 d1, .slice m2 2 d2, .int .i64 (split : Int), .int .i64 (least : Int), .int .i64 (aF : Int)]] w2 fun ev w' => ∃ v', ev = .returned (.tuple #[.agg (v'.vals S0), .int .i64 0]) ∧ kS w' w2.heap.size S0 v' ∧ Below w2.heap.size w2 w') := LV.out
 clear LV
 go_upto_region 3 with (go_at_call 27; refine WY.out.mono ?_; rintro ev w3 ⟨v1, he, hn3, hb3⟩; (replace he : ev = .returned (.tuple #[.agg #[.slice v1.a1 v1.n1 v1.c1, .slice v1.hc.az 2 v1.hc.cz, .slice v1.hc.am 2 v1.hc.cm, .int .i64 (S0.h.aF : Int), .slice v1.hc.al v1.hc.lc.length v1.hc.cl, .slice v1.hc.av S0.h.live.length v1.hc.cv, .slice v1.a2 v1.ys.length v1.c2], .int .i64 0]) := he); subst he)
 have aFz : w.heap.size ≤ w3.heap.size := gQ Gi.out.size hb3.size
 have HS4 : Hid (SS (w3.alloc (.cells #[.slice v1.a1 v1.n1 v1.c1, .slice v1.hc.az 2 v1.hc.cz, .slice v1.hc.am 2 v1.hc.cm, .int .i64 (S0.h.aF : Int), .slice v1.hc.al v1.hc.lc.length v1.hc.cl, .slice v1.hc.av S0.h.live.length v1.hc.cv, .slice v1.a2 v1.ys.length v1.c2] 47)) w3.heap.size (fun _ => False) S0 v1) := (kS.box hn3).sub (fun _ h => h.elim)
 have HB4 := gO (Gi.out.trans ((Below.step hb3 (aC w3 (.cells #[.slice v1.a1 v1.n1 v1.c1, .slice v1.hc.az 2 v1.hc.cz, .slice v1.hc.am 2 v1.hc.cm, .int .i64 (S0.h.aF : Int), .slice v1.hc.al v1.hc.lc.length v1.hc.cl, .slice v1.hc.av S0.h.live.length v1.hc.cv, .slice v1.a2 v1.ys.length v1.c2] 47))).mono Gi.out.size))
 clear s0 s1 s2 s3 s4 WY hn3 hb3 Gi
 generalize w3.alloc (.cells #[.slice v1.a1 v1.n1 v1.c1, .slice v1.hc.az 2 v1.hc.cz, .slice v1.hc.am 2 v1.hc.cm, .int .i64 (S0.h.aF : Int), .slice v1.hc.al v1.hc.lc.length v1.hc.cl, .slice v1.hc.av S0.h.live.length v1.hc.cv, .slice v1.a2 v1.ys.length v1.c2] 47) = w4 at *
 generalize w3.heap.size = B6 at *

 go_upto_region 4 with (go_at_call 28; refine (HP0.out _).mono ?_; rintro ev w' ⟨rfl, rfl⟩)
 obtain ⟨g0, g1, g2, g3, g4, g5, g6⟩ := gA7 HS4.out.k
 have hal : Calls Tryz.prog 29 #[.agg #[.slice v1.a1 v1.n1 v1.c1, .slice v1.hc.az 2 v1.hc.cz, .slice v1.hc.am 2 v1.hc.cm, .int .i64 (S0.h.aF : Int), .slice v1.hc.al v1.hc.lc.length v1.hc.cl, .slice v1.hc.av S0.h.live.length v1.hc.cv, .slice v1.a2 v1.ys.length v1.c2], .int .i64 0, .int .i64 k] w4 (zM (S0.kU 0 k) w4) := by
  by_cases h32 : k ≤ 32
  ·exact Aq v1 S0 0 k w4 HS4.out.r.at WG.out WH.out Xa.out.names hC (HO.out.below HB4.out) (vT.out.below HB4.out) hk1.1 h32
  ·exact FW v1 S0 0 k w4 HS4.out.r.at WG.out WH.out hC (HO.out.below HB4.out) (vT.out.below HB4.out) (by omega) hk1.2
 have Aw := gO hal
 clear hal
 have hw5 : IntKind.i64.wrap ((257 : Int) + (p : Int)) = (257 : Int) + (p : Int) := IntWalk.i64_in _ (by omega)
 have hw6 : IntKind.i64.wrap (-(p : Int)) = -(p : Int) := IntWalk.i64_in _ (by omega)
 cases hka : S0.kU 0 k with
 | none =>
  have ZX : Hid (Calls Tryz.prog 29 #[.agg #[.slice v1.a1 v1.n1 v1.c1, .slice v1.hc.az 2 v1.hc.cz, .slice v1.hc.am 2 v1.hc.cm, .int .i64 (S0.h.aF : Int), .slice v1.hc.al v1.hc.lc.length v1.hc.cl, .slice v1.hc.av S0.h.live.length v1.hc.cv, .slice v1.a2 v1.ys.length v1.c2], .int .i64 0, .int .i64 k] w4 fun ev w' => ev = .returned (.tuple #[.agg #[.slice none 0 0, .slice none 0 0, .slice none 0 0, .int .i64 0, .slice none 0 0, .slice none 0 0, .slice none 0 0], .int .i64 0, .int .i64 6]) ∧ Below w4.heap.size w4 w') := by
   refine Aw.out.mono ?_
   rintro ev w' (⟨_, h, hb⟩ | ⟨s', b', v'', h, _⟩)
   ·exact ⟨h, hb⟩
   ·rw [hka] at h
    cases h
  clear Aw hka
  go_upto_region 5 with (go_at_call 29; refine ZX.out.mono ?_; rintro ev w5 ⟨rfl, hb5⟩)
  have hb6 := Below.step hb5 (aC w5 (.cells #[.slice none 0 0, .slice none 0 0, .slice none 0 0, .int .i64 0, .slice none 0 0, .slice none 0 0, .slice none 0 0] 47))
  have HS6 := gO (HS4.out.below hb6)
  have HB6 := gO (Below.step HB4.out hb6)
  clear hb5 hb6 ZX g0 g1 g2 g3 g4 g5 g6 HS4 HB4
  generalize w5.alloc (.cells #[.slice none 0 0, .slice none 0 0, .slice none 0 0, .int .i64 0, .slice none 0 0, .slice none 0 0, .slice none 0 0] 47) = w6 at *
  generalize w5.heap.size = B13 at *
  have HL := gO (fun (W : World) (hW : Below w6.heap.size w6 W) => HS6.out.below hW)
  have L0 : ∀ W, Below w6.heap.size w6 W → W.cell? ⟨B6, 0, none⟩ = some (.slice v1.a1 v1.n1 v1.c1) := fun W h => (HL.out W h).k 0
  have L1 : ∀ W, Below w6.heap.size w6 W → W.cell? ⟨B6, 1, none⟩ = some (.slice v1.hc.az 2 v1.hc.cz) := fun W h => (HL.out W h).k 1
  have L2 : ∀ W, Below w6.heap.size w6 W → W.cell? ⟨B6, 2, none⟩ = some (.slice v1.hc.am 2 v1.hc.cm) := fun W h => (HL.out W h).k 2
  have L3 : ∀ W, Below w6.heap.size w6 W → W.cell? ⟨B6, 3, none⟩ = some (.int .i64 (S0.h.aF : Int)) := fun W h => (HL.out W h).k 3
  have L4 : ∀ W, Below w6.heap.size w6 W → W.cell? ⟨B6, 4, none⟩ = some (.slice v1.hc.al v1.hc.lc.length v1.hc.cl) := fun W h => (HL.out W h).k 4
  have L5 : ∀ W, Below w6.heap.size w6 W → W.cell? ⟨B6, 5, none⟩ = some (.slice v1.hc.av S0.h.live.length v1.hc.cv) := fun W h => (HL.out W h).k 5
  have L6 : ∀ W, Below w6.heap.size w6 W → W.cell? ⟨B6, 6, none⟩ = some (.slice v1.a2 v1.ys.length v1.c2) := fun W h => (HL.out W h).k 6
  have ZB : Hid (∀ W, Below w6.heap.size w6 W → Calls Tryz.prog 29 #[.agg #[.slice v1.a1 v1.n1 v1.c1, .slice v1.hc.az 2 v1.hc.cz, .slice v1.hc.am 2 v1.hc.cm, .int .i64 (S0.h.aF : Int), .slice v1.hc.al v1.hc.lc.length v1.hc.cl, .slice v1.hc.av S0.h.live.length v1.hc.cv, .slice v1.a2 v1.ys.length v1.c2], .int .i64 0, .int .i64 (257 + (p : Int))] W fun ev w' => ev = .returned (.tuple #[.agg #[.slice none 0 0, .slice none 0 0, .slice none 0 0, .int .i64 0, .slice none 0 0, .slice none 0 0, .slice none 0 0], .int .i64 0, .int .i64 9]) ∧ Below W.heap.size W w') := fun W hW => by
   have h := wZ v1 S0 0 (257 + p) W (HL.out W hW).r.at WG.out WH.out (vT.out.below (HB6.out.trans (hW.mono HB6.out.size))) (by omega) (by omega)
   rw [show ((257 + p : Nat) : Int) = 257 + (p : Int) by omega] at h
   exact h
  go_cut [16, 17, 18] (fun s16 s17 s18 wx => s18 = .int .i64 9 ∧ Hid (Below w6.heap.size w6 wx))
  case first =>
   go_region_held3 (fun W => Below w6.heap.size w6 W) ((repeat (first | with_reducible assumption | with_reducible exact Below.refl _ _ | with_reducible refine Below.setCell ?_ ?_ _ | with_reducible apply Below.drew | with_reducible refine Below.step ?_ (aC _ _) | with_reducible refine Below.step ?_ (by with_reducible assumption) | (simp only; omega))))(first | (go_at_call 28; refine (HP1.out _).mono ?_; rintro ev w' ⟨rfl, rfl⟩) | (go_at_call 29; refine (ZB.out _ (by assumption)).mono ?_; rintro ev wk ⟨rfl, hbk⟩; (try ((have hx : Below ((w6.alloc (.cells (#[.slice none 0 0, .slice none 0 0, .slice none 0 0, .int .i64 0, .slice none 0 0, .slice none 0 0, .slice none 0 0] : Array Value) 47)).drew).heap.size ((w6.alloc (.cells (#[.slice none 0 0, .slice none 0 0, .slice none 0 0, .int .i64 0, .slice none 0 0, .slice none 0 0, .slice none 0 0] : Array Value) 47)).drew) wk := by with_reducible exact hbk); have KA := aB (w1 := ((w6.alloc (.cells (#[.slice none 0 0, .slice none 0 0, .slice none 0 0, .int .i64 0, .slice none 0 0, .slice none 0 0, .slice none 0 0] : Array Value) 47)).drew)) (fun o => aY w6 #[.slice none 0 0, .slice none 0 0, .slice none 0 0, .int .i64 0, .slice none 0 0, .slice none 0 0, .slice none 0 0] 47 o) (show w6.heap.size < ((w6.alloc (.cells (#[.slice none 0 0, .slice none 0 0, .slice none 0 0, .int .i64 0, .slice none 0 0, .slice none 0 0, .slice none 0 0] : Array Value) 47)).drew).heap.size by simp) hx; have FA := aJ (w1 := ((w6.alloc (.cells (#[.slice none 0 0, .slice none 0 0, .slice none 0 0, .int .i64 0, .slice none 0 0, .slice none 0 0, .slice none 0 0] : Array Value) 47)).drew)) (fun o => dK w6 #[.slice none 0 0, .slice none 0 0, .slice none 0 0, .int .i64 0, .slice none 0 0, .slice none 0 0, .slice none 0 0] 47 o) (show w6.heap.size < ((w6.alloc (.cells (#[.slice none 0 0, .slice none 0 0, .slice none 0 0, .int .i64 0, .slice none 0 0, .slice none 0 0, .slice none 0 0] : Array Value) 47)).drew).heap.size by simp) hx))))
   all_goals clear L0 L1 L2 L3 L4 L5 L6
   all_goals (go_wp2_with fail)
   all_goals go_meet
   all_goals exact ⟨rfl, by assumption⟩
  case rest =>
  obtain ⟨rfl, HD67⟩ := hcut
  obtain ⟨w7, rfl⟩ : ∃ w7, w7 = wc := ⟨_, rfl⟩
  have HS7 := gO (HS6.out.below HD67.out)
  have HB7 := gO (Below.step HB6.out HD67.out)
  clear ZB HS6 HB6 HL L0 L1 L2 L3 L4 L5 L6
  go_upto_region 6 with fail
  have HL := gO (fun (W : World) (hW : Below w7.heap.size w7 W) => HS7.out.below hW)
  have L0 : ∀ W, Below w7.heap.size w7 W → W.cell? ⟨B6, 0, none⟩ = some (.slice v1.a1 v1.n1 v1.c1) := fun W h => (HL.out W h).k 0
  have L1 : ∀ W, Below w7.heap.size w7 W → W.cell? ⟨B6, 1, none⟩ = some (.slice v1.hc.az 2 v1.hc.cz) := fun W h => (HL.out W h).k 1
  have L2 : ∀ W, Below w7.heap.size w7 W → W.cell? ⟨B6, 2, none⟩ = some (.slice v1.hc.am 2 v1.hc.cm) := fun W h => (HL.out W h).k 2
  have L3 : ∀ W, Below w7.heap.size w7 W → W.cell? ⟨B6, 3, none⟩ = some (.int .i64 (S0.h.aF : Int)) := fun W h => (HL.out W h).k 3
  have L4 : ∀ W, Below w7.heap.size w7 W → W.cell? ⟨B6, 4, none⟩ = some (.slice v1.hc.al v1.hc.lc.length v1.hc.cl) := fun W h => (HL.out W h).k 4
  have L5 : ∀ W, Below w7.heap.size w7 W → W.cell? ⟨B6, 5, none⟩ = some (.slice v1.hc.av S0.h.live.length v1.hc.cv) := fun W h => (HL.out W h).k 5
  have L6 : ∀ W, Below w7.heap.size w7 W → W.cell? ⟨B6, 6, none⟩ = some (.slice v1.a2 v1.ys.length v1.c2) := fun W h => (HL.out W h).k 6
  have Tn : Hid (∀ W, Below w7.heap.size w7 W → Calls Tryz.prog 29 #[.agg #[.slice v1.a1 v1.n1 v1.c1, .slice v1.hc.az 2 v1.hc.cz, .slice v1.hc.am 2 v1.hc.cm, .int .i64 (S0.h.aF : Int), .slice v1.hc.al v1.hc.lc.length v1.hc.cl, .slice v1.hc.av S0.h.live.length v1.hc.cv, .slice v1.a2 v1.ys.length v1.c2], .int .i64 0, .int .i64 (-(p : Int))] W fun ev w' => ev = .returned (.tuple #[.agg #[.slice none 0 0, .slice none 0 0, .slice none 0 0, .int .i64 0, .slice none 0 0, .slice none 0 0, .slice none 0 0], .int .i64 0, .int .i64 1]) ∧ Below W.heap.size W w') := fun W hW => by
   have h := wY v1 S0 0 (-(p : Int)) W (HL.out W hW).r.at WG.out WH.out (by omega)
   exact h
  go_cut [19, 20, 21] (fun s19 s20 s21 wx => s21 = .int .i64 1 ∧ Hid (Below w7.heap.size w7 wx))
  case first =>
   go_region_held3 (fun W => Below w7.heap.size w7 W) ((repeat (first | with_reducible assumption | with_reducible exact Below.refl _ _ | with_reducible refine Below.setCell ?_ ?_ _ | with_reducible apply Below.drew | with_reducible refine Below.step ?_ (aC _ _) | with_reducible refine Below.step ?_ (by with_reducible assumption) | (simp only; omega))))(first | (go_at_call 28; refine (HP1.out _).mono ?_; rintro ev w' ⟨rfl, rfl⟩) | (go_at_call 29; refine (Tn.out _ (by assumption)).mono ?_; rintro ev wk ⟨rfl, hbk⟩; (try ((have hx : Below ((w7.alloc (.cells (#[.slice none 0 0, .slice none 0 0, .slice none 0 0, .int .i64 0, .slice none 0 0, .slice none 0 0, .slice none 0 0] : Array Value) 47)).drew).heap.size ((w7.alloc (.cells (#[.slice none 0 0, .slice none 0 0, .slice none 0 0, .int .i64 0, .slice none 0 0, .slice none 0 0, .slice none 0 0] : Array Value) 47)).drew) wk := by with_reducible exact hbk); have KA := aB (w1 := ((w7.alloc (.cells (#[.slice none 0 0, .slice none 0 0, .slice none 0 0, .int .i64 0, .slice none 0 0, .slice none 0 0, .slice none 0 0] : Array Value) 47)).drew)) (fun o => aY w7 #[.slice none 0 0, .slice none 0 0, .slice none 0 0, .int .i64 0, .slice none 0 0, .slice none 0 0, .slice none 0 0] 47 o) (show w7.heap.size < ((w7.alloc (.cells (#[.slice none 0 0, .slice none 0 0, .slice none 0 0, .int .i64 0, .slice none 0 0, .slice none 0 0, .slice none 0 0] : Array Value) 47)).drew).heap.size by simp) hx; have FA := aJ (w1 := ((w7.alloc (.cells (#[.slice none 0 0, .slice none 0 0, .slice none 0 0, .int .i64 0, .slice none 0 0, .slice none 0 0, .slice none 0 0] : Array Value) 47)).drew)) (fun o => dK w7 #[.slice none 0 0, .slice none 0 0, .slice none 0 0, .int .i64 0, .slice none 0 0, .slice none 0 0, .slice none 0 0] 47 o) (show w7.heap.size < ((w7.alloc (.cells (#[.slice none 0 0, .slice none 0 0, .slice none 0 0, .int .i64 0, .slice none 0 0, .slice none 0 0, .slice none 0 0] : Array Value) 47)).drew).heap.size by simp) hx))))
   all_goals clear L0 L1 L2 L3 L4 L5 L6
   all_goals (go_wp2_with fail)
   all_goals go_meet
   all_goals exact ⟨rfl, by assumption⟩
  case rest =>
  obtain ⟨rfl, HD79⟩ := hcut
  obtain ⟨w9, rfl⟩ : ∃ w9, w9 = wc := ⟨_, rfl⟩
  have HB9 := gO (Below.step HB7.out HD79.out)
  have HD69 := gO (HD67.out.trans (HD79.out.mono HD67.out.size))
  clear Tn HS7 HB7 HD67 HD79 HL L0 L1 L2 L3 L4 L5 L6

  go_wp2
  go_ret
  exact ⟨rfl, HB9.out⟩
 | some r =>
  obtain ⟨t, A⟩ := r
  obtain ⟨q1, q2, q3, q4, q5, m, q6, q7, q8⟩ := WG.out.kU Xa.out hC hk1.1 hk1.2 hka
  have HAS : Hid (Calls Tryz.prog 29 #[.agg #[.slice v1.a1 v1.n1 v1.c1, .slice v1.hc.az 2 v1.hc.cz, .slice v1.hc.am 2 v1.hc.cm, .int .i64 (S0.h.aF : Int), .slice v1.hc.al v1.hc.lc.length v1.hc.cl, .slice v1.hc.av S0.h.live.length v1.hc.cv, .slice v1.a2 v1.ys.length v1.c2], .int .i64 0, .int .i64 k] w4 fun ev w' => ∃ v2, ev = .returned (.tuple #[.agg #[.slice v2.a1 v2.n1 v2.c1, .slice v2.hc.az 2 v2.hc.cz, .slice v2.hc.am 2 v2.hc.cm, .int .i64 (t.h.aF : Int), .slice v2.hc.al v2.hc.lc.length v2.hc.cl, .slice v2.hc.av t.h.live.length v2.hc.cv, .slice v2.a2 v2.ys.length v2.c2], .int .i64 A, .int .i64 0]) ∧ kS w' w4.heap.size t v2 ∧ Below w4.heap.size w4 w') := by
   refine Aw.out.mono ?_
   rintro ev w' (⟨h, _⟩ | ⟨s', b', v'', h, h1, h2, h3⟩)
   ·rw [hka] at h
    cases h
   ·rw [hka] at h
    obtain ⟨rfl, rfl⟩ : t = s' ∧ A = b' := by simpa using h
    exact ⟨v'', h1, h2, h3⟩
  have HQ1 := gO q1
  have HQ2 := gO (CG q2 WH.out)
  have HQ6 := gO q6
  clear Aw hka q1 q2 q3 q6
  go_upto_region 5 with (go_at_call 29; refine HAS.out.mono ?_; rintro ev w5 ⟨v2, rfl, hn5, hb5⟩)
  have bal := aC w5 (.cells #[.slice v2.a1 v2.n1 v2.c1, .slice v2.hc.az 2 v2.hc.cz, .slice v2.hc.am 2 v2.hc.cm, .int .i64 (t.h.aF : Int), .slice v2.hc.al v2.hc.lc.length v2.hc.cl, .slice v2.hc.av t.h.live.length v2.hc.cv, .slice v2.a2 v2.ys.length v2.c2] 47)
  have hb6 := Below.step hb5 bal
  have HT6 : Hid (SS (w5.alloc (.cells #[.slice v2.a1 v2.n1 v2.c1, .slice v2.hc.az 2 v2.hc.cz, .slice v2.hc.am 2 v2.hc.cm, .int .i64 (t.h.aF : Int), .slice v2.hc.al v2.hc.lc.length v2.hc.cl, .slice v2.hc.av t.h.live.length v2.hc.cv, .slice v2.a2 v2.ys.length v2.c2] 47)) w5.heap.size (fun _ => False) t v2) := (kS.box hn5).sub (fun _ h => h.elim)
  have HS6 := gO (HS4.out.below hb6)
  have HB6 := gO (Below.step HB4.out hb6)
  clear hb5 hb6 HAS g0 g1 g2 g3 g4 g5 g6 HS4 HB4 hn5 bal
  generalize w5.alloc (.cells #[.slice v2.a1 v2.n1 v2.c1, .slice v2.hc.az 2 v2.hc.cz, .slice v2.hc.am 2 v2.hc.cm, .int .i64 (t.h.aF : Int), .slice v2.hc.al v2.hc.lc.length v2.hc.cl, .slice v2.hc.av t.h.live.length v2.hc.cv, .slice v2.a2 v2.ys.length v2.c2] 47) = w6 at *
  generalize w5.heap.size = B13 at *
  have HL := gO (fun (W : World) (hW : Below w6.heap.size w6 W) => HS6.out.below hW)
  have L0 : ∀ W, Below w6.heap.size w6 W → W.cell? ⟨B6, 0, none⟩ = some (.slice v1.a1 v1.n1 v1.c1) := fun W h => (HL.out W h).k 0
  have L1 : ∀ W, Below w6.heap.size w6 W → W.cell? ⟨B6, 1, none⟩ = some (.slice v1.hc.az 2 v1.hc.cz) := fun W h => (HL.out W h).k 1
  have L2 : ∀ W, Below w6.heap.size w6 W → W.cell? ⟨B6, 2, none⟩ = some (.slice v1.hc.am 2 v1.hc.cm) := fun W h => (HL.out W h).k 2
  have L3 : ∀ W, Below w6.heap.size w6 W → W.cell? ⟨B6, 3, none⟩ = some (.int .i64 (S0.h.aF : Int)) := fun W h => (HL.out W h).k 3
  have L4 : ∀ W, Below w6.heap.size w6 W → W.cell? ⟨B6, 4, none⟩ = some (.slice v1.hc.al v1.hc.lc.length v1.hc.cl) := fun W h => (HL.out W h).k 4
  have L5 : ∀ W, Below w6.heap.size w6 W → W.cell? ⟨B6, 5, none⟩ = some (.slice v1.hc.av S0.h.live.length v1.hc.cv) := fun W h => (HL.out W h).k 5
  have L6 : ∀ W, Below w6.heap.size w6 W → W.cell? ⟨B6, 6, none⟩ = some (.slice v1.a2 v1.ys.length v1.c2) := fun W h => (HL.out W h).k 6
  have ZB : Hid (∀ W, Below w6.heap.size w6 W → Calls Tryz.prog 29 #[.agg #[.slice v1.a1 v1.n1 v1.c1, .slice v1.hc.az 2 v1.hc.cz, .slice v1.hc.am 2 v1.hc.cm, .int .i64 (S0.h.aF : Int), .slice v1.hc.al v1.hc.lc.length v1.hc.cl, .slice v1.hc.av S0.h.live.length v1.hc.cv, .slice v1.a2 v1.ys.length v1.c2], .int .i64 0, .int .i64 (257 + (p : Int))] W fun ev w' => ev = .returned (.tuple #[.agg #[.slice none 0 0, .slice none 0 0, .slice none 0 0, .int .i64 0, .slice none 0 0, .slice none 0 0, .slice none 0 0], .int .i64 0, .int .i64 9]) ∧ Below W.heap.size W w') := fun W hW => by
   have h := wZ v1 S0 0 (257 + p) W (HL.out W hW).r.at WG.out WH.out (vT.out.below (HB6.out.trans (hW.mono HB6.out.size))) (by omega) (by omega)
   rw [show ((257 + p : Nat) : Int) = 257 + (p : Int) by omega] at h
   exact h
  go_cut [16, 17, 18] (fun s16 s17 s18 wx => s18 = .int .i64 9 ∧ Hid (Below w6.heap.size w6 wx))
  case first =>
   go_region_held3 (fun W => Below w6.heap.size w6 W) ((repeat (first | with_reducible assumption | with_reducible exact Below.refl _ _ | with_reducible refine Below.setCell ?_ ?_ _ | with_reducible apply Below.drew | with_reducible refine Below.step ?_ (aC _ _) | with_reducible refine Below.step ?_ (by with_reducible assumption) | (simp only; omega))))(first | (go_at_call 28; refine (HP1.out _).mono ?_; rintro ev w' ⟨rfl, rfl⟩) | (go_at_call 29; refine (ZB.out _ (by assumption)).mono ?_; rintro ev wk ⟨rfl, hbk⟩; (try ((have hx : Below ((w6.alloc (.cells (#[.slice none 0 0, .slice none 0 0, .slice none 0 0, .int .i64 0, .slice none 0 0, .slice none 0 0, .slice none 0 0] : Array Value) 47)).drew).heap.size ((w6.alloc (.cells (#[.slice none 0 0, .slice none 0 0, .slice none 0 0, .int .i64 0, .slice none 0 0, .slice none 0 0, .slice none 0 0] : Array Value) 47)).drew) wk := by with_reducible exact hbk); have KA := aB (w1 := ((w6.alloc (.cells (#[.slice none 0 0, .slice none 0 0, .slice none 0 0, .int .i64 0, .slice none 0 0, .slice none 0 0, .slice none 0 0] : Array Value) 47)).drew)) (fun o => aY w6 #[.slice none 0 0, .slice none 0 0, .slice none 0 0, .int .i64 0, .slice none 0 0, .slice none 0 0, .slice none 0 0] 47 o) (show w6.heap.size < ((w6.alloc (.cells (#[.slice none 0 0, .slice none 0 0, .slice none 0 0, .int .i64 0, .slice none 0 0, .slice none 0 0, .slice none 0 0] : Array Value) 47)).drew).heap.size by simp) hx; have FA := aJ (w1 := ((w6.alloc (.cells (#[.slice none 0 0, .slice none 0 0, .slice none 0 0, .int .i64 0, .slice none 0 0, .slice none 0 0, .slice none 0 0] : Array Value) 47)).drew)) (fun o => dK w6 #[.slice none 0 0, .slice none 0 0, .slice none 0 0, .int .i64 0, .slice none 0 0, .slice none 0 0, .slice none 0 0] 47 o) (show w6.heap.size < ((w6.alloc (.cells (#[.slice none 0 0, .slice none 0 0, .slice none 0 0, .int .i64 0, .slice none 0 0, .slice none 0 0, .slice none 0 0] : Array Value) 47)).drew).heap.size by simp) hx))))
   all_goals clear L0 L1 L2 L3 L4 L5 L6
   all_goals (go_wp2_with fail)
   all_goals go_meet
   all_goals exact ⟨rfl, by assumption⟩
  case rest =>
  obtain ⟨rfl, HD67⟩ := hcut
  obtain ⟨w7, rfl⟩ : ∃ w7, w7 = wc := ⟨_, rfl⟩
  have HS7 := gO (HS6.out.below HD67.out)
  have HB7 := gO (Below.step HB6.out HD67.out)
  clear ZB HS6 HB6 HL L0 L1 L2 L3 L4 L5 L6
  go_upto_region 6 with fail
  have HL := gO (fun (W : World) (hW : Below w7.heap.size w7 W) => HS7.out.below hW)
  have L0 : ∀ W, Below w7.heap.size w7 W → W.cell? ⟨B6, 0, none⟩ = some (.slice v1.a1 v1.n1 v1.c1) := fun W h => (HL.out W h).k 0
  have L1 : ∀ W, Below w7.heap.size w7 W → W.cell? ⟨B6, 1, none⟩ = some (.slice v1.hc.az 2 v1.hc.cz) := fun W h => (HL.out W h).k 1
  have L2 : ∀ W, Below w7.heap.size w7 W → W.cell? ⟨B6, 2, none⟩ = some (.slice v1.hc.am 2 v1.hc.cm) := fun W h => (HL.out W h).k 2
  have L3 : ∀ W, Below w7.heap.size w7 W → W.cell? ⟨B6, 3, none⟩ = some (.int .i64 (S0.h.aF : Int)) := fun W h => (HL.out W h).k 3
  have L4 : ∀ W, Below w7.heap.size w7 W → W.cell? ⟨B6, 4, none⟩ = some (.slice v1.hc.al v1.hc.lc.length v1.hc.cl) := fun W h => (HL.out W h).k 4
  have L5 : ∀ W, Below w7.heap.size w7 W → W.cell? ⟨B6, 5, none⟩ = some (.slice v1.hc.av S0.h.live.length v1.hc.cv) := fun W h => (HL.out W h).k 5
  have L6 : ∀ W, Below w7.heap.size w7 W → W.cell? ⟨B6, 6, none⟩ = some (.slice v1.a2 v1.ys.length v1.c2) := fun W h => (HL.out W h).k 6
  have Tn : Hid (∀ W, Below w7.heap.size w7 W → Calls Tryz.prog 29 #[.agg #[.slice v1.a1 v1.n1 v1.c1, .slice v1.hc.az 2 v1.hc.cz, .slice v1.hc.am 2 v1.hc.cm, .int .i64 (S0.h.aF : Int), .slice v1.hc.al v1.hc.lc.length v1.hc.cl, .slice v1.hc.av S0.h.live.length v1.hc.cv, .slice v1.a2 v1.ys.length v1.c2], .int .i64 0, .int .i64 (-(p : Int))] W fun ev w' => ev = .returned (.tuple #[.agg #[.slice none 0 0, .slice none 0 0, .slice none 0 0, .int .i64 0, .slice none 0 0, .slice none 0 0, .slice none 0 0], .int .i64 0, .int .i64 1]) ∧ Below W.heap.size W w') := fun W hW => by
   have h := wY v1 S0 0 (-(p : Int)) W (HL.out W hW).r.at WG.out WH.out (by omega)
   exact h
  go_cut [19, 20, 21] (fun s19 s20 s21 wx => s21 = .int .i64 1 ∧ Hid (Below w7.heap.size w7 wx))
  case first =>
   go_region_held3 (fun W => Below w7.heap.size w7 W) ((repeat (first | with_reducible assumption | with_reducible exact Below.refl _ _ | with_reducible refine Below.setCell ?_ ?_ _ | with_reducible apply Below.drew | with_reducible refine Below.step ?_ (aC _ _) | with_reducible refine Below.step ?_ (by with_reducible assumption) | (simp only; omega))))(first | (go_at_call 28; refine (HP1.out _).mono ?_; rintro ev w' ⟨rfl, rfl⟩) | (go_at_call 29; refine (Tn.out _ (by assumption)).mono ?_; rintro ev wk ⟨rfl, hbk⟩; (try ((have hx : Below ((w7.alloc (.cells (#[.slice none 0 0, .slice none 0 0, .slice none 0 0, .int .i64 0, .slice none 0 0, .slice none 0 0, .slice none 0 0] : Array Value) 47)).drew).heap.size ((w7.alloc (.cells (#[.slice none 0 0, .slice none 0 0, .slice none 0 0, .int .i64 0, .slice none 0 0, .slice none 0 0, .slice none 0 0] : Array Value) 47)).drew) wk := by with_reducible exact hbk); have KA := aB (w1 := ((w7.alloc (.cells (#[.slice none 0 0, .slice none 0 0, .slice none 0 0, .int .i64 0, .slice none 0 0, .slice none 0 0, .slice none 0 0] : Array Value) 47)).drew)) (fun o => aY w7 #[.slice none 0 0, .slice none 0 0, .slice none 0 0, .int .i64 0, .slice none 0 0, .slice none 0 0, .slice none 0 0] 47 o) (show w7.heap.size < ((w7.alloc (.cells (#[.slice none 0 0, .slice none 0 0, .slice none 0 0, .int .i64 0, .slice none 0 0, .slice none 0 0, .slice none 0 0] : Array Value) 47)).drew).heap.size by simp) hx; have FA := aJ (w1 := ((w7.alloc (.cells (#[.slice none 0 0, .slice none 0 0, .slice none 0 0, .int .i64 0, .slice none 0 0, .slice none 0 0, .slice none 0 0] : Array Value) 47)).drew)) (fun o => dK w7 #[.slice none 0 0, .slice none 0 0, .slice none 0 0, .int .i64 0, .slice none 0 0, .slice none 0 0, .slice none 0 0] 47 o) (show w7.heap.size < ((w7.alloc (.cells (#[.slice none 0 0, .slice none 0 0, .slice none 0 0, .int .i64 0, .slice none 0 0, .slice none 0 0, .slice none 0 0] : Array Value) 47)).drew).heap.size by simp) hx))))
   all_goals clear L0 L1 L2 L3 L4 L5 L6
   all_goals (go_wp2_with fail)
   all_goals go_meet
   all_goals exact ⟨rfl, by assumption⟩
  case rest =>
  obtain ⟨rfl, HD79⟩ := hcut
  obtain ⟨w9, rfl⟩ : ∃ w9, w9 = wc := ⟨_, rfl⟩
  have HB9 := gO (Below.step HB7.out HD79.out)
  have HD69 := gO (HD67.out.trans (HD79.out.mono HD67.out.size))
  clear Tn HS7 HB7 HD67 HD79 HL L0 L1 L2 L3 L4 L5 L6

  have HT9 := gO (HT6.out.below HD69.out)
  obtain ⟨g0, g1, g2, g3, g4, g5, g6⟩ := gA7 HT9.out.k
  have WW := gO (MR v2 t A w9 HT9.out.r.at HQ1.out HQ2.out (vT.out.below HB9.out) (by omega))
  rw [HQ6.out] at WW
  have HSV : Hid (Calls Tryz.prog 30 #[.agg #[.slice v2.a1 v2.n1 v2.c1, .slice v2.hc.az 2 v2.hc.cz, .slice v2.hc.am 2 v2.hc.cm, .int .i64 (t.h.aF : Int), .slice v2.hc.al v2.hc.lc.length v2.hc.cl, .slice v2.hc.av t.h.live.length v2.hc.cv, .slice v2.a2 v2.ys.length v2.c2], .int .i64 A] w9 fun ev w' => ev = .returned (.tuple #[.int .i64 (m : Int), .int .i64 0]) ∧ Below w9.heap.size w9 w') := WW.out
  have hm1 : (k : Int) ≤ m := by omega
  have hm2 : (m : Int) < 2 * k + 16 := by omega
  clear WW HT6 HT9 HQ6
  go_wp2_with (go_at_call 30; refine HSV.out.mono ?_; rintro ev wz ⟨rfl, hbz⟩)
  go_ret
  exact ⟨rfl, Below.step HB9.out hbz⟩
theorem vX (a0 : Int) (w0 : (Lit.int .i64 a0).wf = true) (a1 : Int) (w1 : (Lit.int .i64 a1).wf = true) (a2 : Int) (w2 : (Lit.int .i64 a2).wf = true) (a3 : Int) (w3 : (Lit.int .i64 a3).wf = true) {w : World} (ho : vC w) (hsz : Gj w) :
  Calls Tryz.prog 6 #[.int .i64 a0, .int .i64 a1, .int .i64 a2, .int .i64 a3] w fun ev w' => ev = .returned (.bool true) ∧ Below w.heap.size w w' := by
 have h0 := bounds_i64 w0
 have h1 := bounds_i64 w1
 have h2 := bounds_i64 w2
 have h3 := bounds_i64 w3
 exact zO a0 a1 a2 a3 ⟨by omega, by omega⟩ ⟨by omega, by omega⟩ ⟨by omega, by omega⟩ ⟨by omega, by omega⟩ w ho hsz
end
end Go.Proofs.YtcmpmobhongkiaaGreatDoor
