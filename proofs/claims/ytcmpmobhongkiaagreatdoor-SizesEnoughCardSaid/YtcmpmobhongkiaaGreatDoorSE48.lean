/- texts of this claim, joined. -/
import Derived.Test.YtcmpmobhongkiaaGreatDoorSE0
import Derived.Test.YtcmpmobhongkiaaGreatDoorSE39
import Derived.Test.YtcmpmobhongkiaaGreatDoorSE42
import Derived.Test.YtcmpmobhongkiaaGreatDoorSE43
import Derived.Test.YtcmpmobhongkiaaGreatDoorSE44
import Derived.Test.YtcmpmobhongkiaaGreatDoorSE46
import Derived.Test.YtcmpmobhongkiaaGreatDoorRows
import Derived.WalkKit
import Derived.ProofKit
import Derived.OpenShut
import Derived.Deep.DeepHandedRow
import Derived.Lib.LaidTab
set_option linter.unusedVariables false
set_option linter.unusedSimpArgs false
namespace Go.Proofs.YtcmpmobhongkiaaGreatDoor
section
open Go.RowKit

theorem nil7 {w W : World} {T : Nat} (K : ∀ o, W.cell? ⟨T, o, none⟩ = (#[.slice none 0 0, .slice none 0 0, .slice none 0 0, .int .i64 0, .slice none 0 0, .slice none 0 0, .slice none 0 0] : Array Value)[o]?) (hb : Below w.heap.size w W) (hT : w.heap.size ≤ T) :
  (∀ o, (((((((W.setCell ⟨T, 0, none⟩ (.slice none 0 0)).setCell ⟨T, 1, none⟩ (.slice none 0 0)).setCell ⟨T, 2, none⟩ (.slice none 0 0)).setCell ⟨T, 3, none⟩ (.int .i64 0)).setCell ⟨T, 4, none⟩ (.slice none 0 0)).setCell ⟨T, 5, none⟩ (.slice none 0 0)).setCell ⟨T, 6, none⟩ (.slice none 0 0)).cell? ⟨T, o, none⟩ = (#[.slice none 0 0, .slice none 0 0, .slice none 0 0, .int .i64 0, .slice none 0 0, .slice none 0 0, .slice none 0 0] : Array Value)[o]?) ∧ Below w.heap.size w (((((((W.setCell ⟨T, 0, none⟩ (.slice none 0 0)).setCell ⟨T, 1, none⟩ (.slice none 0 0)).setCell ⟨T, 2, none⟩ (.slice none 0 0)).setCell ⟨T, 3, none⟩ (.int .i64 0)).setCell ⟨T, 4, none⟩ (.slice none 0 0)).setCell ⟨T, 5, none⟩ (.slice none 0 0)).setCell ⟨T, 6, none⟩ (.slice none 0 0)) := by
 have KX := (aH (aH (aH (aH (aH (aH (aH K 0 (.slice none 0 0)) 1 (.slice none 0 0)) 2 (.slice none 0 0)) 3 (.int .i64 0)) 4 (.slice none 0 0)) 5 (.slice none 0 0)) 6 (.slice none 0 0))
 simp only [gE, gG, gH] at KX
 exact ⟨KX, Below.setCell (Below.setCell (Below.setCell (Below.setCell (Below.setCell (Below.setCell (Below.setCell hb (show w.heap.size ≤ (⟨T, 0, none⟩ : Addr).block from hT) (.slice none 0 0)) (show w.heap.size ≤ (⟨T, 1, none⟩ : Addr).block from hT) (.slice none 0 0)) (show w.heap.size ≤ (⟨T, 2, none⟩ : Addr).block from hT) (.slice none 0 0)) (show w.heap.size ≤ (⟨T, 3, none⟩ : Addr).block from hT) (.int .i64 0)) (show w.heap.size ≤ (⟨T, 4, none⟩ : Addr).block from hT) (.slice none 0 0)) (show w.heap.size ≤ (⟨T, 5, none⟩ : Addr).block from hT) (.slice none 0 0)) (show w.heap.size ≤ (⟨T, 6, none⟩ : Addr).block from hT) (.slice none 0 0)⟩

def zM (r : Option (Sy × Int)) (w : World) (ev : Ending) (w' : World) : Prop := (r = none ∧ ev = .returned (.tuple #[.agg #[.slice none 0 0, .slice none 0 0, .slice none 0 0, .int .i64 0, .slice none 0 0, .slice none 0 0, .slice none 0 0], .int .i64 0, .int .i64 6]) ∧ Below w.heap.size w w') ∨ (∃ s' a v', r = some (s', a) ∧ ev = .returned (.tuple #[.agg (v'.vals s'), .int .i64 a, .int .i64 0]) ∧ kS w' w.heap.size s' v' ∧ Below w.heap.size w w')
set_option maxHeartbeats 8000000 in
set_option maxRecDepth 100000 in
theorem MQ (v : Sc) (s : Sy) (n : List UInt8) (cpu i : Nat) (w : World) (hs : oU w v s) (hk : fH s) (hf : ∀ c ∈ s.cs, c.ns.length ≤ 1000) (hi : s.named n = some i) (fC : cpu < s.h.aF) (ho : vC w) :
  Calls Tryz.prog 32 #[.agg #[.slice v.a1 v.n1 v.c1, .slice v.hc.az 2 v.hc.cz, .slice v.hc.am 2 v.hc.cm, .int .i64 (s.h.aF : Int), .slice v.hc.al v.hc.lc.length v.hc.cl, .slice v.hc.av s.h.live.length v.hc.cv, .slice v.a2 v.ys.length v.c2], .string ⟨n.toArray⟩, .int .i64 cpu] w (zM (s.one i cpu) w) := by
 obtain ⟨rA, Nb⟩ : ∃ rA, s.one i cpu = rA := ⟨_, rfl⟩
 rw [Nb]
 have Xb := gO Nb
 have hil : ∃ c, s.cs[i]? = some c := by
  have h2 := hi
  unfold Sy.named at h2
  rw [List.findIdx?_eq_some_iff_getElem] at h2
  obtain ⟨h3, _⟩ := h2
  exact ⟨_, gJ h3⟩
 have HIL := gO hil
 clear Nb hil
 obtain ⟨K1, K2, F1, F2, hsz, hbw⟩ := boxes2 w #[.slice v.a1 v.n1 v.c1, .slice v.hc.az 2 v.hc.cz, .slice v.hc.am 2 v.hc.cm, .int .i64 (s.h.aF : Int), .slice v.hc.al v.hc.lc.length v.hc.cl, .slice v.hc.av s.h.live.length v.hc.cv, .slice v.a2 v.ys.length v.c2] 47 #[.slice none 0 0, .slice none 0 0, .slice none 0 0, .int .i64 0, .slice none 0 0, .slice none 0 0, .slice none 0 0] 47
 have HA := gO (RS v s n cpu i _ (hs.below hbw) hk hf hi fC)
 obtain ⟨k0, k1, k2, k3, k4, k5, k6⟩ := gA7 K1
 have HK := gO hk
 have Tn := gO hf
 have HNI := gO hi
 have HB1 := gO hbw
 have HK1 := gO K1
 have HF1 := gO F1
 have HK2 := gO K2
 have HF2 := gO F2
 clear hs hk hf hi K1 K2 F1 F2 hbw
 go_enter Tryz.func32, Tryz.ntmps32
 go_upto_region 1 with fail
 generalize (w.alloc (.cells #[.slice v.a1 v.n1 v.c1, .slice v.hc.az 2 v.hc.cz, .slice v.hc.am 2 v.hc.cm, .int .i64 (s.h.aF : Int), .slice v.hc.al v.hc.lc.length v.hc.cl, .slice v.hc.av s.h.live.length v.hc.cv, .slice v.a2 v.ys.length v.c2] 47)).alloc (.cells #[.slice none 0 0, .slice none 0 0, .slice none 0 0, .int .i64 0, .slice none 0 0, .slice none 0 0, .slice none 0 0] 47) = w1 at *
 have hsz1 : w.heap.size < w1.heap.size := by omega
 go_upto_region 4 with (go_at_call 71; refine HA.out.mono ?_; rintro ev w2 ⟨v1, he, hnew, hb2⟩; unfold Yv Sc.vals at he; subst he; have K12 := aB HK1.out hsz1 hb2; have F12 := aJ HF1.out hsz1 hb2; obtain ⟨y0, y1, y2, y3, y4, y5, y6⟩ := gA7 K12; obtain ⟨f0, f1, f2, f3, f4, f5, f6⟩ := gF7 F12; skip)
 have Qr := laid7 (T := w.heap.size + 1) HB1.out (Nat.lt_succ_self _) hsz HK1.out HF1.out HK2.out HF2.out hb2 hnew
 have HS3 := gO Qr.1
 have HT3 := gO Qr.2.1
 have HU3 := gO Qr.2.2.1
 have HB3 := gO Qr.2.2.2
 have ht2 : w.heap.size + 1 < w2.heap.size := gI hsz hb2.size
 have ht3 : w.heap.size + 1 < (((((((w2.setCell ⟨w.heap.size, 0, none⟩ (.slice v1.a1 v1.n1 v1.c1)).setCell ⟨w.heap.size, 1, none⟩ (.slice v1.hc.az 2 v1.hc.cz)).setCell ⟨w.heap.size, 2, none⟩ (.slice v1.hc.am 2 v1.hc.cm)).setCell ⟨w.heap.size, 3, none⟩ (.int .i64 (s.h.aF : Int))).setCell ⟨w.heap.size, 4, none⟩ (.slice v1.hc.al v1.hc.lc.length v1.hc.cl)).setCell ⟨w.heap.size, 5, none⟩ (.slice v1.hc.av s.h.live.length v1.hc.cv)).setCell ⟨w.heap.size, 6, none⟩ (.slice v1.a2 v1.ys.length v1.c2)).heap.size := by simpa using ht2
 clear K12 F12 y0 y1 y2 y3 y4 y5 y6 f0 f1 f2 f3 f4 f5 f6 Qr hnew HA k0 k1 k2 k3 k4 k5 k6 HK1 HF1 HK2 HF2 hb2 ht2 HB1
 generalize ((((((w2.setCell ⟨w.heap.size, 0, none⟩ (.slice v1.a1 v1.n1 v1.c1)).setCell ⟨w.heap.size, 1, none⟩ (.slice v1.hc.az 2 v1.hc.cz)).setCell ⟨w.heap.size, 2, none⟩ (.slice v1.hc.am 2 v1.hc.cm)).setCell ⟨w.heap.size, 3, none⟩ (.int .i64 (s.h.aF : Int))).setCell ⟨w.heap.size, 4, none⟩ (.slice v1.hc.al v1.hc.lc.length v1.hc.cl)).setCell ⟨w.heap.size, 5, none⟩ (.slice v1.hc.av s.h.live.length v1.hc.cv)).setCell ⟨w.heap.size, 6, none⟩ (.slice v1.a2 v1.ys.length v1.c2) = w3 at *
 clear hsz hsz1
 have hi1 : i < v1.ys.length := by
  have h := congrArg List.length HS3.out.r.cy
  have h2 := HNI.out
  unfold Sy.named at h2
  rw [List.findIdx?_eq_some_iff_getElem] at h2
  obtain ⟨h3, _⟩ := h2
  simp only [List.length_map] at h
  omega

 have hone := Sr v1 s w.heap.size i cpu (fun k => k < w.heap.size ∨ k = w.heap.size + 1) w3 HS3.out HK.out hi1 fC (ho.below HB3.out) (.inl ho.sz) (by obtain ⟨c, hc⟩ := HIL.out; exact HK.out.chosen hc fC)
 cases rA with
 | none =>
  have HC : Hid (Calls Tryz.prog 72 #[.pointer (some ⟨w.heap.size, 0, none⟩), .int .i64 i, .int .i64 cpu] w3 fun ev w' => ev = .returned (.tuple #[.int .i64 0, .int .i64 6]) ∧ Below w3.heap.size w3 w') := by
   refine hone.mono ?_
   rintro ev w' (⟨_, h, hb⟩ | ⟨s', b', v'', h, _⟩)
   ·exact ⟨h, hb⟩
   ·rw [Xb.out] at h
    cases h
  clear hone ho
  go_upto_region 5 with (go_at_call 72; refine HC.out.mono ?_; rintro ev w4 ⟨rfl, hb4⟩)
  have qB := gO (aB HT3.out ht3 hb4)
  have FQ := gO (aJ HU3.out ht3 hb4)
  have FU := gO (Below.step HB3.out hb4)
  clear HT3 HU3 HB3 HS3 hb4
  obtain ⟨q0, q1, q2, q3, q4, q5, q6⟩ := gA7 qB.out
  obtain ⟨f0, f1, f2, f3, f4, f5, f6⟩ := gF7 FQ.out
  have jW := nil7 qB.out FU.out (show w.heap.size ≤ w.heap.size + 1 by omega)
  have KX := jW.1
  have mQ := gO jW.2
  clear jW qB FQ FU
  go_wp2_with fail
  generalize ((((((w4.setCell ⟨w.heap.size + 1, 0, none⟩ (.slice none 0 0)).setCell ⟨w.heap.size + 1, 1, none⟩ (.slice none 0 0)).setCell ⟨w.heap.size + 1, 2, none⟩ (.slice none 0 0)).setCell ⟨w.heap.size + 1, 3, none⟩ (.int .i64 0)).setCell ⟨w.heap.size + 1, 4, none⟩ (.slice none 0 0)).setCell ⟨w.heap.size + 1, 5, none⟩ (.slice none 0 0)).setCell ⟨w.heap.size + 1, 6, none⟩ (.slice none 0 0) = wx at *
  exact bodyPost_ret (v := .tuple #[.agg #[.slice none 0 0, .slice none 0 0, .slice none 0 0, .int .i64 0, .slice none 0 0, .slice none 0 0, .slice none 0 0], .int .i64 0, .int .i64 6]) (by simp [results, Tryz.results32, go_sem, KX]) rfl (.inl ⟨rfl, rfl, mQ.out⟩)

 | some r =>
  obtain ⟨sF, b⟩ := r
  have HC : Hid (Calls Tryz.prog 72 #[.pointer (some ⟨w.heap.size, 0, none⟩), .int .i64 i, .int .i64 cpu] w3 fun ev w' => ∃ v2, ev = .returned (.tuple #[.int .i64 b, .int .i64 0]) ∧ SS w' w.heap.size (fun k => k < w.heap.size ∨ k = w.heap.size + 1) sF v2 ∧ Safe (fun k => k < w.heap.size ∨ k = w.heap.size + 1) w3 w') := by
   refine hone.mono ?_
   rintro ev w' (⟨h, _⟩ | ⟨s', b', v'', h, h1, h2, h3, _⟩)
   ·rw [Xb.out] at h
    cases h
   ·rw [Xb.out] at h
    obtain ⟨rfl, rfl⟩ : sF = s' ∧ b = b' := by simpa using h
    exact ⟨v'', h1, h2, h3⟩
  clear hone ho
  go_upto_region 7 with (go_at_call 72; refine HC.out.mono ?_; rintro ev w4 ⟨v2, rfl, hs4, hf4⟩)
  have vT := gO hs4
  have qB := gO (hf4.box HT3.out ht3 (.inr rfl))
  have FQ := gO (hf4.WO HU3.out ht3 (.inr rfl))
  have FU : Hid (Below w.heap.size w w4) := Safe.after HB3.out hf4 (fun k hk => .inl hk) HB3.out.size
  clear HT3 HU3 HB3 HS3 hs4 hf4 HC
  have z0 := vT.out.k 0
  have z1 := vT.out.k 1
  have z2 := vT.out.k 2
  have z3 := vT.out.k 3
  have z4 := vT.out.k 4
  have z5 := vT.out.k 5
  have z6 := vT.out.k 6
  unfold Sc.vals at z0 z1 z2 z3 z4 z5 z6
  have q0 := qB.out 0
  have q1 := qB.out 1
  have q2 := qB.out 2
  have q3 := qB.out 3
  have q4 := qB.out 4
  have q5 := qB.out 5
  have q6 := qB.out 6
  obtain ⟨f0, f1, f2, f3, f4, f5, f6⟩ := gF7 FQ.out
  simp only [gB, gC, gD] at z0 z1 z2 z3 z4 z5 z6 q0 q1 q2 q3 q4 q5 q6
  have rH := out7 vT.out (T := w.heap.size + 1) (.inr rfl) (fun k hk => .inl hk) (Nat.lt_succ_self _) qB.out FU.out
  have KX := rH.1
  have Ag := gO rH.2.1
  have mQ := gO rH.2.2
  clear rH vT qB FQ FU
  go_wp2_with fail
  generalize ((((((w4.setCell ⟨w.heap.size + 1, 0, none⟩ (.slice v2.a1 v2.n1 v2.c1)).setCell ⟨w.heap.size + 1, 1, none⟩ (.slice v2.hc.az 2 v2.hc.cz)).setCell ⟨w.heap.size + 1, 2, none⟩ (.slice v2.hc.am 2 v2.hc.cm)).setCell ⟨w.heap.size + 1, 3, none⟩ (.int .i64 (sF.h.aF : Int))).setCell ⟨w.heap.size + 1, 4, none⟩ (.slice v2.hc.al v2.hc.lc.length v2.hc.cl)).setCell ⟨w.heap.size + 1, 5, none⟩ (.slice v2.hc.av sF.h.live.length v2.hc.cv)).setCell ⟨w.heap.size + 1, 6, none⟩ (.slice v2.a2 v2.ys.length v2.c2) = wx at *
  exact bodyPost_ret (v := .tuple #[.agg #[.slice v2.a1 v2.n1 v2.c1, .slice v2.hc.az 2 v2.hc.cz, .slice v2.hc.am 2 v2.hc.cm, .int .i64 (sF.h.aF : Int), .slice v2.hc.al v2.hc.lc.length v2.hc.cl, .slice v2.hc.av sF.h.live.length v2.hc.cv, .slice v2.a2 v2.ys.length v2.c2], .int .i64 b, .int .i64 0]) (by simp [results, Tryz.results32, go_sem, KX]) rfl (.inr ⟨sF, b, v2, rfl, rfl, Ag.out, mQ.out⟩)
end
section
open Go.RowKit

def Sy.Qs (s : Sy) (r : Option (Hp × Nat)) : Option (Sy × Int) := match r with
 | some (h', a) => some ({ s with h := h' }, 16 * (a : Int))
 | none => none
def Sy.kU (s : Sy) (cpu n : Nat) : Option (Sy × Int) := if n ≤ 32 then (match s.named (kN (zz (oW n))) with
 | some i => s.one i cpu
 | none => none) else s.Qs (s.h.alloc cpu (oL n) 0 false false)
def Qu (s : Sy) : Prop := ∀ j, j < 6 → ∃ i, s.named (kN (zz j)) = some i

set_option maxHeartbeats 8000000 in
set_option maxRecDepth 100000 in
theorem Aq (v : Sc) (s : Sy) (cpu n : Nat) (w : World) (hs : oU w v s) (hk : fH s) (hf : ∀ c ∈ s.cs, c.ns.length ≤ 1000) (hkn : Qu s) (fC : cpu < s.h.aF) (ho : vC w) (hsz : Gj w) (h1 : 1 ≤ n) (h2 : n ≤ 32) :
  Calls Tryz.prog 29 #[.agg #[.slice v.a1 v.n1 v.c1, .slice v.hc.az 2 v.hc.cz, .slice v.hc.am 2 v.hc.cm, .int .i64 (s.h.aF : Int), .slice v.hc.al v.hc.lc.length v.hc.cl, .slice v.hc.av s.h.live.length v.hc.cv, .slice v.a2 v.ys.length v.c2], .int .i64 cpu, .int .i64 n] w (zM (s.kU cpu n) w) := by
 obtain ⟨K1, K2, F1, F2, hsz2, hbw⟩ := boxes2 w #[.slice v.a1 v.n1 v.c1, .slice v.hc.az 2 v.hc.cz, .slice v.hc.am 2 v.hc.cm, .int .i64 (s.h.aF : Int), .slice v.hc.al v.hc.lc.length v.hc.cl, .slice v.hc.av s.h.live.length v.hc.cv, .slice v.a2 v.ys.length v.c2] 47 #[.slice none 0 0, .slice none 0 0, .slice none 0 0, .int .i64 0, .slice none 0 0, .slice none 0 0, .slice none 0 0] 47
 have hs1 := hs.below hbw
 obtain ⟨i, hi⟩ := hkn (oW n) (vU h1 h2).1
 have hone : s.kU cpu n = s.one i cpu := by
  unfold Sy.kU
  rw [if_pos h2, hi]
 rw [hone]
 generalize hw1 : (w.alloc (.cells #[.slice v.a1 v.n1 v.c1, .slice v.hc.az 2 v.hc.cz, .slice v.hc.am 2 v.hc.cm, .int .i64 (s.h.aF : Int), .slice v.hc.al v.hc.lc.length v.hc.cl, .slice v.hc.av s.h.live.length v.hc.cv, .slice v.a2 v.ys.length v.c2] 47)).alloc (.cells #[.slice none 0 0, .slice none 0 0, .slice none 0 0, .int .i64 0, .slice none 0 0, .slice none 0 0, .slice none 0 0] 47) = w1 at *
 have oK := gO (jK v s w1 hs1 hk hf)
 have OU : Hid (∀ W, Below w1.heap.size w1 W → Calls Tryz.prog 60 #[.int .i64 n] W fun ev w' => ev = .returned (.tuple #[.string ⟨(kN (zz (oW n))).toArray⟩, .bool true]) ∧ W = w') := fun W hW => MJ n W ((hsz.below hbw).below hW) h1 h2
 have Aw : Hid (∀ W, Below w1.heap.size w1 W → Calls Tryz.prog 32 #[.agg #[.slice v.a1 v.n1 v.c1, .slice v.hc.az 2 v.hc.cz, .slice v.hc.am 2 v.hc.cm, .int .i64 (s.h.aF : Int), .slice v.hc.al v.hc.lc.length v.hc.cl, .slice v.hc.av s.h.live.length v.hc.cv, .slice v.a2 v.ys.length v.c2], .string ⟨(kN (zz (oW n))).toArray⟩, .int .i64 cpu] W (zM (s.one i cpu) W)) := fun W hW => MQ v s (kN (zz (oW n))) cpu i W (hs1.below hW) hk hf hi fC ((ho.below hbw).below hW)
 generalize zz (oW n) = z at *
 obtain ⟨rA, Nb⟩ : ∃ rA, s.one i cpu = rA := ⟨_, rfl⟩
 rw [Nb] at Aw ⊢
 obtain ⟨k0, k1, k2, k3, k4, k5, k6⟩ := gA7 K1
 have HB1 := gO hbw
 have HK1 := gO K1
 have HK2 := gO K2
 have HF2 := gO F2
 have hsz1 : w.heap.size < w1.heap.size := by omega
 have hn1 : ¬ (n : Int) < 1 := by omega
 clear hs hk hf hi hs1 K1 K2 F1 F2 hbw hkn ho hsz Nb hone
 go_enter Tryz.func29, Tryz.ntmps29
 go_upto_region 1 with fail
 try rw [hw1]
 go_upto_region 7 with (first | (go_at_call 38; refine oK.out.mono ?_; rintro ev w2 ⟨rfl, hb2⟩) | (go_at_call 60; refine (OU.out _ hb2).mono ?_; rintro ev w' ⟨rfl, rfl⟩))
 have HB2 := gO hb2
 have K12 := aB HK1.out hsz1 hb2
 have FV := gI hsz2 hb2.size
 have HT2 := gO (aB HK2.out hsz2 hb2)
 have HU2 := gO (aJ HF2.out hsz2 hb2)
 have HBB := gO (Below.step HB1.out hb2)
 have hAL := Aw.out w2 hb2
 have aFv : w.heap.size ≤ w2.heap.size := HBB.out.size
 clear k0 k1 k2 k3 k4 k5 k6 oK OU Aw hb2 HB2
 obtain ⟨k0, k1, k2, k3, k4, k5, k6⟩ := gA7 K12
 clear K12
 cases rA with
 | none =>
  have HA : Hid (Calls Tryz.prog 32 #[.agg #[.slice v.a1 v.n1 v.c1, .slice v.hc.az 2 v.hc.cz, .slice v.hc.am 2 v.hc.cm, .int .i64 (s.h.aF : Int), .slice v.hc.al v.hc.lc.length v.hc.cl, .slice v.hc.av s.h.live.length v.hc.cv, .slice v.a2 v.ys.length v.c2], .string ⟨(kN z).toArray⟩, .int .i64 cpu] w2 fun ev w' => ev = .returned (.tuple #[.agg #[.slice none 0 0, .slice none 0 0, .slice none 0 0, .int .i64 0, .slice none 0 0, .slice none 0 0, .slice none 0 0], .int .i64 0, .int .i64 6]) ∧ Below w2.heap.size w2 w') := by
   refine hAL.mono ?_
   rintro ev w' (⟨_, h, hb⟩ | ⟨s', b', v'', h, _⟩)
   ·exact ⟨h, hb⟩
   ·cases h
  clear hAL
  go_wp2_with (go_at_call 32; refine HA.out.mono ?_; rintro ev w3 ⟨rfl, hb3⟩; have HT3 := aB HT2.out FV hb3; have HU3 := aJ HU2.out FV hb3; obtain ⟨y0, y1, y2, y3, y4, y5, y6⟩ := gA7 HT3; obtain ⟨f0, f1, f2, f3, f4, f5, f6⟩ := gF7 HU3; skip)
  have jW := nil7 HT3 (Below.step HBB.out hb3) (Nat.le_succ _)
  have KX := jW.1
  have mQ := gO jW.2
  clear jW HT3 HU3 y0 y1 y2 y3 y4 y5 y6 f0 f1 f2 f3 f4 f5 f6
  generalize ((((((w3.setCell ⟨w.heap.size + 1, 0, none⟩ (.slice none 0 0)).setCell ⟨w.heap.size + 1, 1, none⟩ (.slice none 0 0)).setCell ⟨w.heap.size + 1, 2, none⟩ (.slice none 0 0)).setCell ⟨w.heap.size + 1, 3, none⟩ (.int .i64 0)).setCell ⟨w.heap.size + 1, 4, none⟩ (.slice none 0 0)).setCell ⟨w.heap.size + 1, 5, none⟩ (.slice none 0 0)).setCell ⟨w.heap.size + 1, 6, none⟩ (.slice none 0 0) = wx at *
  exact bodyPost_ret (v := .tuple #[.agg #[.slice none 0 0, .slice none 0 0, .slice none 0 0, .int .i64 0, .slice none 0 0, .slice none 0 0, .slice none 0 0], .int .i64 0, .int .i64 6]) (by simp [results, Tryz.results29, go_sem, KX]) rfl (.inl ⟨rfl, rfl, mQ.out⟩)
 | some r =>
  obtain ⟨sF, b⟩ := r
  have HA : Hid (Calls Tryz.prog 32 #[.agg #[.slice v.a1 v.n1 v.c1, .slice v.hc.az 2 v.hc.cz, .slice v.hc.am 2 v.hc.cm, .int .i64 (s.h.aF : Int), .slice v.hc.al v.hc.lc.length v.hc.cl, .slice v.hc.av s.h.live.length v.hc.cv, .slice v.a2 v.ys.length v.c2], .string ⟨(kN z).toArray⟩, .int .i64 cpu] w2 fun ev w' => ∃ v2, ev = .returned (.tuple #[.agg #[.slice v2.a1 v2.n1 v2.c1, .slice v2.hc.az 2 v2.hc.cz, .slice v2.hc.am 2 v2.hc.cm, .int .i64 (sF.h.aF : Int), .slice v2.hc.al v2.hc.lc.length v2.hc.cl, .slice v2.hc.av sF.h.live.length v2.hc.cv, .slice v2.a2 v2.ys.length v2.c2], .int .i64 b, .int .i64 0]) ∧ kS w' w2.heap.size sF v2 ∧ Below w2.heap.size w2 w') := by
   refine hAL.mono ?_
   rintro ev w' (⟨h, _⟩ | ⟨s', b', v'', h, h1, h2, h3⟩)
   ·cases h
   ·obtain ⟨rfl, rfl⟩ : sF = s' ∧ b = b' := by simpa using h
    exact ⟨v'', h1, h2, h3⟩
  clear hAL
  go_wp2_with (go_at_call 32; refine HA.out.mono ?_; rintro ev w3 ⟨v2, rfl, hn3, hb3⟩; have HT3 := aB HT2.out FV hb3; have HU3 := aJ HU2.out FV hb3; obtain ⟨y0, y1, y2, y3, y4, y5, y6⟩ := gA7 HT3; obtain ⟨f0, f1, f2, f3, f4, f5, f6⟩ := gF7 HU3; skip)
  have KX := WA HT3 v2 sF
  have Ag := gO (kS.put7 (T := w.heap.size + 1) (G := w.heap.size) hn3 FV (by omega))
  have mQ := gO (zN (T := w.heap.size + 1) (Below.step HBB.out hb3) (Nat.le_succ _) v2 sF)
  clear HT3 HU3 y0 y1 y2 y3 y4 y5 y6 f0 f1 f2 f3 f4 f5 f6 hn3 hb3
  generalize ((((((w3.setCell ⟨w.heap.size + 1, 0, none⟩ (.slice v2.a1 v2.n1 v2.c1)).setCell ⟨w.heap.size + 1, 1, none⟩ (.slice v2.hc.az 2 v2.hc.cz)).setCell ⟨w.heap.size + 1, 2, none⟩ (.slice v2.hc.am 2 v2.hc.cm)).setCell ⟨w.heap.size + 1, 3, none⟩ (.int .i64 (sF.h.aF : Int))).setCell ⟨w.heap.size + 1, 4, none⟩ (.slice v2.hc.al v2.hc.lc.length v2.hc.cl)).setCell ⟨w.heap.size + 1, 5, none⟩ (.slice v2.hc.av sF.h.live.length v2.hc.cv)).setCell ⟨w.heap.size + 1, 6, none⟩ (.slice v2.a2 v2.ys.length v2.c2) = wx at *
  exact bodyPost_ret (v := .tuple #[.agg #[.slice v2.a1 v2.n1 v2.c1, .slice v2.hc.az 2 v2.hc.cz, .slice v2.hc.am 2 v2.hc.cm, .int .i64 (sF.h.aF : Int), .slice v2.hc.al v2.hc.lc.length v2.hc.cl, .slice v2.hc.av sF.h.live.length v2.hc.cv, .slice v2.a2 v2.ys.length v2.c2], .int .i64 b, .int .i64 0]) (by simp [results, Tryz.results29, go_sem, KX]) rfl (.inr ⟨sF, b, v2, rfl, rfl, Ag.out, mQ.out⟩)
end
section
open Go.RowKit

set_option maxHeartbeats 8000000 in
set_option maxRecDepth 100000 in
theorem wY (v : Sc) (s : Sy) (cpu : Nat) (n : Int) (w : World) (hs : oU w v s) (hk : fH s) (hf : ∀ c ∈ s.cs, c.ns.length ≤ 1000) (h1 : n < 1) :
  Calls Tryz.prog 29 #[.agg #[.slice v.a1 v.n1 v.c1, .slice v.hc.az 2 v.hc.cz, .slice v.hc.am 2 v.hc.cm, .int .i64 (s.h.aF : Int), .slice v.hc.al v.hc.lc.length v.hc.cl, .slice v.hc.av s.h.live.length v.hc.cv, .slice v.a2 v.ys.length v.c2], .int .i64 cpu, .int .i64 n] w fun ev w' => ev = .returned (.tuple #[.agg #[.slice none 0 0, .slice none 0 0, .slice none 0 0, .int .i64 0, .slice none 0 0, .slice none 0 0, .slice none 0 0], .int .i64 0, .int .i64 1]) ∧ Below w.heap.size w w' := by
 obtain ⟨K1, K2, F1, F2, hsz2, hbw⟩ := boxes2 w #[.slice v.a1 v.n1 v.c1, .slice v.hc.az 2 v.hc.cz, .slice v.hc.am 2 v.hc.cm, .int .i64 (s.h.aF : Int), .slice v.hc.al v.hc.lc.length v.hc.cl, .slice v.hc.av s.h.live.length v.hc.cv, .slice v.a2 v.ys.length v.c2] 47 #[.slice none 0 0, .slice none 0 0, .slice none 0 0, .int .i64 0, .slice none 0 0, .slice none 0 0, .slice none 0 0] 47
 have hs1 := hs.below hbw
 generalize hw1 : (w.alloc (.cells #[.slice v.a1 v.n1 v.c1, .slice v.hc.az 2 v.hc.cz, .slice v.hc.am 2 v.hc.cm, .int .i64 (s.h.aF : Int), .slice v.hc.al v.hc.lc.length v.hc.cl, .slice v.hc.av s.h.live.length v.hc.cv, .slice v.a2 v.ys.length v.c2] 47)).alloc (.cells #[.slice none 0 0, .slice none 0 0, .slice none 0 0, .int .i64 0, .slice none 0 0, .slice none 0 0, .slice none 0 0] 47) = w1 at *
 have oK := gO (jK v s w1 hs1 hk hf)
 obtain ⟨k0, k1, k2, k3, k4, k5, k6⟩ := gA7 K1
 have HB1 := gO hbw
 have HK2 := gO K2
 have HF2 := gO F2
 clear hs hk hf hs1 K1 K2 F1 F2 hbw
 go_enter Tryz.func29, Tryz.ntmps29
 go_upto_region 1 with fail
 try rw [hw1]
 go_upto_region 4 with (go_at_call 38; refine oK.out.mono ?_; rintro ev w2 ⟨rfl, hb2⟩)
 have qB := gO (aB HK2.out hsz2 hb2)
 have FQ := gO (aJ HF2.out hsz2 hb2)
 have FU := gO (Below.step HB1.out hb2)
 clear k0 k1 k2 k3 k4 k5 k6 oK hb2 HK2 HF2
 obtain ⟨q0, q1, q2, q3, q4, q5, q6⟩ := gA7 qB.out
 obtain ⟨f0, f1, f2, f3, f4, f5, f6⟩ := gF7 FQ.out
 have jW := nil7 qB.out FU.out (show w.heap.size ≤ w.heap.size + 1 by omega)
 have KX := jW.1
 have mQ := gO jW.2
 clear jW qB FQ FU
 go_wp2_with fail
 generalize ((((((w2.setCell ⟨w.heap.size + 1, 0, none⟩ (.slice none 0 0)).setCell ⟨w.heap.size + 1, 1, none⟩ (.slice none 0 0)).setCell ⟨w.heap.size + 1, 2, none⟩ (.slice none 0 0)).setCell ⟨w.heap.size + 1, 3, none⟩ (.int .i64 0)).setCell ⟨w.heap.size + 1, 4, none⟩ (.slice none 0 0)).setCell ⟨w.heap.size + 1, 5, none⟩ (.slice none 0 0)).setCell ⟨w.heap.size + 1, 6, none⟩ (.slice none 0 0) = wx at *
 exact bodyPost_ret (v := .tuple #[.agg #[.slice none 0 0, .slice none 0 0, .slice none 0 0, .int .i64 0, .slice none 0 0, .slice none 0 0, .slice none 0 0], .int .i64 0, .int .i64 1]) (by simp [results, Tryz.results29, go_sem, KX]) rfl (⟨rfl, mQ.out⟩)


set_option maxHeartbeats 8000000 in
set_option maxRecDepth 100000 in
theorem wZ (v : Sc) (s : Sy) (cpu n : Nat) (w : World) (hs : oU w v s) (hk : fH s) (hf : ∀ c ∈ s.cs, c.ns.length ≤ 1000) (hsz : Gj w) (h1 : 257 ≤ n) (h2 : n ≤ 1000000) :
  Calls Tryz.prog 29 #[.agg #[.slice v.a1 v.n1 v.c1, .slice v.hc.az 2 v.hc.cz, .slice v.hc.am 2 v.hc.cm, .int .i64 (s.h.aF : Int), .slice v.hc.al v.hc.lc.length v.hc.cl, .slice v.hc.av s.h.live.length v.hc.cv, .slice v.a2 v.ys.length v.c2], .int .i64 cpu, .int .i64 n] w fun ev w' => ev = .returned (.tuple #[.agg #[.slice none 0 0, .slice none 0 0, .slice none 0 0, .int .i64 0, .slice none 0 0, .slice none 0 0, .slice none 0 0], .int .i64 0, .int .i64 9]) ∧ Below w.heap.size w w' := by
 obtain ⟨K1, K2, F1, F2, hsz2, hbw⟩ := boxes2 w #[.slice v.a1 v.n1 v.c1, .slice v.hc.az 2 v.hc.cz, .slice v.hc.am 2 v.hc.cm, .int .i64 (s.h.aF : Int), .slice v.hc.al v.hc.lc.length v.hc.cl, .slice v.hc.av s.h.live.length v.hc.cv, .slice v.a2 v.ys.length v.c2] 47 #[.slice none 0 0, .slice none 0 0, .slice none 0 0, .int .i64 0, .slice none 0 0, .slice none 0 0, .slice none 0 0] 47
 have hs1 := hs.below hbw
 generalize hw1 : (w.alloc (.cells #[.slice v.a1 v.n1 v.c1, .slice v.hc.az 2 v.hc.cz, .slice v.hc.am 2 v.hc.cm, .int .i64 (s.h.aF : Int), .slice v.hc.al v.hc.lc.length v.hc.cl, .slice v.hc.av s.h.live.length v.hc.cv, .slice v.a2 v.ys.length v.c2] 47)).alloc (.cells #[.slice none 0 0, .slice none 0 0, .slice none 0 0, .int .i64 0, .slice none 0 0, .slice none 0 0, .slice none 0 0] 47) = w1 at *
 have oK := gO (jK v s w1 hs1 hk hf)
 have OU : Hid (∀ W, Below w1.heap.size w1 W → Calls Tryz.prog 60 #[.int .i64 n] W fun ev w' => ev = .returned (.tuple #[.string ⟨#[]⟩, .bool false]) ∧ W = w') := fun W hW => wX n W ((hsz.below hbw).below hW) (by omega)
 obtain ⟨k0, k1, k2, k3, k4, k5, k6⟩ := gA7 K1
 have HB1 := gO hbw
 have HK2 := gO K2
 have HF2 := gO F2
 have hn1 : ¬ (n : Int) < 1 := by omega
 clear hs hk hf hs1 K1 K2 F1 F2 hbw hsz
 go_enter Tryz.func29, Tryz.ntmps29
 go_upto_region 1 with fail
 try rw [hw1]
 go_upto_region 9 with (first | (go_at_call 38; refine oK.out.mono ?_; rintro ev w2 ⟨rfl, hb2⟩) | (go_at_call 60; refine (OU.out _ hb2).mono ?_; rintro ev w' ⟨rfl, rfl⟩))
 have qB := gO (aB HK2.out hsz2 hb2)
 have FQ := gO (aJ HF2.out hsz2 hb2)
 have FU := gO (Below.step HB1.out hb2)
 clear k0 k1 k2 k3 k4 k5 k6 oK OU hb2 HK2 HF2
 go_wp2_with fail
 go_loopw [38] (fun s38 wr => ∃ o : Nat, o ≤ 5 ∧ s38 = .int .i64 (o : Int) ∧ wr = w2) (fun s38 _ => 5 - (intOf s38).toNat)
 case atStart => exact ⟨0, by omega, rfl, rfl⟩
 case round =>
  obtain ⟨o, ho, rfl, rfl⟩ := hrel
  by_cases hlt : o < 5
  ·have g1 : (16 : Int) < n := by omega
   have g2 : (32 : Int) < n := by omega
   have g3 : (64 : Int) < n := by omega
   have g4 : (128 : Int) < n := by omega
   have g5 : (256 : Int) < n := by omega
   obtain rfl | rfl | rfl | rfl | rfl : o = 0 ∨ o = 1 ∨ o = 2 ∨ o = 3 ∨ o = 4 := by omega
   ·go_wp2
    go_roundw
    case rel => exact ⟨1, by omega, by go_num, by first | rfl | trivial⟩
    case measure => simp [intOf]
   ·go_wp2
    go_roundw
    case rel => exact ⟨2, by omega, by go_num, by first | rfl | trivial⟩
    case measure => simp [intOf]
   ·go_wp2
    go_roundw
    case rel => exact ⟨3, by omega, by go_num, by first | rfl | trivial⟩
    case measure => simp [intOf]
   ·go_wp2
    go_roundw
    case rel => exact ⟨4, by omega, by go_num, by first | rfl | trivial⟩
    case measure => simp [intOf]
   ·go_wp2
    go_roundw
    case rel => exact ⟨5, by omega, by go_num, by first | rfl | trivial⟩
    case measure => simp [intOf]
  ·obtain rfl : o = 5 := by omega
   obtain ⟨q0, q1, q2, q3, q4, q5, q6⟩ := gA7 qB.out
   obtain ⟨f0, f1, f2, f3, f4, f5, f6⟩ := gF7 FQ.out
   have jW := nil7 qB.out FU.out (show w.heap.size ≤ w.heap.size + 1 by omega)
   have KX := jW.1
   have mQ := gO jW.2
   clear jW qB FQ FU
   go_wp2_with fail
   generalize ((((((wr.setCell ⟨w.heap.size + 1, 0, none⟩ (.slice none 0 0)).setCell ⟨w.heap.size + 1, 1, none⟩ (.slice none 0 0)).setCell ⟨w.heap.size + 1, 2, none⟩ (.slice none 0 0)).setCell ⟨w.heap.size + 1, 3, none⟩ (.int .i64 0)).setCell ⟨w.heap.size + 1, 4, none⟩ (.slice none 0 0)).setCell ⟨w.heap.size + 1, 5, none⟩ (.slice none 0 0)).setCell ⟨w.heap.size + 1, 6, none⟩ (.slice none 0 0) = wx at *
   exact bodyPost_ret (v := .tuple #[.agg #[.slice none 0 0, .slice none 0 0, .slice none 0 0, .int .i64 0, .slice none 0 0, .slice none 0 0, .slice none 0 0], .int .i64 0, .int .i64 9]) (by simp [results, Tryz.results29, go_sem, KX]) rfl (⟨rfl, mQ.out⟩)
end
section
open Go.RowKit

theorem shl16 {o : Nat} (h : o ≤ 4) : wrap64 (16 * 2 ^ o) = ((16 * 2 ^ o : Nat) : Int) := by
 obtain rfl | rfl | rfl | rfl | rfl : o = 0 ∨ o = 1 ∨ o = 2 ∨ o = 3 ∨ o = 4 := by omega
 all_goals decide +kernel
set_option maxHeartbeats 8000000 in
set_option maxRecDepth 100000 in
theorem FW (v : Sc) (s : Sy) (cpu n : Nat) (w : World) (hs : oU w v s) (hk : fH s) (hf : ∀ c ∈ s.cs, c.ns.length ≤ 1000) (fC : cpu < s.h.aF) (ho : vC w) (hsz : Gj w) (h1 : 33 ≤ n) (h2 : n ≤ 256) :
  Calls Tryz.prog 29 #[.agg #[.slice v.a1 v.n1 v.c1, .slice v.hc.az 2 v.hc.cz, .slice v.hc.am 2 v.hc.cm, .int .i64 (s.h.aF : Int), .slice v.hc.al v.hc.lc.length v.hc.cl, .slice v.hc.av s.h.live.length v.hc.cv, .slice v.a2 v.ys.length v.c2], .int .i64 cpu, .int .i64 n] w (zM (s.kU cpu n) w) := by
 obtain ⟨K1, K2, F1, F2, hsz2, hbw⟩ := boxes2 w #[.slice v.a1 v.n1 v.c1, .slice v.hc.az 2 v.hc.cz, .slice v.hc.am 2 v.hc.cm, .int .i64 (s.h.aF : Int), .slice v.hc.al v.hc.lc.length v.hc.cl, .slice v.hc.av s.h.live.length v.hc.cv, .slice v.a2 v.ys.length v.c2] 47 #[.slice none 0 0, .slice none 0 0, .slice none 0 0, .int .i64 0, .slice none 0 0, .slice none 0 0, .slice none 0 0] 47
 have hs1 := hs.below hbw
 generalize hw1 : (w.alloc (.cells #[.slice v.a1 v.n1 v.c1, .slice v.hc.az 2 v.hc.cz, .slice v.hc.am 2 v.hc.cm, .int .i64 (s.h.aF : Int), .slice v.hc.al v.hc.lc.length v.hc.cl, .slice v.hc.av s.h.live.length v.hc.cv, .slice v.a2 v.ys.length v.c2] 47)).alloc (.cells #[.slice none 0 0, .slice none 0 0, .slice none 0 0, .int .i64 0, .slice none 0 0, .slice none 0 0, .slice none 0 0] 47) = w1 at *
 have oK := gO (jK v s w1 hs1 hk hf)
 have OU : Hid (∀ W, Below w1.heap.size w1 W → Calls Tryz.prog 60 #[.int .i64 n] W fun ev w' => ev = .returned (.tuple #[.string ⟨#[]⟩, .bool false]) ∧ W = w') := fun W hW => wX n W ((hsz.below hbw).below hW) (by omega)
 obtain ⟨hO2, hO4, hOn, _, hOl⟩ := y9 h1 h2
 obtain ⟨rA, Nb⟩ : ∃ rA, s.h.alloc cpu (oL n) 0 false false = rA := ⟨_, rfl⟩
 have Zv : s.kU cpu n = s.Qs rA := by
  unfold Sy.kU
  rw [if_neg (by omega), Nb]
 rw [Zv]
 have hA : ∀ h' a, rA = some (h', a) → a ≤ 256 := fun h' a e => by
  rw [← Nb] at e
  obtain ⟨_, _, _, _, _, _, h5, _⟩ := hk.hk.alloc fC (by omega) (by decide) e
  omega
 have HA := gO hA
 clear hA
 obtain ⟨O, hO⟩ : ∃ O, oL n = O := ⟨_, rfl⟩
 rw [hO] at hO2 hO4 hOn hOl Nb
 have HOL := gO hOl
 have Vt : Hid (∀ W, Below w1.heap.size w1 W → Calls Tryz.prog 61 #[.agg #[.slice v.hc.az 2 v.hc.cz, .slice v.hc.am 2 v.hc.cm, .int .i64 (s.h.aF : Int), .slice v.hc.al v.hc.lc.length v.hc.cl, .slice v.hc.av s.h.live.length v.hc.cv], .int .i64 cpu, .int .i64 (O : Int), .int .i64 ((0 : Nat) : Int)] W fun ev w' => Below W.heap.size W w' ∧ ((rA = none ∧ ev = .returned (.tuple #[.agg #[.slice none 0 0, .slice none 0 0, .int .i64 0, .slice none 0 0, .slice none 0 0], .int .i64 0, .int .i64 6])) ∨ (∃ (h' : Hp) (a : Nat) (c' : Hc), rA = some (h', a) ∧ ev = .returned (.tuple #[.agg (c'.vals h'), .int .i64 (a : Nat), .int .i64 0]) ∧ kX w' W.heap.size h' c'))) := fun W hW => by
  have h := BG v.hc.az v.hc.am v.hc.al v.hc.av v.hc.cz v.hc.cm v.hc.cl v.hc.cv v.hc.lc.length s.h.live.length v.hc.y0 v.hc.y1 v.hc.lc s.h cpu O 0 W (hs1.below hW).hh hk.hk (by have := (hs1.hh.ll); have h9 := congrArg List.length this; rw [List.length_map] at h9; rw [h9]; have := hk.hk.rX; omega) (by have := hk.hk.jV; omega) fC hO4 (by decide) (by decide) ((ho.below hbw).below hW)
  have e0 : s.h.alloc cpu O (qZ 0) (decide (0 / 8 % 2 = 1)) (decide (0 % 2 = 1)) = rA := Nb
  rw [e0] at h
  exact h
 obtain ⟨k0, k1, k2, k3, k4, k5, k6⟩ := gA7 K1
 have HB1 := gO hbw
 have HK1 := gO K1
 have HF1 := gO F1
 have HK2 := gO K2
 have HF2 := gO F2
 have Ue : Hid (∀ W, Below w1.heap.size w1 W → Calls Tryz.prog 39 #[.agg #[.slice v.a1 v.n1 v.c1, .slice v.hc.az 2 v.hc.cz, .slice v.hc.am 2 v.hc.cm, .int .i64 (s.h.aF : Int), .slice v.hc.al v.hc.lc.length v.hc.cl, .slice v.hc.av s.h.live.length v.hc.cv, .slice v.a2 v.ys.length v.c2]] W fun ev w' => ∃ v', ev = .returned (.agg #[.slice v'.a1 v'.n1 v'.c1, .slice v'.hc.az 2 v'.hc.cz, .slice v'.hc.am 2 v'.hc.cm, .int .i64 (s.h.aF : Int), .slice v'.hc.al v'.hc.lc.length v'.hc.cl, .slice v'.hc.av s.h.live.length v'.hc.cv, .slice v'.a2 v'.ys.length v'.c2]) ∧ kS w' W.heap.size s v' ∧ Below W.heap.size W w') := fun W hW => yY v s W (hs1.below hW) hk hf
 have hn1 : ¬ (n : Int) < 1 := by omega
 have hsz1 : w.heap.size < w1.heap.size := by omega
 clear hs hk hf hs1 K1 K2 F1 F2 hbw hsz Zv Nb hO hOl ho
 go_enter Tryz.func29, Tryz.ntmps29
 go_upto_region 1 with fail
 try rw [hw1]
 go_upto_region 9 with (first | (go_at_call 38; refine oK.out.mono ?_; rintro ev w2 ⟨rfl, hb2⟩) | (go_at_call 60; refine (OU.out _ hb2).mono ?_; rintro ev w' ⟨rfl, rfl⟩))
 have HB12 := gO hb2
 clear k0 k1 k2 k3 k4 k5 k6 oK OU hb2
 go_wp2_with fail
 go_loopw [38] (fun s38 wr => ∃ o : Nat, o ≤ O ∧ s38 = .int .i64 (o : Int) ∧ wr = w2) (fun s38 _ => 5 - (intOf s38).toNat)
 case atStart => exact ⟨0, by omega, rfl, rfl⟩
 case round =>
  obtain ⟨o, ho, rfl, rfl⟩ := hrel
  have aFw : (o : Int) < 5 := by omega
  have hsh := shl16 (o := o) (by omega)
  by_cases hlt : o < O
  ·have hP := HOL.out o hlt
   generalize Uc : 16 * 2 ^ o = P at hP
   have hPi : (P : Int) < n := by omega
   rw [Uc] at hsh
   clear Uc
   go_wp2
   go_roundw
   case rel => exact ⟨o + 1, by omega, by go_num, by first | rfl | trivial⟩
   case measure => simp [intOf]; omega
  ·obtain rfl : o = O := by omega
   generalize Uc : 16 * 2 ^ o = P at hOn
   have hPi : ¬ (P : Int) < n := by omega
   rw [Uc] at hsh
   clear Uc
   have jX := HB12.out
   have K12 := aB HK1.out hsz1 jX
   obtain ⟨k0, k1, k2, k3, k4, k5, k6⟩ := gA7 K12
   have Tt := Vt.out wr jX
   clear Vt
   have JI : w.heap.size < wr.heap.size := gI hsz1 jX.size
   have FX : w.heap.size + 1 < wr.heap.size := gI hsz2 jX.size
   cases rA with
   | none =>
    have HPN : Hid (Calls Tryz.prog 61 #[.agg #[.slice v.hc.az 2 v.hc.cz, .slice v.hc.am 2 v.hc.cm, .int .i64 (s.h.aF : Int), .slice v.hc.al v.hc.lc.length v.hc.cl, .slice v.hc.av s.h.live.length v.hc.cv], .int .i64 cpu, .int .i64 (o : Int), .int .i64 0] wr fun ev w' => ev = .returned (.tuple #[.agg #[.slice none 0 0, .slice none 0 0, .int .i64 0, .slice none 0 0, .slice none 0 0], .int .i64 0, .int .i64 6]) ∧ Below wr.heap.size wr w') := by
     refine Tt.mono ?_
     rintro ev w' ⟨hb, (⟨_, h⟩ | ⟨h', a', c', h, _⟩)⟩
     ·exact ⟨h, hb⟩
     ·cases h
    have HE : Hid (s.Qs none = none) := rfl
    clear Tt
    go_upto_region 14 with (go_at_call 61; refine HPN.out.mono ?_; rintro ev w3 ⟨rfl, hb3⟩)
    have hb4 := Below.step hb3 (aC w3 (.cells #[.slice none 0 0, .slice none 0 0, .int .i64 0, .slice none 0 0, .slice none 0 0] 44))
    have qB := gO (aB (aB HK2.out hsz2 jX) FX hb4)
    have FQ := gO (aJ (aJ HF2.out hsz2 jX) FX hb4)
    have FU := gO (Below.step (Below.step HB1.out jX) hb4)
    clear hb3 hb4 HK2 HF2 HK1 HF1 K12 k0 k1 k2 k3 k4 k5 k6 HPN Ue
    generalize w3.alloc (.cells #[.slice none 0 0, .slice none 0 0, .int .i64 0, .slice none 0 0, .slice none 0 0] 44) = w4 at *
    generalize w3.heap.size = B14 at *
    obtain ⟨q0, q1, q2, q3, q4, q5, q6⟩ := gA7 qB.out
    obtain ⟨f0, f1, f2, f3, f4, f5, f6⟩ := gF7 FQ.out
    have jW := nil7 qB.out FU.out (show w.heap.size ≤ w.heap.size + 1 by omega)
    have KX := jW.1
    have mQ := gO jW.2
    clear jW qB FQ FU
    go_wp2_with fail
    generalize ((((((w4.setCell ⟨w.heap.size + 1, 0, none⟩ (.slice none 0 0)).setCell ⟨w.heap.size + 1, 1, none⟩ (.slice none 0 0)).setCell ⟨w.heap.size + 1, 2, none⟩ (.slice none 0 0)).setCell ⟨w.heap.size + 1, 3, none⟩ (.int .i64 0)).setCell ⟨w.heap.size + 1, 4, none⟩ (.slice none 0 0)).setCell ⟨w.heap.size + 1, 5, none⟩ (.slice none 0 0)).setCell ⟨w.heap.size + 1, 6, none⟩ (.slice none 0 0) = wx at *
    exact bodyPost_ret (v := .tuple #[.agg #[.slice none 0 0, .slice none 0 0, .slice none 0 0, .int .i64 0, .slice none 0 0, .slice none 0 0, .slice none 0 0], .int .i64 0, .int .i64 6]) (by simp [results, Tryz.results29, go_sem, KX]) rfl (.inl ⟨HE.out, rfl, mQ.out⟩)

   | some r =>
    obtain ⟨h', a⟩ := r
    have HPS : Hid (Calls Tryz.prog 61 #[.agg #[.slice v.hc.az 2 v.hc.cz, .slice v.hc.am 2 v.hc.cm, .int .i64 (s.h.aF : Int), .slice v.hc.al v.hc.lc.length v.hc.cl, .slice v.hc.av s.h.live.length v.hc.cv], .int .i64 cpu, .int .i64 (o : Int), .int .i64 0] wr fun ev w' => ∃ c', ev = .returned (.tuple #[.agg #[.slice c'.az 2 c'.cz, .slice c'.am 2 c'.cm, .int .i64 (h'.aF : Int), .slice c'.al c'.lc.length c'.cl, .slice c'.av h'.live.length c'.cv], .int .i64 (a : Int), .int .i64 0]) ∧ kX w' wr.heap.size h' c' ∧ Below wr.heap.size wr w') := by
     refine Tt.mono ?_
     rintro ev w' ⟨hb, (⟨h, _⟩ | ⟨h'', a', c', h, h1, h2⟩)⟩
     ·cases h
     ·obtain ⟨rfl, rfl⟩ : h' = h'' ∧ a = a' := by simpa using h
      exact ⟨c', h1, h2, hb⟩
    have HE : Hid (s.Qs (some (h', a)) = some ({ s with h := h' }, 16 * (a : Int))) := rfl
    clear Tt
    go_upto_region 14 with (go_at_call 61; refine HPS.out.mono ?_; rintro ev w3 ⟨c', rfl, hn3, hb3⟩)
    have ba := aC w3 (.cells #[.slice c'.az 2 c'.cz, .slice c'.am 2 c'.cm, .int .i64 (h'.aF : Int), .slice c'.al c'.lc.length c'.cl, .slice c'.av h'.live.length c'.cv] 44)
    have K14 := aY w3 #[.slice c'.az 2 c'.cz, .slice c'.am 2 c'.cm, .int .i64 (h'.aF : Int), .slice c'.al c'.lc.length c'.cl, .slice c'.av h'.live.length c'.cv] 44
    have hb4 := Below.step hb3 ba
    have Zw : w3.heap.size < (w3.alloc (.cells #[.slice c'.az 2 c'.cz, .slice c'.am 2 c'.cm, .int .i64 (h'.aF : Int), .slice c'.al c'.lc.length c'.cl, .slice c'.av h'.live.length c'.cv] 44)).heap.size := by simp
    have aFy : wr.heap.size ≤ w3.heap.size := hb3.size
    have hX1 : ∀ k, (k < w.heap.size ∨ k = w.heap.size + 1) → k < wr.heap.size := fun k hk => by omega
    have hHR : HR (w3.alloc (.cells #[.slice c'.az 2 c'.cz, .slice c'.am 2 c'.cm, .int .i64 (h'.aF : Int), .slice c'.al c'.lc.length c'.cl, .slice c'.av h'.live.length c'.cv] 44)) w.heap.size (fun k => k < w.heap.size ∨ k = w.heap.size + 1) h' c' := (HR.lift hn3 JI hX1 (by omega)).below ba
    have HHR := gO hHR
    have KG4 := gO (aB (aB HK1.out hsz1 jX) JI hb4)
    have FG4 := gO (aJ (aJ HF1.out hsz1 jX) JI hb4)
    have KT4 := gO (aB (aB HK2.out hsz2 jX) FX hb4)
    have FT4 := gO (aJ (aJ HF2.out hsz2 jX) FX hb4)
    have HB4 := gO (Below.step (Below.step HB1.out jX) hb4)
    have HCP4 := gO (Ue.out _ (jX.trans (hb4.mono jX.size)))
    have Zx := gO K14
    have hw4 : wr.heap.size ≤ (w3.alloc (.cells #[.slice c'.az 2 c'.cz, .slice c'.am 2 c'.cm, .int .i64 (h'.aF : Int), .slice c'.al c'.lc.length c'.cl, .slice c'.av h'.live.length c'.cv] 44)).heap.size := hb4.size
    have hBne : w3.heap.size ≠ w.heap.size := by omega
    clear hb3 hb4 ba hHR K14 hn3 HK1 HF1 HK2 HF2 HPS Ue K12 k0 k1 k2 k3 k4 k5 k6
    generalize w3.alloc (.cells #[.slice c'.az 2 c'.cz, .slice c'.am 2 c'.cm, .int .i64 (h'.aF : Int), .slice c'.al c'.lc.length c'.cl, .slice c'.av h'.live.length c'.cv] 44) = w4 at *
    generalize w3.heap.size = B14 at *
    obtain ⟨k0, k1, k2, k3, k4, k5, k6⟩ := gA7 KG4.out
    have hs4 : w.heap.size < w4.heap.size := gI JI hw4
    have hT4 : w.heap.size + 1 < w4.heap.size := gI FX hw4
    go_upto_region 17 with (go_at_call 39; refine HCP4.out.mono ?_; rintro ev w5 ⟨v1, rfl, hn5, hb5⟩; have K5 := aB KG4.out hs4 hb5; have F5 := aJ FG4.out hs4 hb5; obtain ⟨y0, y1, y2, y3, y4, y5, y6⟩ := gA7 K5; obtain ⟨f0, f1, f2, f3, f4, f5, f6⟩ := gF7 F5; skip)
    have rF : SR w5 w.heap.size (fun k => k < w.heap.size ∨ k = w.heap.size + 1) s v1 := SR.lift hn5 hs4 (fun k hk => gI (hX1 k hk) hw4) (by omega)
    have HS6 := gO (SS.put7 rF K5 F5)
    have hoff := kS.Tq hn5 HHR.out (Nat.le_refl _)
    have HR6 : Hid (HR (((((((w5.setCell ⟨w.heap.size, 0, none⟩ (.slice v1.a1 v1.n1 v1.c1)).setCell ⟨w.heap.size, 1, none⟩ (.slice v1.hc.az 2 v1.hc.cz)).setCell ⟨w.heap.size, 2, none⟩ (.slice v1.hc.am 2 v1.hc.cm)).setCell ⟨w.heap.size, 3, none⟩ (.int .i64 (s.h.aF : Int))).setCell ⟨w.heap.size, 4, none⟩ (.slice v1.hc.al v1.hc.lc.length v1.hc.cl)).setCell ⟨w.heap.size, 5, none⟩ (.slice v1.hc.av s.h.live.length v1.hc.cv)).setCell ⟨w.heap.size, 6, none⟩ (.slice v1.a2 v1.ys.length v1.c2)) w.heap.size (fun k => k < w.heap.size ∨ k = w.heap.size + 1) h' c') := ((((((((HHR.out.below hb5).jL 0 _).jL 1 _).jL 2 _).jL 3 _).jL 4 _).jL 5 _).jL 6 _)
    have HOF := gO hoff
    have KT6 := gO (JH (T := w.heap.size) (aB KT4.out hT4 hb5) (by omega) v1 s)
    have FT6 := gO (WB (T := w.heap.size) (aJ FT4.out hT4 hb5) v1 s)
    have K146 := gO (JH (T := w.heap.size) (aB Zx.out Zw hb5) hBne v1 s)
    have HB6 := gO (zN (T := w.heap.size) (Below.step HB4.out hb5) (Nat.le_refl _) v1 s)
    clear K5 F5 y0 y1 y2 y3 y4 y5 y6 f0 f1 f2 f3 f4 f5 f6 k0 k1 k2 k3 k4 k5 k6 rF hoff hn5 hb5 HCP4 KG4 FG4 KT4 FT4 HHR Zx HB4
    generalize ((((((w5.setCell ⟨w.heap.size, 0, none⟩ (.slice v1.a1 v1.n1 v1.c1)).setCell ⟨w.heap.size, 1, none⟩ (.slice v1.hc.az 2 v1.hc.cz)).setCell ⟨w.heap.size, 2, none⟩ (.slice v1.hc.am 2 v1.hc.cm)).setCell ⟨w.heap.size, 3, none⟩ (.int .i64 (s.h.aF : Int))).setCell ⟨w.heap.size, 4, none⟩ (.slice v1.hc.al v1.hc.lc.length v1.hc.cl)).setCell ⟨w.heap.size, 5, none⟩ (.slice v1.hc.av s.h.live.length v1.hc.cv)).setCell ⟨w.heap.size, 6, none⟩ (.slice v1.a2 v1.ys.length v1.c2) = w6 at *
    obtain ⟨x0, x1, x2, x3, x4⟩ := gA5 K146.out
    obtain ⟨g0, g1, g2, g3, g4, g5, g6⟩ := gA7 HS6.out.k
    obtain ⟨f0, f1, f2, f3, f4, f5, f6⟩ := gF7 HS6.out.fz
    go_upto_region 18 with fail
    have hput := HS6.out.putH2 HR6.out HOF.out
    have vT := gO hput.1
    have KT7 := (aA (aA (aA (aA (aA KT6.out (show w.heap.size + 1 ≠ w.heap.size by omega) 1 (.slice c'.az 2 c'.cz)) (show w.heap.size + 1 ≠ w.heap.size by omega) 2 (.slice c'.am 2 c'.cm)) (show w.heap.size + 1 ≠ w.heap.size by omega) 3 (.int .i64 (h'.aF : Int))) (show w.heap.size + 1 ≠ w.heap.size by omega) 4 (.slice c'.al c'.lc.length c'.cl)) (show w.heap.size + 1 ≠ w.heap.size by omega) 5 (.slice c'.av h'.live.length c'.cv))
    have qB := gO KT7
    have FQ := gO (aG (aG (aG (aG (aG FT6.out ⟨w.heap.size, 1, none⟩ (.slice c'.az 2 c'.cz)) ⟨w.heap.size, 2, none⟩ (.slice c'.am 2 c'.cm)) ⟨w.heap.size, 3, none⟩ (.int .i64 (h'.aF : Int))) ⟨w.heap.size, 4, none⟩ (.slice c'.al c'.lc.length c'.cl)) ⟨w.heap.size, 5, none⟩ (.slice c'.av h'.live.length c'.cv))
    have FU : Hid (Below w.heap.size w (((((w6.setCell ⟨w.heap.size, 1, none⟩ (.slice c'.az 2 c'.cz)).setCell ⟨w.heap.size, 2, none⟩ (.slice c'.am 2 c'.cm)).setCell ⟨w.heap.size, 3, none⟩ (.int .i64 (h'.aF : Int))).setCell ⟨w.heap.size, 4, none⟩ (.slice c'.al c'.lc.length c'.cl)).setCell ⟨w.heap.size, 5, none⟩ (.slice c'.av h'.live.length c'.cv))) := Safe.after HB6.out hput.2 (fun k hk => .inl hk) HB6.out.size
    clear x0 x1 x2 x3 x4 g0 g1 g2 g3 g4 g5 g6 f0 f1 f2 f3 f4 f5 f6 hput KT7 HS6 HR6 HOF KT6 FT6 K146 HB6
    generalize ((((w6.setCell ⟨w.heap.size, 1, none⟩ (.slice c'.az 2 c'.cz)).setCell ⟨w.heap.size, 2, none⟩ (.slice c'.am 2 c'.cm)).setCell ⟨w.heap.size, 3, none⟩ (.int .i64 (h'.aF : Int))).setCell ⟨w.heap.size, 4, none⟩ (.slice c'.al c'.lc.length c'.cl)).setCell ⟨w.heap.size, 5, none⟩ (.slice c'.av h'.live.length c'.cv) = w7 at *
    obtain ⟨z0, z1, z2, z3, z4, z5, z6⟩ := gA7 vT.out.k
    obtain ⟨q0, q1, q2, q3, q4, q5, q6⟩ := gA7 qB.out
    obtain ⟨f0, f1, f2, f3, f4, f5, f6⟩ := gF7 FQ.out
    have rH := out7 vT.out (T := w.heap.size + 1) (.inr rfl) (fun k hk => .inl hk) (Nat.lt_succ_self _) qB.out FU.out
    dsimp only at rH
    have KX := rH.1
    have Ag := gO rH.2.1
    have mQ := gO rH.2.2
    have hw64 : wrap64 (16 * (a : Int)) = 16 * (a : Int) := IntWalk.wrap64_in _ (by have := HA.out h' a rfl; omega)
    have hmul : (a : Int) * 16 = 16 * (a : Int) := Int.mul_comm _ _
    clear rH vT qB FQ FU
    go_wp2_with fail
    try rw [hmul]
    generalize ((((((w7.setCell ⟨w.heap.size + 1, 0, none⟩ (.slice v1.a1 v1.n1 v1.c1)).setCell ⟨w.heap.size + 1, 1, none⟩ (.slice c'.az 2 c'.cz)).setCell ⟨w.heap.size + 1, 2, none⟩ (.slice c'.am 2 c'.cm)).setCell ⟨w.heap.size + 1, 3, none⟩ (.int .i64 (h'.aF : Int))).setCell ⟨w.heap.size + 1, 4, none⟩ (.slice c'.al c'.lc.length c'.cl)).setCell ⟨w.heap.size + 1, 5, none⟩ (.slice c'.av h'.live.length c'.cv)).setCell ⟨w.heap.size + 1, 6, none⟩ (.slice v1.a2 v1.ys.length v1.c2) = wx at *
    exact bodyPost_ret (v := .tuple #[.agg #[.slice v1.a1 v1.n1 v1.c1, .slice c'.az 2 c'.cz, .slice c'.am 2 c'.cm, .int .i64 (h'.aF : Int), .slice c'.al c'.lc.length c'.cl, .slice c'.av h'.live.length c'.cv, .slice v1.a2 v1.ys.length v1.c2], .int .i64 (16 * (a : Int)), .int .i64 0]) (by simp [results, Tryz.results29, go_sem, KX, hmul, hw64]) rfl (.inr ⟨{ s with h := h' }, 16 * (a : Int), { v1 with hc := c' }, HE.out, rfl, Ag.out, mQ.out⟩)
end
section
open Go.RowKit
section
variable {w W W' : World} {G B T U Bn : Nat} {X Y : Nat → Prop} {s s2 : Sy} {v v2 : Sc} {E : Array Value}
theorem SR.ge (hn : kS W Bn s v) : (∀ r ∈ v.rows s, ∀ g, r.v.ownBlock = some g → Bn ≤ g) ∧ ∀ q ∈ v.hc.rows s.h ++ v.hc.reads s.h, ∀ g, q.v.ownBlock = some g → Bn ≤ g := by
 refine ⟨fun r hr g hg => Nat.le_of_not_lt fun h => (hn.og r hr g hg).2 h, fun q hq g hg => Nat.le_of_not_lt fun h => ?_⟩
 rcases List.mem_append.1 hq with hq | hq
 ·exact (hn.hr.og q hq g hg).2 h
 ·exact hn.hr.rx q hq g hg h
theorem SR.box (hn : SR W G X s v) (hY : ∀ k, Y k → X k ∧ k < W.heap.size) : SS (W.alloc (.cells #[.slice v.a1 v.n1 v.c1, .slice v.hc.az 2 v.hc.cz, .slice v.hc.am 2 v.hc.cm, .int .i64 (s.h.aF : Int), .slice v.hc.al v.hc.lc.length v.hc.cl, .slice v.hc.av s.h.live.length v.hc.cv, .slice v.a2 v.ys.length v.c2] 47)) W.heap.size Y s v := by
 have hb := aC W (.cells #[.slice v.a1 v.n1 v.c1, .slice v.hc.az 2 v.hc.cz, .slice v.hc.am 2 v.hc.cm, .int .i64 (s.h.aF : Int), .slice v.hc.al v.hc.lc.length v.hc.cl, .slice v.hc.av s.h.live.length v.hc.cv, .slice v.a2 v.ys.length v.c2] 47)
 have h1 := hn.below hb
 have hsz : W.heap.size < (W.alloc (.cells #[.slice v.a1 v.n1 v.c1, .slice v.hc.az 2 v.hc.cz, .slice v.hc.am 2 v.hc.cm, .int .i64 (s.h.aF : Int), .slice v.hc.al v.hc.lc.length v.hc.cl, .slice v.hc.av s.h.live.length v.hc.cv, .slice v.a2 v.ys.length v.c2] 47)).heap.size := by simp
 refine ⟨⟨h1.own, fun r hr g hg => ⟨fun e => by have := hn.lt r hr g hg; omega, fun e => (hn.og r hr g hg).2 (hY g e).1⟩, h1.hr.any hsz (fun q hq k hk => ⟨fun e => by have := hn.hr.lt q hq k hk; omega, fun e => ?_⟩) (fun k hk => Nat.lt_trans (hY k hk).2 hsz) (fun e => by have := (hY _ e).2; omega), h1.hd, h1.cy⟩, aY W _ _, dK W _ _⟩
 have h2 := (hY k e).1
 rcases List.mem_append.1 hq with hq | hq
 ·exact (hn.hr.og q hq k hk).2 h2
 ·exact hn.hr.rx q hq k hk h2
theorem kS.box (hn : kS W Bn s v) : SS (W.alloc (.cells #[.slice v.a1 v.n1 v.c1, .slice v.hc.az 2 v.hc.cz, .slice v.hc.am 2 v.hc.cm, .int .i64 (s.h.aF : Int), .slice v.hc.al v.hc.lc.length v.hc.cl, .slice v.hc.av s.h.live.length v.hc.cv, .slice v.a2 v.ys.length v.c2] 47)) W.heap.size (fun k => k < Bn) s v := SR.box hn fun k hk => ⟨hk, Nat.lt_trans hk hn.hr.gs⟩
end
end
section
open Go.RowKit

theorem own : ownKnob Tryz.prog.godebug = none := by kernel_rfl
theorem ZC : Tryz.prog.globalNamed "paddock/buddy.others" = some 1 := by kernel_rfl
theorem Qy : (Tryz.prog.globals[1]?).map (·.type) = some 251 := by kernel_rfl
theorem gSz : Tryz.prog.globalNamed "paddock/kmem.sizes" = some 0 := by kernel_rfl
theorem TB : (Tryz.prog.globals[0]?).map (·.type) = some 117 := by kernel_rfl
theorem cellsT3 : Tryz.prog.cellsOf 251 = 6 := by kernel_rfl
theorem cellsT2 : Tryz.prog.cellsOf 250 = 2 := by kernel_rfl
theorem cellsT6 : Tryz.prog.cellsOf 117 = 6 := by kernel_rfl
theorem FZ : Tryz.prog.cellsOf 3 = 1 := by kernel_rfl

theorem Ar {H : Type} {enc : TypeId × Value → H} {P : Program} {w : World} {base : Nat} {sp : Nat → Bool} {held : Bool} {fuel : Nat} {t e f : TypeId} {n m : Nat} {k : IntKind} {cs : List Value} {zss : List (List Int)} {p : List MemPlace}
  (ht : P.underlying t = some (.array n e)) (he : P.underlying e = some (.array m f)) (hf : P.underlying f = some (.int k)) (hcf : P.cellsOf f = 1) (hce : P.cellsOf e = m) (hct : P.cellsOf t = n * m)
  (h : DataW.trod enc P w base sp held fuel t cs = some (.agg (zss.map fun zs => Lib.tabData k zs), p)) : ∀ i, i < n → ∃ zs, zss[i]? = some zs ∧ (cs.drop (i * m)).take m = zs.map fun z => Value.int k z := by
 cases fuel with
 | zero => simp [DataW.trod] at h
 | succ fuel =>
  simp only [DataW.trod, ht, hce, hct] at h
  split at h
  ·rename_i hl
   obtain ⟨xs, hm, hx⟩ := Option.map_eq_some_iff.1 h
   have hxs : xs.map (·.1) = zss.map fun zs => (Lib.tabData k zs : DataW H) := by
    have := congrArg Prod.fst hx
    simpa using this
   intro i hi
   obtain ⟨b, hb, hfi⟩ := Lib.mapM_at hm i i (by simp [hi])
   have h2 : (xs.map (·.1))[i]? = some b.1 := by simp [hb]
   rw [hxs] at h2
   simp only [List.getElem?_map, Option.map_eq_some_iff] at h2
   obtain ⟨zs, hz1, hz2⟩ := h2
   obtain ⟨b1, b2⟩ := b
   simp only at hz2
   subst hz2
   exact ⟨zs, hz1, Lib.cells_of_tab he hf hcf hce hfi⟩
  ·cases h

theorem Gf {W : World} (h : laidMetH Tryz.prog [("math/bits.deBruijn32tab", Rows.laid_math_bits_deBruijn32tab), ("math/bits.deBruijn64tab", Rows.laid_math_bits_deBruijn64tab), ("internal/strconv.uint64pow10", Rows.laid_internal_strconv_uint64pow10), ("paddock/buddy.others", Rows.laid_paddock_buddy_others), ("paddock/kmem.sizes", Rows.laid_paddock_kmem_sizes)] W) : vC W := by
 obtain ⟨ps, ⟨_, _, _, _, _, _, _, _, _, _, ⟨_, _, _, _, _, _, _, _, _, _, ⟨_, _, _, _, _, _, _, _, _, _, ⟨g', t', cs, fuel, p, q, hg', ht', hvar, hd, _, _⟩, _⟩, _⟩, _⟩, _⟩ := h
 obtain rfl := gP (ZC.symm.trans hg')
 obtain rfl := gP (Qy.symm.trans ht')
 have hT := Ar (zss := [[2, 1], [2, 0], [0, 1]]) Tryz.underlying251 Tryz.underlying250 Tryz.underlying3 FZ cellsT2 cellsT3 hd
 have hc : ∀ i v, cs[i]? = some v → W.cell? ⟨1, i, none⟩ = some v := fun i v hv => (World.var?_cell ZC hvar i).trans hv
 obtain ⟨z0, h0, e0⟩ := hT 0 (by decide)
 obtain ⟨z1, h1, e1⟩ := hT 1 (by decide)
 obtain ⟨z2, h2, e2⟩ := hT 2 (by decide)
 simp only [gC, gD, Option.some.injEq] at h0 h1 h2
 subst h0 h1 h2
 have key : ∀ (l : List Value) (a b : Nat) (x y : Value), (l.drop a).take 2 = [x, y] → l[a]? = some x ∧ l[a + 1]? = some y := by
  intro l a b x y h
  have g0 := congrArg (·[0]?) h
  have g1 := congrArg (·[1]?) h
  simp [List.getElem?_drop] at g0 g1
  exact ⟨g0, g1⟩
 obtain ⟨a0, a1⟩ := key cs.toList 0 0 _ _ e0
 obtain ⟨a2, a3⟩ := key cs.toList 2 0 _ _ e1
 obtain ⟨a4, a5⟩ := key cs.toList 4 0 _ _ e2
 rw [Array.getElem?_toList] at a0 a1 a2 a3 a4 a5
 have hc0 := hc 0 _ a0
 refine ⟨by have := World.block_lt_of_cell? W _ hc0; exact this, fun i v hv => ?_⟩
 rcases i with _ | _ | _ | _ | _ | _ | i
 ·simp at hv; subst hv; exact hc0
 ·simp at hv; subst hv; exact hc 1 _ a1
 ·simp at hv; subst hv; exact hc 2 _ a2
 ·simp at hv; subst hv; exact hc 3 _ a3
 ·simp at hv; subst hv; exact hc 4 _ a4
 ·simp at hv; subst hv; exact hc 5 _ a5
 ·simp at hv

theorem Gg {W : World} (h : laidMetH Tryz.prog [("math/bits.deBruijn32tab", Rows.laid_math_bits_deBruijn32tab), ("math/bits.deBruijn64tab", Rows.laid_math_bits_deBruijn64tab), ("internal/strconv.uint64pow10", Rows.laid_internal_strconv_uint64pow10), ("paddock/buddy.others", Rows.laid_paddock_buddy_others), ("paddock/kmem.sizes", Rows.laid_paddock_kmem_sizes)] W) : Gj W := by
 obtain ⟨ps, ⟨_, _, _, _, _, _, _, _, _, _, ⟨_, _, _, _, _, _, _, _, _, _, ⟨_, _, _, _, _, _, _, _, _, _, ⟨_, _, _, _, _, _, _, _, _, _, ⟨g', t', cs, fuel, p, q, hg', ht', hvar, hd, _, _⟩, _⟩, _⟩, _⟩, _⟩, _⟩ := h
 obtain rfl := gP (gSz.symm.trans hg')
 obtain rfl := gP (TB.symm.trans ht')
 have hT := Lib.cells_of_tab (zs := [1, 2, 4, 8, 16, 32]) Tryz.underlying117 Tryz.underlying3 FZ cellsT6 hd
 have hc : ∀ i v, cs[i]? = some v → W.cell? ⟨0, i, none⟩ = some v := fun i v hv => (World.var?_cell gSz hvar i).trans hv
 have he : ∀ i : Nat, cs[i]? = ([1, 2, 4, 8, 16, 32].map fun z => Value.int .i64 z)[i]? := fun i => by rw [← Array.getElem?_toList, hT]
 have hc0 := hc 0 (.int .i64 1) (by rw [he]; rfl)
 refine ⟨World.block_lt_of_cell? W _ hc0, fun i v hv => hc i v ?_⟩
 rw [he, ← hv]
 rcases i with _ | _ | _ | _ | _ | _ | i
 all_goals rfl

def putCells (a : Array Value) : Obj → Obj
 | .cells _ t frozen => .cells a t frozen
 | o => o
noncomputable def laidWorld (os : Os) : World :=
 { World.holding Tryz.prog os ⟨#[], #[], []⟩ with heap := ((((((World.holding Tryz.prog os ⟨#[], #[], []⟩).heap.modify 0 (putCells #[.int .i64 1, .int .i64 2, .int .i64 4, .int .i64 8, .int .i64 16, .int .i64 32])).modify 1 (putCells #[.int .i64 2, .int .i64 1, .int .i64 2, .int .i64 0, .int .i64 0, .int .i64 1])).modify 2 (putCells #[.int .u64 1, .int .u64 10, .int .u64 100, .int .u64 1000, .int .u64 10000, .int .u64 100000, .int .u64 1000000, .int .u64 10000000, .int .u64 100000000, .int .u64 1000000000, .int .u64 10000000000, .int .u64 100000000000, .int .u64 1000000000000, .int .u64 10000000000000, .int .u64 100000000000000, .int .u64 1000000000000000, .int .u64 10000000000000000, .int .u64 100000000000000000, .int .u64 1000000000000000000, .int .u64 10000000000000000000])).modify 3 (putCells #[.int .u8 0, .int .u8 1, .int .u8 28, .int .u8 2, .int .u8 29, .int .u8 14, .int .u8 24, .int .u8 3, .int .u8 30, .int .u8 22, .int .u8 20, .int .u8 15, .int .u8 25, .int .u8 17, .int .u8 4, .int .u8 8, .int .u8 31, .int .u8 27, .int .u8 13, .int .u8 23, .int .u8 21, .int .u8 19, .int .u8 16, .int .u8 7, .int .u8 26, .int .u8 12, .int .u8 18, .int .u8 6, .int .u8 11, .int .u8 5, .int .u8 10, .int .u8 9])).modify 4 (putCells #[.int .u8 0, .int .u8 1, .int .u8 56, .int .u8 2, .int .u8 57, .int .u8 49, .int .u8 28, .int .u8 3, .int .u8 61, .int .u8 58, .int .u8 42, .int .u8 50, .int .u8 38, .int .u8 29, .int .u8 17, .int .u8 4, .int .u8 62, .int .u8 47, .int .u8 59, .int .u8 36, .int .u8 45, .int .u8 43, .int .u8 51, .int .u8 22, .int .u8 53, .int .u8 39, .int .u8 33, .int .u8 30, .int .u8 24, .int .u8 18, .int .u8 12, .int .u8 5, .int .u8 63, .int .u8 55, .int .u8 48, .int .u8 27, .int .u8 60, .int .u8 41, .int .u8 37, .int .u8 16, .int .u8 46, .int .u8 35, .int .u8 44, .int .u8 21, .int .u8 52, .int .u8 32, .int .u8 23, .int .u8 11, .int .u8 54, .int .u8 26, .int .u8 40, .int .u8 15, .int .u8 34, .int .u8 20, .int .u8 31, .int .u8 10, .int .u8 25, .int .u8 14, .int .u8 19, .int .u8 9, .int .u8 13, .int .u8 8, .int .u8 7, .int .u8 6])) }
end
end Go.Proofs.YtcmpmobhongkiaaGreatDoor
