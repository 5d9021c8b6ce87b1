/- texts of this claim, joined. -/
import Derived.Test.YtcmpmobhongkiaaGreatDoorCM0
import Derived.Test.YtcmpmobhongkiaaGreatDoorCM28
import Derived.Test.YtcmpmobhongkiaaGreatDoorCM37
import Derived.Test.YtcmpmobhongkiaaGreatDoorCM39
set_option linter.unusedVariables false
set_option linter.unusedSimpArgs false
namespace Go.Proofs.YtcmpmobhongkiaaGreatDoor
section
open Go.RowKit

theorem nil7 {w W : World} {T : Nat} (K : ∀ o, W.cell? ⟨T, o, none⟩ = (#[.slice none 0 0, .slice none 0 0, .slice none 0 0, .int .i64 0, .slice none 0 0, .slice none 0 0, .slice none 0 0] : Array Value)[o]?) (hb : Below w.heap.size w W) (hT : w.heap.size ≤ T) :
  (∀ o, (((((((W.setCell ⟨T, 0, none⟩ (.slice none 0 0)).setCell ⟨T, 1, none⟩ (.slice none 0 0)).setCell ⟨T, 2, none⟩ (.slice none 0 0)).setCell ⟨T, 3, none⟩ (.int .i64 0)).setCell ⟨T, 4, none⟩ (.slice none 0 0)).setCell ⟨T, 5, none⟩ (.slice none 0 0)).setCell ⟨T, 6, none⟩ (.slice none 0 0)).cell? ⟨T, o, none⟩ = (#[.slice none 0 0, .slice none 0 0, .slice none 0 0, .int .i64 0, .slice none 0 0, .slice none 0 0, .slice none 0 0] : Array Value)[o]?) ∧ Below w.heap.size w (((((((W.setCell ⟨T, 0, none⟩ (.slice none 0 0)).setCell ⟨T, 1, none⟩ (.slice none 0 0)).setCell ⟨T, 2, none⟩ (.slice none 0 0)).setCell ⟨T, 3, none⟩ (.int .i64 0)).setCell ⟨T, 4, none⟩ (.slice none 0 0)).setCell ⟨T, 5, none⟩ (.slice none 0 0)).setCell ⟨T, 6, none⟩ (.slice none 0 0)) := by
 have KX := (aG (aG (aG (aG (aG (aG (aG K 0 (.slice none 0 0)) 1 (.slice none 0 0)) 2 (.slice none 0 0)) 3 (.int .i64 0)) 4 (.slice none 0 0)) 5 (.slice none 0 0)) 6 (.slice none 0 0))
 simp only [gE, gG, gH] at KX
 exact ⟨KX, Below.setCell (Below.setCell (Below.setCell (Below.setCell (Below.setCell (Below.setCell (Below.setCell hb (show w.heap.size ≤ (⟨T, 0, none⟩ : Addr).block from hT) (.slice none 0 0)) (show w.heap.size ≤ (⟨T, 1, none⟩ : Addr).block from hT) (.slice none 0 0)) (show w.heap.size ≤ (⟨T, 2, none⟩ : Addr).block from hT) (.slice none 0 0)) (show w.heap.size ≤ (⟨T, 3, none⟩ : Addr).block from hT) (.int .i64 0)) (show w.heap.size ≤ (⟨T, 4, none⟩ : Addr).block from hT) (.slice none 0 0)) (show w.heap.size ≤ (⟨T, 5, none⟩ : Addr).block from hT) (.slice none 0 0)) (show w.heap.size ≤ (⟨T, 6, none⟩ : Addr).block from hT) (.slice none 0 0)⟩

def XJ (r : Option (Sy × Int)) (w : World) (ev : Ending) (w' : World) : Prop := (r = none ∧ ev = .returned (.tuple #[.agg #[.slice none 0 0, .slice none 0 0, .slice none 0 0, .int .i64 0, .slice none 0 0, .slice none 0 0, .slice none 0 0], .int .i64 0, .int .i64 6]) ∧ Below w.heap.size w w') ∨ (∃ s' a v', r = some (s', a) ∧ ev = .returned (.tuple #[.agg (v'.vals s'), .int .i64 a, .int .i64 0]) ∧ kH w' w.heap.size s' v' ∧ Below w.heap.size w w')
set_option maxHeartbeats 8000000 in
set_option maxRecDepth 100000 in
theorem Oq (v : Sc) (s : Sy) (n : List UInt8) (cpu i : Nat) (w : World) (hs : rP w v s) (hk : fC s) (hf : ∀ c ∈ s.cs, c.ns.length ≤ 1000) (hi : s.named n = some i) (fH : cpu < s.h.aF) (ho : yK w) :
  Calls Tryz.prog 32 #[.agg #[.slice v.a1 v.n1 v.c1, .slice v.hc.az 2 v.hc.cz, .slice v.hc.am 2 v.hc.cm, .int .i64 (s.h.aF : Int), .slice v.hc.al v.hc.lc.length v.hc.cl, .slice v.hc.av s.h.live.length v.hc.cv, .slice v.a2 v.ys.length v.c2], .string ⟨n.toArray⟩, .int .i64 cpu] w (XJ (s.one i cpu) w) := by
 obtain ⟨rA, hrA⟩ : ∃ rA, s.one i cpu = rA := ⟨_, rfl⟩
 rw [hrA]
 have Yv := gO hrA
 have hil : ∃ c, s.cs[i]? = some c := by
  have h2 := hi
  unfold Sy.named at h2
  rw [List.findIdx?_eq_some_iff_getElem] at h2
  obtain ⟨h3, _⟩ := h2
  exact ⟨_, gJ h3⟩
 have Yy := gO hil
 clear hrA hil
 obtain ⟨K1, K2, F1, F2, hsz, hbw⟩ := boxes2 w #[.slice v.a1 v.n1 v.c1, .slice v.hc.az 2 v.hc.cz, .slice v.hc.am 2 v.hc.cm, .int .i64 (s.h.aF : Int), .slice v.hc.al v.hc.lc.length v.hc.cl, .slice v.hc.av s.h.live.length v.hc.cv, .slice v.a2 v.ys.length v.c2] 47 #[.slice none 0 0, .slice none 0 0, .slice none 0 0, .int .i64 0, .slice none 0 0, .slice none 0 0, .slice none 0 0] 47
 have HA := gO (Eh v s n cpu i _ (hs.below hbw) hk hf hi fH)
 obtain ⟨k0, k1, k2, k3, k4, k5, k6⟩ := gA7 K1
 have HK := gO hk
 have HFN := gO hf
 have HNI := gO hi
 have HB1 := gO hbw
 have HK1 := gO K1
 have HF1 := gO F1
 have HK2 := gO K2
 have HF2 := gO F2
 clear hs hk hf hi K1 K2 F1 F2 hbw
 go_enter Tryz.func32, Tryz.ntmps32
 go_upto_region 1 with fail
 generalize (w.alloc (.cells #[.slice v.a1 v.n1 v.c1, .slice v.hc.az 2 v.hc.cz, .slice v.hc.am 2 v.hc.cm, .int .i64 (s.h.aF : Int), .slice v.hc.al v.hc.lc.length v.hc.cl, .slice v.hc.av s.h.live.length v.hc.cv, .slice v.a2 v.ys.length v.c2] 47)).alloc (.cells #[.slice none 0 0, .slice none 0 0, .slice none 0 0, .int .i64 0, .slice none 0 0, .slice none 0 0, .slice none 0 0] 47) = w1 at *
 have hsz1 : w.heap.size < w1.heap.size := by omega
 go_upto_region 4 with (go_at_call 71; refine HA.out.mono ?_; rintro ev w2 ⟨v1, he, hnew, hb2⟩; unfold Ud Sc.vals at he; subst he; have K12 := aC HK1.out hsz1 hb2; have F12 := aJ HF1.out hsz1 hb2; obtain ⟨y0, y1, y2, y3, y4, y5, y6⟩ := gA7 K12; obtain ⟨f0, f1, f2, f3, f4, f5, f6⟩ := gF7 F12; skip)
 have qU := laid7 (T := w.heap.size + 1) HB1.out (Nat.lt_succ_self _) hsz HK1.out HF1.out HK2.out HF2.out hb2 hnew
 have HS3 := gO qU.1
 have HT3 := gO qU.2.1
 have HU3 := gO qU.2.2.1
 have HB3 := gO qU.2.2.2
 have ht2 : w.heap.size + 1 < w2.heap.size := gI hsz hb2.size
 have ht3 : w.heap.size + 1 < (((((((w2.setCell ⟨w.heap.size, 0, none⟩ (.slice v1.a1 v1.n1 v1.c1)).setCell ⟨w.heap.size, 1, none⟩ (.slice v1.hc.az 2 v1.hc.cz)).setCell ⟨w.heap.size, 2, none⟩ (.slice v1.hc.am 2 v1.hc.cm)).setCell ⟨w.heap.size, 3, none⟩ (.int .i64 (s.h.aF : Int))).setCell ⟨w.heap.size, 4, none⟩ (.slice v1.hc.al v1.hc.lc.length v1.hc.cl)).setCell ⟨w.heap.size, 5, none⟩ (.slice v1.hc.av s.h.live.length v1.hc.cv)).setCell ⟨w.heap.size, 6, none⟩ (.slice v1.a2 v1.ys.length v1.c2)).heap.size := by simpa using ht2
 clear K12 F12 y0 y1 y2 y3 y4 y5 y6 f0 f1 f2 f3 f4 f5 f6 qU hnew HA k0 k1 k2 k3 k4 k5 k6 HK1 HF1 HK2 HF2 hb2 ht2 HB1
 generalize ((((((w2.setCell ⟨w.heap.size, 0, none⟩ (.slice v1.a1 v1.n1 v1.c1)).setCell ⟨w.heap.size, 1, none⟩ (.slice v1.hc.az 2 v1.hc.cz)).setCell ⟨w.heap.size, 2, none⟩ (.slice v1.hc.am 2 v1.hc.cm)).setCell ⟨w.heap.size, 3, none⟩ (.int .i64 (s.h.aF : Int))).setCell ⟨w.heap.size, 4, none⟩ (.slice v1.hc.al v1.hc.lc.length v1.hc.cl)).setCell ⟨w.heap.size, 5, none⟩ (.slice v1.hc.av s.h.live.length v1.hc.cv)).setCell ⟨w.heap.size, 6, none⟩ (.slice v1.a2 v1.ys.length v1.c2) = w3 at *
 clear hsz hsz1
 have hi1 : i < v1.ys.length := by
  have h := congrArg List.length HS3.out.r.cy
  have h2 := HNI.out
  unfold Sy.named at h2
  rw [List.findIdx?_eq_some_iff_getElem] at h2
  obtain ⟨h3, _⟩ := h2
  simp only [List.length_map] at h
  omega

 have hone := Uk v1 s w.heap.size i cpu (fun k => k < w.heap.size ∨ k = w.heap.size + 1) w3 HS3.out HK.out hi1 fH (ho.below HB3.out) (.inl ho.sz) (by obtain ⟨c, hc⟩ := Yy.out; exact HK.out.chosen hc fH)
 cases rA with
 | none =>
  have HC : Hid (Calls Tryz.prog 72 #[.pointer (some ⟨w.heap.size, 0, none⟩), .int .i64 i, .int .i64 cpu] w3 fun ev w' => ev = .returned (.tuple #[.int .i64 0, .int .i64 6]) ∧ Below w3.heap.size w3 w') := by
   refine hone.mono ?_
   rintro ev w' (⟨_, h, hb⟩ | ⟨s', b', v'', h, _⟩)
   ·exact ⟨h, hb⟩
   ·rw [Yv.out] at h
    cases h
  clear hone ho
  go_upto_region 5 with (go_at_call 72; refine HC.out.mono ?_; rintro ev w4 ⟨rfl, hb4⟩)
  have iT := gO (aC HT3.out ht3 hb4)
  have yG := gO (aJ HU3.out ht3 hb4)
  have yH := gO (Below.step HB3.out hb4)
  clear HT3 HU3 HB3 HS3 hb4
  obtain ⟨q0, q1, q2, q3, q4, q5, q6⟩ := gA7 iT.out
  obtain ⟨f0, f1, f2, f3, f4, f5, f6⟩ := gF7 yG.out
  have qV := nil7 iT.out yH.out (show w.heap.size ≤ w.heap.size + 1 by omega)
  have KX := qV.1
  have lI := gO qV.2
  clear qV iT yG yH
  go_wp2_with fail
  generalize ((((((w4.setCell ⟨w.heap.size + 1, 0, none⟩ (.slice none 0 0)).setCell ⟨w.heap.size + 1, 1, none⟩ (.slice none 0 0)).setCell ⟨w.heap.size + 1, 2, none⟩ (.slice none 0 0)).setCell ⟨w.heap.size + 1, 3, none⟩ (.int .i64 0)).setCell ⟨w.heap.size + 1, 4, none⟩ (.slice none 0 0)).setCell ⟨w.heap.size + 1, 5, none⟩ (.slice none 0 0)).setCell ⟨w.heap.size + 1, 6, none⟩ (.slice none 0 0) = wx at *
  exact bodyPost_ret (v := .tuple #[.agg #[.slice none 0 0, .slice none 0 0, .slice none 0 0, .int .i64 0, .slice none 0 0, .slice none 0 0, .slice none 0 0], .int .i64 0, .int .i64 6]) (by simp [results, Tryz.results32, go_sem, KX]) rfl (.inl ⟨rfl, rfl, lI.out⟩)

 | some r =>
  obtain ⟨sF, b⟩ := r
  have HC : Hid (Calls Tryz.prog 72 #[.pointer (some ⟨w.heap.size, 0, none⟩), .int .i64 i, .int .i64 cpu] w3 fun ev w' => ∃ v2, ev = .returned (.tuple #[.int .i64 b, .int .i64 0]) ∧ SS w' w.heap.size (fun k => k < w.heap.size ∨ k = w.heap.size + 1) sF v2 ∧ Safe (fun k => k < w.heap.size ∨ k = w.heap.size + 1) w3 w') := by
   refine hone.mono ?_
   rintro ev w' (⟨h, _⟩ | ⟨s', b', v'', h, h1, h2, h3, _⟩)
   ·rw [Yv.out] at h
    cases h
   ·rw [Yv.out] at h
    obtain ⟨rfl, rfl⟩ : sF = s' ∧ b = b' := by simpa using h
    exact ⟨v'', h1, h2, h3⟩
  clear hone ho
  go_upto_region 7 with (go_at_call 72; refine HC.out.mono ?_; rintro ev w4 ⟨v2, rfl, hs4, hf4⟩)
  have jK := gO hs4
  have iT := gO (hf4.box HT3.out ht3 (.inr rfl))
  have yG := gO (hf4.Pg HU3.out ht3 (.inr rfl))
  have yH : Hid (Below w.heap.size w w4) := Safe.after HB3.out hf4 (fun k hk => .inl hk) HB3.out.size
  clear HT3 HU3 HB3 HS3 hs4 hf4 HC
  have z0 := jK.out.k 0
  have z1 := jK.out.k 1
  have z2 := jK.out.k 2
  have z3 := jK.out.k 3
  have z4 := jK.out.k 4
  have z5 := jK.out.k 5
  have z6 := jK.out.k 6
  unfold Sc.vals at z0 z1 z2 z3 z4 z5 z6
  have q0 := iT.out 0
  have q1 := iT.out 1
  have q2 := iT.out 2
  have q3 := iT.out 3
  have q4 := iT.out 4
  have q5 := iT.out 5
  have q6 := iT.out 6
  obtain ⟨f0, f1, f2, f3, f4, f5, f6⟩ := gF7 yG.out
  simp only [gB, gC, gD] at z0 z1 z2 z3 z4 z5 z6 q0 q1 q2 q3 q4 q5 q6
  have fZ := out7 jK.out (T := w.heap.size + 1) (.inr rfl) (fun k hk => .inl hk) (Nat.lt_succ_self _) iT.out yH.out
  have KX := fZ.1
  have qJ := gO fZ.2.1
  have lI := gO fZ.2.2
  clear fZ jK iT yG yH
  go_wp2_with fail
  generalize ((((((w4.setCell ⟨w.heap.size + 1, 0, none⟩ (.slice v2.a1 v2.n1 v2.c1)).setCell ⟨w.heap.size + 1, 1, none⟩ (.slice v2.hc.az 2 v2.hc.cz)).setCell ⟨w.heap.size + 1, 2, none⟩ (.slice v2.hc.am 2 v2.hc.cm)).setCell ⟨w.heap.size + 1, 3, none⟩ (.int .i64 (sF.h.aF : Int))).setCell ⟨w.heap.size + 1, 4, none⟩ (.slice v2.hc.al v2.hc.lc.length v2.hc.cl)).setCell ⟨w.heap.size + 1, 5, none⟩ (.slice v2.hc.av sF.h.live.length v2.hc.cv)).setCell ⟨w.heap.size + 1, 6, none⟩ (.slice v2.a2 v2.ys.length v2.c2) = wx at *
  exact bodyPost_ret (v := .tuple #[.agg #[.slice v2.a1 v2.n1 v2.c1, .slice v2.hc.az 2 v2.hc.cz, .slice v2.hc.am 2 v2.hc.cm, .int .i64 (sF.h.aF : Int), .slice v2.hc.al v2.hc.lc.length v2.hc.cl, .slice v2.hc.av sF.h.live.length v2.hc.cv, .slice v2.a2 v2.ys.length v2.c2], .int .i64 b, .int .i64 0]) (by simp [results, Tryz.results32, go_sem, KX]) rfl (.inr ⟨sF, b, v2, rfl, rfl, qJ.out, lI.out⟩)
end
section
open Go.RowKit
theorem sG {α β : Type} (f : α → β) : ∀ (l : List α) (i : Nat), (l.eraseIdx i).map f = (l.map f).eraseIdx i
 | [], _ => rfl
 | _ :: _, 0 => rfl
 | a :: l, i + 1 => by simp only [List.eraseIdx_cons_succ, List.map_cons, sG f l i]
section
variable {W W9 : World} {G : Nat} {X : Nat → Prop} {s : Sy} {v : Sc}
theorem SS.aD6 (hs : SS W G X s v) {i : Nat} (hi : i < v.ys.length) (hg : W.grownBy W9 (jR v).v.ownBlock)
  (ho9 : W9.ownsRow 0 94 6 (.slice v.a2 (v.ys.length - 1) v.c2) (v.ys.length - 1) (flat bV (v.ys.eraseIdx i))) :
  ∃ v', SS (W9.setCell ⟨G, 6, none⟩ (.slice v.a2 (v.ys.length - 1 : Nat) v.c2)) G X { s with cs := s.cs.eraseIdx i } v' ∧ Safe X W (W9.setCell ⟨G, 6, none⟩ (.slice v.a2 (v.ys.length - 1 : Nat) v.c2)) := by
 have hlen : (v.ys.eraseIdx i).length = v.ys.length - 1 := List.length_eraseIdx_of_lt hi
 have hob : (Value.slice v.a2 (v.ys.length - 1) v.c2).ownBlock = (jR v).v.ownBlock := by
  unfold jR
  cases v.a2 <;> rfl
 have o1 := (hs.r.FN hi).grown (i := 1) (by simp) hg (r' := ⟨94, 6, .slice v.a2 (v.ys.length - 1) v.c2, v.ys.length - 1, flat bV (v.ys.eraseIdx i)⟩) ho9 (fun g h => .inl (hob.symm.trans h))
 have o2 : dA W9 0 (vJ v s :: (⟨94, 6, .slice v.a2 (v.ys.length - 1) v.c2, v.ys.length - 1, flat bV (v.ys.eraseIdx i)⟩ : Rs) :: (v.ys.eraseIdx i).flatMap eU) :=
  o1.sub ((((List.sublist_cons_self _ _).trans (List.sublist_cons_self _ _)).trans (List.sublist_cons_self _ _)).cons_cons _ |>.cons_cons _)
 have hrows : ({ v with ys := v.ys.eraseIdx i } : Sc).rows { s with cs := s.cs.eraseIdx i } = vJ v s :: (⟨94, 6, .slice v.a2 (v.ys.length - 1) v.c2, v.ys.length - 1, flat bV (v.ys.eraseIdx i)⟩ : Rs) :: (v.ys.eraseIdx i).flatMap eU := by
  unfold Sc.rows jR
  simp only [hlen]
  rfl
 have hsf : Safe (fun k => ¬ v.blk s G k) W W9 := Safe.jO hg fun k hk e => hk (.inr ⟨jR v, dS v s, e.symm⟩)
 have h9 := hs.r.step (s' := { s with cs := s.cs.eraseIdx i }) (v' := { v with ys := v.ys.eraseIdx i }) hsf rfl rfl (by rw [hrows]; exact o2) (fun r hr g hg' => by
  rw [hrows] at hr
  rcases List.mem_cons.1 hr with rfl | hr
  ·exact .inl ⟨_, nC v s, hg'⟩
  ·rcases List.mem_cons.1 hr with rfl | hr
   ·exact .inl ⟨_, dS v s, by rw [← hob]; exact hg'⟩
   ·obtain ⟨y, hy, hr⟩ := List.mem_flatMap.1 hr
    exact .inl ⟨r, iY ((List.eraseIdx_sublist _ _).subset hy) hr, hg'⟩) (by
  show (v.ys.eraseIdx i).map (·.c) = s.cs.eraseIdx i
  rw [← hs.r.cy, sG])
 have hG : some G ≠ (jR v).v.ownBlock := fun e => (hs.r.og _ (dS v s) G e.symm).1 rfl
 have K := aG (bH hs.k hs.r.hr.gs hg hG) 6 (.slice v.a2 (v.ys.length - 1 : Nat) v.c2)
 have hv : ({ v with ys := v.ys.eraseIdx i } : Sc).vals { s with cs := s.cs.eraseIdx i } = (v.vals s).setIfInBounds 6 (.slice v.a2 (v.ys.length - 1 : Nat) v.c2) := by
  unfold Sc.vals
  simp only [hlen]
  rfl
 rw [← hv] at K
 exact ⟨_, ⟨h9.lS 6 _, K, aH (bI hs.fz hs.r.hr.gs hg hG) _ _⟩, (Safe.jO hg fun k hk e => (hs.r.og _ (dS v s) k e.symm).2 hk).set hs.r.hr.xg 6 _⟩
end
end
section
open Go.RowKit

set_option maxHeartbeats 8000000 in
set_option maxRecDepth 100000 in
theorem Az (v : Sc) (s : Sy) (n : List UInt8) (z i : Nat) (w : World) (hs : rP w v s) (hk : fC s) (hf : ∀ c ∈ s.cs, c.ns.length ≤ 1000) (hnm : nameB n = true) (hz : 1 ≤ z ∧ z ≤ 64) (hno : s.named n = some i) :
  Calls Tryz.prog 31 #[.agg #[.slice v.a1 v.n1 v.c1, .slice v.hc.az 2 v.hc.cz, .slice v.hc.am 2 v.hc.cm, .int .i64 (s.h.aF : Int), .slice v.hc.al v.hc.lc.length v.hc.cl, .slice v.hc.av s.h.live.length v.hc.cv, .slice v.a2 v.ys.length v.c2], .string ⟨n.toArray⟩, .int .i64 z, .int .i64 1] w (fun ev w' => ev = .returned (.tuple #[.agg #[.slice none 0 0, .slice none 0 0, .slice none 0 0, .int .i64 0, .slice none 0 0, .slice none 0 0, .slice none 0 0], .int .i64 5]) ∧ Below w.heap.size w w') := by
 obtain ⟨K1, K2, K3, F1, F2, F3, hsz, hbw⟩ := boxes3 w #[.slice v.a1 v.n1 v.c1, .slice v.hc.az 2 v.hc.cz, .slice v.hc.am 2 v.hc.cm, .int .i64 (s.h.aF : Int), .slice v.hc.al v.hc.lc.length v.hc.cl, .slice v.hc.av s.h.live.length v.hc.cv, .slice v.a2 v.ys.length v.c2] 47 #[.int .i64 (z : Int)] 3 #[.slice none 0 0, .slice none 0 0, .slice none 0 0, .int .i64 0, .slice none 0 0, .slice none 0 0, .slice none 0 0] 47
 have hs1 := hs.below hbw
 have hyl : v.ys.length ≤ 20 := by have := congrArg List.length hs.cy; rw [List.length_map] at this; rw [this]; exact hk.cl
 have hn8 : n.length ≤ 8 := by
  unfold nameB at hnm
  simp only [Bool.and_eq_true, decide_eq_true_eq] at hnm
  exact hnm.1.2
 have Vp : Hid (∀ W, Calls Tryz.prog 64 #[.string ⟨n.toArray⟩] W fun ev w' => ev = .returned (.bool true) ∧ Below W.heap.size W w') := fun W => by
  have h := yV n W (by omega)
  rw [hnm] at h
  exact h
 have hfi : bZ (fun c : Ca => c.ns.contains n) s.cs = (i : Int) := by
  unfold Sy.named at hno
  unfold bZ
  rw [hno]
 generalize hw3 : ((w.alloc (.cells #[.slice v.a1 v.n1 v.c1, .slice v.hc.az 2 v.hc.cz, .slice v.hc.am 2 v.hc.cm, .int .i64 (s.h.aF : Int), .slice v.hc.al v.hc.lc.length v.hc.cl, .slice v.hc.av s.h.live.length v.hc.cv, .slice v.a2 v.ys.length v.c2] 47)).alloc (.cells #[.int .i64 (z : Int)] 3)).alloc (.cells #[.slice none 0 0, .slice none 0 0, .slice none 0 0, .int .i64 0, .slice none 0 0, .slice none 0 0, .slice none 0 0] 47) = w3 at *
 have qL : Hid (∀ W, Below w3.heap.size w3 W → Calls Tryz.prog 38 #[.agg #[.slice v.a1 v.n1 v.c1, .slice v.hc.az 2 v.hc.cz, .slice v.hc.am 2 v.hc.cm, .int .i64 (s.h.aF : Int), .slice v.hc.al v.hc.lc.length v.hc.cl, .slice v.hc.av s.h.live.length v.hc.cv, .slice v.a2 v.ys.length v.c2]] W fun ev w' => ev = .returned (.int .i64 0) ∧ Below W.heap.size W w') := fun W hW => rE v s W (hs1.below hW) hk hf
 have HNA : Hid (∀ W, Below w3.heap.size w3 W → Calls Tryz.prog 65 #[.agg #[.slice v.a1 v.n1 v.c1, .slice v.hc.az 2 v.hc.cz, .slice v.hc.am 2 v.hc.cm, .int .i64 (s.h.aF : Int), .slice v.hc.al v.hc.lc.length v.hc.cl, .slice v.hc.av s.h.live.length v.hc.cv, .slice v.a2 v.ys.length v.c2], .string ⟨n.toArray⟩] W fun ev w' => ev = .returned (.tuple #[.int .i64 (i : Int), .bool true]) ∧ Below W.heap.size W w') := fun W hW => by
  have h := xB v s n W (hs1.below hW) hf hyl
  rw [hfi, decide_eq_true (show (0 : Int) ≤ i by omega)] at h
  exact h
 have HB1 := gO hbw
 have HK1 := gO K1
 have HK2 := gO K2
 have HK3 := gO K3
 have HF3 := gO F3
 have hsz1 : w.heap.size < w3.heap.size := by omega
 have hsz2 : w.heap.size + 1 < w3.heap.size := by omega
 have hz1 : ¬ (z : Int) < 1 := by omega
 have hz2 : ¬ (64 : Int) < z := by omega
 obtain ⟨k0, k1, k2, k3, k4, k5, k6⟩ := gA7 HK1.out
 have q0 := HK2.out 0
 simp only [gB, gC] at q0
 clear hs hk hf hs1 hbw K1 K2 K3 F1 F2 F3 hno hfi hnm hz
 go_enter Tryz.func31, Tryz.ntmps31
 go_upto_region 1 with fail
 try rw [hw3]
 have LQ : ∀ W, Below w3.heap.size w3 W → W.cell? ⟨w.heap.size + 1, 0, none⟩ = some (.int .i64 (z : Int)) := fun W h => (h.cell (p := ⟨w.heap.size + 1, 0, none⟩) hsz2).trans q0
 go_upto_region 6 with (first | (go_at_call 38; refine (qL.out _ (Below.refl _ _)).mono ?_; rintro ev wa ⟨rfl, hba⟩) | (go_at_call 64; refine (Vp.out _).mono ?_; rintro ev wb ⟨rfl, hbb⟩))
 have Eo := Below.step hba hbb
 have qb := LQ wb Eo
 have Kb := aC HK1.out hsz1 Eo
 clear k0 k1 k2 k3 k4 k5 k6 q0
 obtain ⟨k0, k1, k2, k3, k4, k5, k6⟩ := gA7 Kb
 have JC := gO Eo
 clear Kb hba hbb Eo
 go_upto_region 9 with (go_at_call 65; refine (HNA.out _ JC.out).mono ?_; rintro ev wn ⟨rfl, hbn⟩)
 have tV := gO (Below.step JC.out hbn)
 have iT := gO (aC HK3.out hsz tV.out)
 have yG := gO (aJ HF3.out hsz tV.out)
 have yH := gO (Below.step HB1.out tV.out)
 clear k0 k1 k2 k3 k4 k5 k6 qb LQ hbn HK1 HK2 HK3 HF3 JC HNA qL Vp
 obtain ⟨q0, q1, q2, q3, q4, q5, q6⟩ := gA7 iT.out
 obtain ⟨f0, f1, f2, f3, f4, f5, f6⟩ := gF7 yG.out
 have qV := nil7 iT.out yH.out (show w.heap.size ≤ w.heap.size + 2 by omega)
 have KX := qV.1
 have lI := gO qV.2
 clear qV iT yG yH
 go_wp2_with fail
 generalize ((((((wn.setCell ⟨w.heap.size + 2, 0, none⟩ (.slice none 0 0)).setCell ⟨w.heap.size + 2, 1, none⟩ (.slice none 0 0)).setCell ⟨w.heap.size + 2, 2, none⟩ (.slice none 0 0)).setCell ⟨w.heap.size + 2, 3, none⟩ (.int .i64 0)).setCell ⟨w.heap.size + 2, 4, none⟩ (.slice none 0 0)).setCell ⟨w.heap.size + 2, 5, none⟩ (.slice none 0 0)).setCell ⟨w.heap.size + 2, 6, none⟩ (.slice none 0 0) = wx at *
 exact bodyPost_ret (v := .tuple #[.agg #[.slice none 0 0, .slice none 0 0, .slice none 0 0, .int .i64 0, .slice none 0 0, .slice none 0 0, .slice none 0 0], .int .i64 5]) (by simp [results, Tryz.results31, go_sem, KX]) rfl (⟨rfl, lI.out⟩)
end
end Go.Proofs.YtcmpmobhongkiaaGreatDoor
