/- texts of this claim, joined. -/
import Derived.Test.YtcmpmobhongkiaaGreatDoorSE0
import Derived.Test.YtcmpmobhongkiaaGreatDoorSE6
import Derived.Deep.RegionWith
import Derived.Deep.RegionHeld3
import Derived.Deep.DeepCutAuto
set_option linter.unusedVariables false
set_option linter.unusedSimpArgs false
namespace Go.Proofs.YtcmpmobhongkiaaGreatDoor
section
open Go.RowKit

set_option maxHeartbeats 2000000 in
set_option maxRecDepth 100000 in
theorem xJ (a1 a2 : Option Addr) (n1 n2 c1 c2 : Nat) (f e : Nat) (z : Zn) (w : World) (hat : Dy w a1 a2 n1 n2 z) (hl1 : n1 ≤ 1000) (hl2 : n2 ≤ 1000) :
  Calls Tryz.prog 133 #[.agg #[.int .i64 f, .int .i64 e, .slice a1 n1 c1, .slice a2 n2 c2]] w fun ev w' => ∃ a1' a2' c1' c2', ev = .returned (.agg #[.int .i64 f, .int .i64 e, .slice a1' n1 c1', .slice a2' n2 c2']) ∧ eU w' w.heap.size a1' a2' n1 n2 c1' c2' z ∧ Below w.heap.size w w' := by
 obtain ⟨K0, K1, F0, F1, hsz, hbw⟩ := boxes2 w #[.int .i64 (f : Int), .int .i64 (e : Int), .slice a1 n1 c1, .slice a2 n2 c2] 102 #[.int .i64 0, .int .i64 0, .slice none 0 0, .slice none 0 0] 102
 obtain ⟨l1, l2, q1, q2⟩ := hat.below hbw
 clear hat
 go_enter Tryz.func133, Tryz.ntmps133
 go_wp2_with fail
 generalize (w.alloc (.cells #[.int .i64 (f : Int), .int .i64 (e : Int), .slice a1 n1 c1, .slice a2 n2 c2] 102)).alloc (.cells #[.int .i64 0, .int .i64 0, .slice none 0 0, .slice none 0 0] 102) = w0 at *
 go_region_with (first | (go_at_call 132; refine (Ja _ _ _ z.l _ l1 (by omega) (q1.below (by first | exact Below.drew Ci | exact Ci | exact (Below.refl _ _).drew))).mono ?_; rintro ev wm ⟨am, cm, rfl, xC, hbm⟩; first | (have Km := aB (w1 := wk) Kk Sk hbm; have Fm := aJ (w1 := wk) Fk Sk hbm; have Sm : w.heap.size < wm.heap.size := gI Sk hbm.size; have Cj : Below w0.heap.size w0 wm := Below.step Ci hbm) | (have Km := aB (w1 := wk.drew) (fun o => Kk o) Sk hbm; have Fm := aJ (w1 := wk.drew) (fun o => Fk o) Sk hbm; have Sm : w.heap.size < wm.heap.size := gI Sk hbm.size; have Cj : Below w0.heap.size w0 wm := Below.step (Below.drew Ci) hbm) | (have Km := aB (w1 := w0.drew) (fun o => K0 o) (show w.heap.size < w0.heap.size by omega) hbm; have Fm := aJ (w1 := w0.drew) (fun o => F0 o) (show w.heap.size < w0.heap.size by omega) hbm; have Sm : w.heap.size < wm.heap.size := gI (show w.heap.size < w0.heap.size by omega) hbm.size; have Cj : Below w0.heap.size w0 wm := Below.step ((Below.refl _ _).drew) hbm)) | (go_at_call 85; refine (Gw _ _ _ z.y _ l2 (by omega) (q2.below (by first | exact Below.drew Cj | exact Cj | exact (Below.refl _ _).drew))).mono ?_; rintro ev wk ⟨ak, ck, rfl, hok, hbk⟩; first | (have Kk := aB (w1 := wm) Km Sm hbk; have Fk := aJ (w1 := wm) Fm Sm hbk; have Sk : w.heap.size < wk.heap.size := gI Sm hbk.size; have Ci : Below w0.heap.size w0 wk := Below.step Cj hbk) | (have Kk := aB (w1 := wm.drew) (fun o => Km o) Sm hbk; have Fk := aJ (w1 := wm.drew) (fun o => Fm o) Sm hbk; have Sk : w.heap.size < wk.heap.size := gI Sm hbk.size; have Ci : Below w0.heap.size w0 wk := Below.step (Below.drew Cj) hbk) | (have Kk := aB (w1 := w0.drew) (fun o => K0 o) (show w.heap.size < w0.heap.size by omega) hbk; have Fk := aJ (w1 := w0.drew) (fun o => F0 o) (show w.heap.size < w0.heap.size by omega) hbk; have Sk : w.heap.size < wk.heap.size := gI (show w.heap.size < w0.heap.size by omega) hbk.size; have Ci : Below w0.heap.size w0 wk := Below.step ((Below.refl _ _).drew) hbk)))
 all_goals first
  |(
   have OF := own_below xC hbk (Nat.le_refl _)
   have Xh := aB K1 (by omega) Ci
   have Xi := aJ F1 (by omega) Ci
   have hz0 : w.heap.size + 1 < w0.drew.heap.size := hsz
   have hzm : w0.drew.heap.size ≤ wm.heap.size := hbm.size
   have nm1 := own_ne xC (b := w.heap.size) (.inl (by omega))
   have nm2 := own_ne xC (b := w.heap.size + 1) (.inl (by omega))
   have nk1 := own_ne hok (b := w.heap.size) (.inl (by omega))
   have nk2 := own_ne hok (b := w.heap.size + 1) (.inl (by omega))
   have HZ := gO ((show eU wk w.heap.size am ak n1 n2 cm ck z from ⟨l1, l2, own_base OF (by omega), own_base hok (by omega)⟩).set (g := w.heap.size) ⟨nm1, nk1⟩ 2 (.slice am n1 cm) |>.set (g := w.heap.size) ⟨nm1, nk1⟩ 3 (.slice ak n2 ck))
   have hbw3 := Below.setCell (Below.setCell (Below.step hbw Ci) (show w.heap.size ≤ (⟨w.heap.size, 2, none⟩ : Addr).block from Nat.le_refl _) (.slice am n1 cm)) (show w.heap.size ≤ (⟨w.heap.size, 3, none⟩ : Addr).block from Nat.le_refl _) (.slice ak n2 ck)
   have KX := aH (aH Kk 2 (.slice am n1 cm)) 3 (.slice ak n2 ck)
   have K1x := aA (aA Xh (c := w.heap.size) (by omega) 2 (.slice am n1 cm)) (c := w.heap.size) (by omega) 3 (.slice ak n2 ck)
   have F1x := aG (aG Xi ⟨w.heap.size, 2, none⟩ (.slice am n1 cm)) ⟨w.heap.size, 3, none⟩ (.slice ak n2 ck)
   clear K0 K1 F0 F1 Km Fm OF xC hok q1 q2 Kk Fk Xh Xi
   generalize (wk.setCell ⟨w.heap.size, 2, none⟩ (.slice am n1 cm)).setCell ⟨w.heap.size, 3, none⟩ (.slice ak n2 ck) = wx at *
   change ∀ o, wx.cell? ⟨w.heap.size, o, none⟩ = (#[.int .i64 (f : Int), .int .i64 (e : Int), .slice am n1 cm, .slice ak n2 ck] : Array Value)[o]? at KX
   go_wp2
   refine bodyPost_ret (v := .agg #[.int .i64 f, .int .i64 e, .slice am n1 cm, .slice ak n2 ck]) (by simp [results, Tryz.results133, go_sem, K1x]) rfl ⟨am, ak, cm, ck, rfl, ?_, ?_⟩
   ·exact (((HZ.out.set ⟨nm2, nk2⟩ _ _).set ⟨nm2, nk2⟩ _ _).set ⟨nm2, nk2⟩ _ _).set ⟨nm2, nk2⟩ _ _
   ·exact Below.setCell (Below.setCell (Below.setCell (Below.setCell hbw3 (by simp only; omega) _) (by simp only; omega) _) (by simp only; omega) _) (by simp only; omega) _

   )
  |(
   have OF := own_below hok hbm (Nat.le_refl _)
   have Xh := aB K1 (by omega) Cj
   have Xi := aJ F1 (by omega) Cj
   have hz0 : w.heap.size + 1 < w0.drew.heap.size := hsz
   have hzm : w0.drew.heap.size ≤ wk.heap.size := hbk.size
   have nm1 := own_ne xC (b := w.heap.size) (.inl (by omega))
   have nm2 := own_ne xC (b := w.heap.size + 1) (.inl (by omega))
   have nk1 := own_ne hok (b := w.heap.size) (.inl (by omega))
   have nk2 := own_ne hok (b := w.heap.size + 1) (.inl (by omega))
   have HZ := gO ((show eU wm w.heap.size am ak n1 n2 cm ck z from ⟨l1, l2, own_base xC (by omega), own_base OF (by omega)⟩).set (g := w.heap.size) ⟨nm1, nk1⟩ 2 (.slice am n1 cm) |>.set (g := w.heap.size) ⟨nm1, nk1⟩ 3 (.slice ak n2 ck))
   have hbw3 := Below.setCell (Below.setCell (Below.step hbw Cj) (show w.heap.size ≤ (⟨w.heap.size, 2, none⟩ : Addr).block from Nat.le_refl _) (.slice am n1 cm)) (show w.heap.size ≤ (⟨w.heap.size, 3, none⟩ : Addr).block from Nat.le_refl _) (.slice ak n2 ck)
   have KX := aH (aH Km 2 (.slice am n1 cm)) 3 (.slice ak n2 ck)
   have K1x := aA (aA Xh (c := w.heap.size) (by omega) 2 (.slice am n1 cm)) (c := w.heap.size) (by omega) 3 (.slice ak n2 ck)
   have F1x := aG (aG Xi ⟨w.heap.size, 2, none⟩ (.slice am n1 cm)) ⟨w.heap.size, 3, none⟩ (.slice ak n2 ck)
   clear K0 K1 F0 F1 Km Fm OF xC hok q1 q2 Kk Fk Xh Xi
   generalize (wm.setCell ⟨w.heap.size, 2, none⟩ (.slice am n1 cm)).setCell ⟨w.heap.size, 3, none⟩ (.slice ak n2 ck) = wx at *
   change ∀ o, wx.cell? ⟨w.heap.size, o, none⟩ = (#[.int .i64 (f : Int), .int .i64 (e : Int), .slice am n1 cm, .slice ak n2 ck] : Array Value)[o]? at KX
   go_wp2
   refine bodyPost_ret (v := .agg #[.int .i64 f, .int .i64 e, .slice am n1 cm, .slice ak n2 ck]) (by simp [results, Tryz.results133, go_sem, K1x]) rfl ⟨am, ak, cm, ck, rfl, ?_, ?_⟩
   ·exact (((HZ.out.set ⟨nm2, nk2⟩ _ _).set ⟨nm2, nk2⟩ _ _).set ⟨nm2, nk2⟩ _ _).set ⟨nm2, nk2⟩ _ _
   ·exact Below.setCell (Below.setCell (Below.setCell (Below.setCell hbw3 (by simp only; omega) _) (by simp only; omega) _) (by simp only; omega) _) (by simp only; omega) _

   )
end
end Go.Proofs.YtcmpmobhongkiaaGreatDoor
