/- texts of this claim, joined. -/
import Derived.Test.YtcmpmobhongkiaaGreatDoorCM0
import Derived.Test.YtcmpmobhongkiaaGreatDoorCM2
import Derived.Test.YtcmpmobhongkiaaGreatDoorCM3
import Derived.Deep.RegionWith
import Derived.Deep.RegionHeld3
import Derived.Deep.DeepCutAuto
import Derived.StillTailTactics
import Derived.Lib.Overlaps
import Derived.Laws.Externs
set_option linter.unusedVariables false
set_option linter.unusedSimpArgs false
namespace Go.Proofs.YtcmpmobhongkiaaGreatDoor
section
open Go.RowKit

set_option maxHeartbeats 2000000 in
set_option maxRecDepth 100000 in
theorem yM (a1 a2 : Option Addr) (n1 n2 c1 c2 : Nat) (f e : Nat) (z : Zn) (w : World) (hat : Dw w a1 a2 n1 n2 z) (hl1 : n1 ≤ 1000) (hl2 : n2 ≤ 1000) :
  Calls Tryz.prog 133 #[.agg #[.int .i64 f, .int .i64 e, .slice a1 n1 c1, .slice a2 n2 c2]] w fun ev w' => ∃ a1' a2' c1' c2', ev = .returned (.agg #[.int .i64 f, .int .i64 e, .slice a1' n1 c1', .slice a2' n2 c2']) ∧ fG w' w.heap.size a1' a2' n1 n2 c1' c2' z ∧ Below w.heap.size w w' := by
 obtain ⟨K0, K1, F0, F1, hsz, hbw⟩ := boxes2 w #[.int .i64 (f : Int), .int .i64 (e : Int), .slice a1 n1 c1, .slice a2 n2 c2] 102 #[.int .i64 0, .int .i64 0, .slice none 0 0, .slice none 0 0] 102
 obtain ⟨l1, l2, q1, q2⟩ := hat.below hbw
 clear hat
 go_enter Tryz.func133, Tryz.ntmps133
 go_wp2_with fail
 generalize (w.alloc (.cells #[.int .i64 (f : Int), .int .i64 (e : Int), .slice a1 n1 c1, .slice a2 n2 c2] 102)).alloc (.cells #[.int .i64 0, .int .i64 0, .slice none 0 0, .slice none 0 0] 102) = w0 at *
 go_region_with (first | (go_at_call 132; refine (Kt _ _ _ z.l _ l1 (by omega) (q1.below (by first | exact Below.drew Dx | exact Dx | exact (Below.refl _ _).drew))).mono ?_; rintro ev wm ⟨am, cm, rfl, yJ, hbm⟩; first | (have Km := aC (w1 := wk) Kk Sk hbm; have Fm := aJ (w1 := wk) Fk Sk hbm; have Sm : w.heap.size < wm.heap.size := gI Sk hbm.size; have Dy : Below w0.heap.size w0 wm := Below.step Dx hbm) | (have Km := aC (w1 := wk.drew) (fun o => Kk o) Sk hbm; have Fm := aJ (w1 := wk.drew) (fun o => Fk o) Sk hbm; have Sm : w.heap.size < wm.heap.size := gI Sk hbm.size; have Dy : Below w0.heap.size w0 wm := Below.step (Below.drew Dx) hbm) | (have Km := aC (w1 := w0.drew) (fun o => K0 o) (show w.heap.size < w0.heap.size by omega) hbm; have Fm := aJ (w1 := w0.drew) (fun o => F0 o) (show w.heap.size < w0.heap.size by omega) hbm; have Sm : w.heap.size < wm.heap.size := gI (show w.heap.size < w0.heap.size by omega) hbm.size; have Dy : Below w0.heap.size w0 wm := Below.step ((Below.refl _ _).drew) hbm)) | (go_at_call 85; refine (Dv _ _ _ z.y _ l2 (by omega) (q2.below (by first | exact Below.drew Dy | exact Dy | exact (Below.refl _ _).drew))).mono ?_; rintro ev wk ⟨ak, ck, rfl, hok, hbk⟩; first | (have Kk := aC (w1 := wm) Km Sm hbk; have Fk := aJ (w1 := wm) Fm Sm hbk; have Sk : w.heap.size < wk.heap.size := gI Sm hbk.size; have Dx : Below w0.heap.size w0 wk := Below.step Dy hbk) | (have Kk := aC (w1 := wm.drew) (fun o => Km o) Sm hbk; have Fk := aJ (w1 := wm.drew) (fun o => Fm o) Sm hbk; have Sk : w.heap.size < wk.heap.size := gI Sm hbk.size; have Dx : Below w0.heap.size w0 wk := Below.step (Below.drew Dy) hbk) | (have Kk := aC (w1 := w0.drew) (fun o => K0 o) (show w.heap.size < w0.heap.size by omega) hbk; have Fk := aJ (w1 := w0.drew) (fun o => F0 o) (show w.heap.size < w0.heap.size by omega) hbk; have Sk : w.heap.size < wk.heap.size := gI (show w.heap.size < w0.heap.size by omega) hbk.size; have Dx : Below w0.heap.size w0 wk := Below.step ((Below.refl _ _).drew) hbk)))
 all_goals first
  |(
   have OF := own_below yJ hbk (Nat.le_refl _)
   have YH := aC K1 (by omega) Dx
   have YI := aJ F1 (by omega) Dx
   have hz0 : w.heap.size + 1 < w0.drew.heap.size := hsz
   have hzm : w0.drew.heap.size ≤ wm.heap.size := hbm.size
   have nm1 := own_ne yJ (b := w.heap.size) (.inl (by omega))
   have nm2 := own_ne yJ (b := w.heap.size + 1) (.inl (by omega))
   have nk1 := own_ne hok (b := w.heap.size) (.inl (by omega))
   have nk2 := own_ne hok (b := w.heap.size + 1) (.inl (by omega))
   have HZ := gO ((show fG wk w.heap.size am ak n1 n2 cm ck z from ⟨l1, l2, own_base OF (by omega), own_base hok (by omega)⟩).set (g := w.heap.size) ⟨nm1, nk1⟩ 2 (.slice am n1 cm) |>.set (g := w.heap.size) ⟨nm1, nk1⟩ 3 (.slice ak n2 ck))
   have hbw3 := Below.setCell (Below.setCell (Below.step hbw Dx) (show w.heap.size ≤ (⟨w.heap.size, 2, none⟩ : Addr).block from Nat.le_refl _) (.slice am n1 cm)) (show w.heap.size ≤ (⟨w.heap.size, 3, none⟩ : Addr).block from Nat.le_refl _) (.slice ak n2 ck)
   have KX := aG (aG Kk 2 (.slice am n1 cm)) 3 (.slice ak n2 ck)
   have K1x := aA (aA YH (c := w.heap.size) (by omega) 2 (.slice am n1 cm)) (c := w.heap.size) (by omega) 3 (.slice ak n2 ck)
   have F1x := aH (aH YI ⟨w.heap.size, 2, none⟩ (.slice am n1 cm)) ⟨w.heap.size, 3, none⟩ (.slice ak n2 ck)
   clear K0 K1 F0 F1 Km Fm OF yJ hok q1 q2 Kk Fk YH YI
   generalize (wk.setCell ⟨w.heap.size, 2, none⟩ (.slice am n1 cm)).setCell ⟨w.heap.size, 3, none⟩ (.slice ak n2 ck) = wx at *
   change ∀ o, wx.cell? ⟨w.heap.size, o, none⟩ = (#[.int .i64 (f : Int), .int .i64 (e : Int), .slice am n1 cm, .slice ak n2 ck] : Array Value)[o]? at KX
   go_wp2
   refine bodyPost_ret (v := .agg #[.int .i64 f, .int .i64 e, .slice am n1 cm, .slice ak n2 ck]) (by simp [results, Tryz.results133, go_sem, K1x]) rfl ⟨am, ak, cm, ck, rfl, ?_, ?_⟩
   ·exact (((HZ.out.set ⟨nm2, nk2⟩ _ _).set ⟨nm2, nk2⟩ _ _).set ⟨nm2, nk2⟩ _ _).set ⟨nm2, nk2⟩ _ _
   ·exact Below.setCell (Below.setCell (Below.setCell (Below.setCell hbw3 (by simp only; omega) _) (by simp only; omega) _) (by simp only; omega) _) (by simp only; omega) _

   )
  |(
   have OF := own_below hok hbm (Nat.le_refl _)
   have YH := aC K1 (by omega) Dy
   have YI := aJ F1 (by omega) Dy
   have hz0 : w.heap.size + 1 < w0.drew.heap.size := hsz
   have hzm : w0.drew.heap.size ≤ wk.heap.size := hbk.size
   have nm1 := own_ne yJ (b := w.heap.size) (.inl (by omega))
   have nm2 := own_ne yJ (b := w.heap.size + 1) (.inl (by omega))
   have nk1 := own_ne hok (b := w.heap.size) (.inl (by omega))
   have nk2 := own_ne hok (b := w.heap.size + 1) (.inl (by omega))
   have HZ := gO ((show fG wm w.heap.size am ak n1 n2 cm ck z from ⟨l1, l2, own_base yJ (by omega), own_base OF (by omega)⟩).set (g := w.heap.size) ⟨nm1, nk1⟩ 2 (.slice am n1 cm) |>.set (g := w.heap.size) ⟨nm1, nk1⟩ 3 (.slice ak n2 ck))
   have hbw3 := Below.setCell (Below.setCell (Below.step hbw Dy) (show w.heap.size ≤ (⟨w.heap.size, 2, none⟩ : Addr).block from Nat.le_refl _) (.slice am n1 cm)) (show w.heap.size ≤ (⟨w.heap.size, 3, none⟩ : Addr).block from Nat.le_refl _) (.slice ak n2 ck)
   have KX := aG (aG Km 2 (.slice am n1 cm)) 3 (.slice ak n2 ck)
   have K1x := aA (aA YH (c := w.heap.size) (by omega) 2 (.slice am n1 cm)) (c := w.heap.size) (by omega) 3 (.slice ak n2 ck)
   have F1x := aH (aH YI ⟨w.heap.size, 2, none⟩ (.slice am n1 cm)) ⟨w.heap.size, 3, none⟩ (.slice ak n2 ck)
   clear K0 K1 F0 F1 Km Fm OF yJ hok q1 q2 Kk Fk YH YI
   generalize (wm.setCell ⟨w.heap.size, 2, none⟩ (.slice am n1 cm)).setCell ⟨w.heap.size, 3, none⟩ (.slice ak n2 ck) = wx at *
   change ∀ o, wx.cell? ⟨w.heap.size, o, none⟩ = (#[.int .i64 (f : Int), .int .i64 (e : Int), .slice am n1 cm, .slice ak n2 ck] : Array Value)[o]? at KX
   go_wp2
   refine bodyPost_ret (v := .agg #[.int .i64 f, .int .i64 e, .slice am n1 cm, .slice ak n2 ck]) (by simp [results, Tryz.results133, go_sem, K1x]) rfl ⟨am, ak, cm, ck, rfl, ?_, ?_⟩
   ·exact (((HZ.out.set ⟨nm2, nk2⟩ _ _).set ⟨nm2, nk2⟩ _ _).set ⟨nm2, nk2⟩ _ _).set ⟨nm2, nk2⟩ _ _
   ·exact Below.setCell (Below.setCell (Below.setCell (Below.setCell hbw3 (by simp only; omega) _) (by simp only; omega) _) (by simp only; omega) _) (by simp only; omega) _

   )
end
section
open Go.RowKit
attribute [local go_sem ↓] iO

theorem Tc (w : World) : (zeroValue 63).run Tryz.prog w = .ok (.agg #[.int .i64 0, .int .i64 0, .int .i64 0]) w := by
 obtain ⟨i, hi, hz, hs, hb⟩ := info_parts oO
 simp [zeroValue, typeInfo, hi, hz]

set_option maxRecDepth 100000 in
theorem nY (base : Nat) (a : Option Addr) (n c : Nat) (l : List Bk) (i : Nat) (w : World) (hown : w.ownsRow base 63 3 (.slice a n c) n (flat aO l)) (hi : i < n) (hn : n ≤ 1000) (hbase : base ≤ w.heap.size) :
  Calls Tryz.prog 134 #[.slice a n c, .int .i64 i, .int .i64 (i + 1)] w fun ev w' => ev = .returned (.slice a (n - 1) c) ∧ w'.ownsRow base 63 3 (.slice a (n - 1) c) (n - 1) (flat aO (l.eraseIdx i)) ∧ w.grownBy w' (Value.ownBlock (.slice a n c)) := by
 have hln : l.length = n := aZ aI (by decide) hown
 have hnc := dF hown
 have hcm : c ≤ 9223372036854775807 := by
  rcases hown.2 with ⟨h', h2⟩ | ⟨g, cap, cur, h', _, _, _, hcm, _⟩
  ·simp at h'; omega
  ·have : c = cap := by simp at h'; exact h'.2
   unfold maxLen at hcm; omega
 have HO := gO hown
 clear hown
 have b0 : (i : Int) ≤ n := by omega
 have b1 : (i : Int) + 1 ≤ n := by omega
 have b2 : (i : Int) ≤ c := by omega
 have b3 : (i : Int) + 1 ≤ c := by omega
 have b4 : (n : Int) ≤ c := by omega
 have b5 : (0 : Int) ≤ (i : Int) + 1 := by omega
 have b6 : ((i : Int) + 1).toNat = i + 1 := by omega
 go_enter Tryz.func134, Tryz.ntmps134
 go_wp2_with fail
 go_still_tail 6, (by kernel_rfl)
 change wpList _ _ _ _ _ w.drew
 have HO2 := own_below HO.out ((Below.refl w.heap.size w).drew) (Nat.le_refl _)
 have hrow := (aY HO2).cut (i + 1) c 3 ((n - (i + 1)) * 3) (by omega)
 have hfl := flat_length aI l
 rw [List.take_of_length_le (by rw [List.length_drop, hfl]; omega), dQ aI] at hrow
 have hpre := fE HO2 (show i ≤ n by omega)
 rw [dP aI] at hpre
 have HG : Hid (∀ w', w.drew.grownBy w' (Value.ownBlock (.slice a i c)) → w.grownBy w' (Value.ownBlock (.slice a n c))) := fun w' h => ⟨h.os, h.tape, h.output, h.size, fun k hk hne => h.block k hk (by cases a with | none => simp [Value.ownBlock] | some x => simpa [Value.ownBlock] using hne)⟩
 have hdw : w.drew.heap.size = w.heap.size := rfl
 clear HO2
 generalize w.drew = w1 at *
 refine kZ rfl _ _ 42 rfl base 63 (.agg #[.int .i64 0, .int .i64 0, .int .i64 0]) 3 24 Tryz.underlying42 oO (by decide) a i c _ rfl hpre (bT a (i + 1) c 3) (n - (i + 1)) (c - (i + 1)) (flat aO (l.drop (i + 1))) rfl (by rw [flat_length aI, List.length_drop, hln]) hrow (lV _) (by omega) ?_
 intro w2 hown2 hg2
 have hG2 := HG.out w2 hg2
 rw [← aT, ← List.eraseIdx_eq_take_drop_succ] at hown2
 have e1 : i + (n - (i + 1)) = n - 1 := by omega
 rw [e1] at hown2 ⊢
 have HO3 := gO hown2
 have b7 : (n : Int) - 1 ≤ n := by omega
 have b8 : ((n - 1 : Nat) : Int) ≤ n := by omega
 have b9 : n - (n - 1) = 1 := by omega
 clear hown2 hg2 hrow hpre HO hfl
 obtain ⟨w3, Td, hown3, hg3⟩ := uO (P := Tryz.prog) 42 0 63 Tryz.underlying42 3 (.agg #[.int .i64 0, .int .i64 0, .int .i64 0]) Tc rfl (by decide) base (n - 1) 1 c (c - (n - 1)) a _ HO3.out (by omega)
 have HO4 := gO hown3
 have HG4 : Hid (w.grownBy w3 (Value.ownBlock (.slice a n c))) := ⟨hg3.os.trans hG2.os, hg3.tape.trans hG2.tape, hg3.output.trans hG2.output, gQ hG2.size hg3.size, fun k hk hne => (hg3.block k (gI hk hG2.size) (by cases a with | none => simp [Value.ownBlock] | some x => simpa [Value.ownBlock] using hne)).trans (hG2.block k hk hne)⟩
 clear hown3 HO3 hG2 hg3
 go_wp2
 go_ret
 exact ⟨rfl, HO4.out, HG4.out⟩
end
section
open Go.RowKit
attribute [local go_sem ↓] iO

theorem qA {P : Program} {w : World} (t tn ty e : TypeId) (ht : P.underlying t = some (.slice e)) (htn : P.underlying tn = some (.int .i64)) (z : Value) (size bytes : Nat) (hinfo : (P.info? e).map (fun i => (i.zero, i.size, i.bytes)) = some (some z, size, bytes)) (hzs : z.cells.size = size) (hsz : 0 < size)
  (as_ : Option Addr) (n cs : Nat) (xs : List Value) (base : Nat) (hown : w.ownsRow base e size (.slice as_ n cs) n xs) (k : Nat) (hk : 0 < k) (hg : cs < n + k) (hbytes : (n + k) * bytes ≤ 140737488355328) (hbp : 0 < bytes) :
  ∃ G zs w', (Builtin.append_ #[t, tn] ty #[.slice as_ n cs, .int .i64 k]).run P w = .ok (.slice (some ⟨w.heap.size, 0, none⟩) (n + k) G) w' ∧ zs.length = k * size ∧ w'.ownsRow w.heap.size e size (.slice (some ⟨w.heap.size, 0, none⟩) (n + k) G) (n + k) (xs ++ zs) ∧ w.grownBy w' none := by
 obtain ⟨i, hi, hz, hsize, hby⟩ := info_parts hinfo
 subst hsize
 subst hby
 have h63 : n + k ≤ maxLen := by
  have : n + k ≤ (n + k) * i.bytes := Nat.le_mul_of_pos_right _ hbp
  simp only [maxLen]; omega
 have hold : (Builtin.firstCells i.size n (.slice as_ n cs)).run P w.drew = .ok xs.toArray w.drew := lX i.size n as_ n cs xs hown.1 (aY (own_below hown ((Below.refl w.heap.size w).drew) (Nat.le_refl _)))
 have h := Lib.run_append_grow_zeros (P := P) w t tn ty e i z .i64 .i64 ht htn hi hz as_ n cs xs hold k hk hsz hg (by unfold maxLen at h63; omega) (by have := Nat.mul_le_mul_right i.bytes (show k ≤ n + k by omega); omega) (growslice_fits hg hbytes)
 have hge := grownCap_ge w (n + k) cs e
 have hcm : grownCap w (n + k) cs e ≤ maxLen := grownCap_le_maxLen w (n + k) cs e h63
 refine ⟨_, (Builtin.zeroCells z.cells k).toList, _, h, ?_, ⟨?_, .inr ⟨w.heap.size, _, _, rfl, Nat.le_refl _, heap_alloc_new w.drew _, hge, hcm, ?_, ?_⟩⟩, ⟨rfl, rfl, rfl, by simp, fun j hj _ => heap_alloc_old w.drew _ hj⟩⟩
 ·rw [Array.length_toList, size_zeroCells, hzs]
 ·rw [List.length_append, hown.1, Array.length_toList, size_zeroCells, hzs, Nat.add_mul]
 ·simp only [Array.size_append, List.size_toArray, size_zeroCells, hzs, hown.1, ← Nat.add_mul]
  congr 1
  omega
 ·have hl : (xs ++ (Builtin.zeroCells z.cells k).toList).length = (n + k) * i.size := by rw [List.length_append, hown.1, Array.length_toList, size_zeroCells, hzs, Nat.add_mul]
  simp only [Array.toList_append]
  rw [← hl]
  exact List.take_left

theorem iZ {P : Program} {w : World} {ops : Array Oper} {rest : List Oper} {o : Oper} {a : Act} {Q : Exit → Act → World → Prop} (hgd : o.guard = none) (s x : Operand) (t tn : TypeId)
  (ho : o.op = .call { callee := .builtin .append, args := #[s, x], argTypes := #[t, tn] }) (v u : Value) (hs : a.eval s = v) (hx : a.eval x = u) {v' : Value} {w' : World}
  (hr : (Builtin.append_ #[t, tn] o.type #[v, u]).run P w = .ok v' w') (h : wpList P ops Q rest (a.put o.dst v') w') : wpList P ops Q (o :: rest) a w := by
 refine wpList_plain hgd fun K hK => ?_
 unfold Oper.wp execOp
 simp only [ho, resolve, invoke, builtin, Sem.run_bind, Sem.run_pure, Result.andThen_ok, List.map_toArray, List.map_cons, List.map_nil, hs, hx, hr]
 exact hK _ _ h

set_option maxRecDepth 100000 in
theorem Iz (base : Nat) (a : Option Addr) (n c g : Nat) (l : List Bk) (b : Bk) (w : World) (hown : w.ownsRow base 63 3 (.slice a n c) n (flat aO l)) (hn : n ≤ 1000) (hbase : base ≤ w.heap.size) (hv : Row w (some ⟨g, 0, none⟩) (aO b)) :
  Calls Tryz.prog 109 #[.slice a n c, .int .i64 n, .slice (some ⟨g, 0, none⟩) 1 1] w fun ev w' => ∃ a' c', ev = .returned (.slice a' (n + 1) c') ∧ w'.ownsRow base 63 3 (.slice a' (n + 1) c') (n + 1) (flat aO (l ++ [b])) ∧ w.grownBy w' (Value.ownBlock (.slice a n c)) := by
 have hnc := dF hown
 have HO := gO hown
 clear hown
 have b2 : (n : Int) ≤ c := by omega
 go_enter Tryz.func109, Tryz.ntmps109
 go_wp2_with (at_builtin; refine gU rfl _ _ 42 rfl base 63 (.agg #[.int .i64 0, .int .i64 0, .int .i64 0]) 3 24 Tryz.underlying42 oO rfl (by decide) (by decide) _ _ _ _ rfl HO.out (some ⟨g, 0, none⟩) 1 1 (aO b) rfl rfl hv (by simp [aO, vI, Value.oneCell']) (by omega) hbase ?_)
 intro a' c' w1 hown1 hg
 rw [show flat aO l ++ aO b = flat aO (l ++ [b]) from by rw [aT, fF]] at hown1
 have HO1 := gO hown1
 clear hown1 HO
 go_wp2
 go_ret
 exact ⟨a', c', rfl, HO1.out, hg⟩

set_option maxRecDepth 100000 in
theorem Fa (base : Nat) (a : Option Addr) (n c g i : Nat) (l : List Bk) (b : Bk) (w : World) (hown : w.ownsRow base 63 3 (.slice a n c) n (flat aO l)) (hi : i < n) (hn : n ≤ 1000) (hc : c < n + 1) (hbase : base ≤ w.heap.size) (hv : Row w (some ⟨g, 0, none⟩) (aO b)) :
  Calls Tryz.prog 109 #[.slice a n c, .int .i64 i, .slice (some ⟨g, 0, none⟩) 1 1] w fun ev w' => ∃ a' c', ev = .returned (.slice a' (n + 1) c') ∧ w'.ownsRow base 63 3 (.slice a' (n + 1) c') (n + 1) (flat aO (l.take i ++ b :: l.drop i)) ∧ w.grownBy w' (Value.ownBlock (.slice a n c)) := by
 have hnc := dF hown
 have hln : l.length = n := aZ aI (by decide) hown
 have hfl := flat_length aI l
 obtain ⟨G, zs, w1, hrz, hzl, hown1, hg1⟩ := qA (P := Tryz.prog) 42 3 42 63 Tryz.underlying42 Tryz.underlying3 (.agg #[.int .i64 0, .int .i64 0, .int .i64 0]) 3 24 oO rfl (by decide) a i c _ base (fE hown (show i ≤ n by omega)) (n + 1 - i) (by omega) (by omega) (by omega) (by omega)
 rw [show i + (n + 1 - i) = n + 1 by omega] at hrz hown1
 rw [show ((n + 1 - i : Nat) : Int) = (n : Int) + 1 - (i : Int) by omega] at hrz
 rw [dP aI] at hown1
 have HR := gO (aY hown)
 have hGn := dF hown1
 have HO1 := gO hown1
 have HG1 := gO hg1
 have hbw := gO ((Below.refl w.heap.size w).grown hg1 (Nat.le_refl _) (by simp))
 have b0 : (i : Int) ≤ n := by omega
 have b2 : (i : Int) ≤ c := by omega
 have b3 : ¬ (i : Int) = n := by omega
 have b4 : (c : Int) < (n : Int) + 1 := by omega
 have b5 : (i : Int) ≤ (n : Int) + 1 := by omega
 have b6 : ((n + 1 : Nat) : Int) ≤ G := by omega
 have hsz : (Tryz.prog.info? 63).map (·.size) = some 3 := by kernel_rfl
 have hv1 := hv.mono hbw.out (Nat.le_refl _)
 have htl : (flat aO (l.take i)).length = i * 3 := by rw [flat_length aI, List.length_take]; omega
 have kD : bT (some ⟨w.heap.size, 0, none⟩) i G 3 = (some ⟨w.heap.size, 0, none⟩ : Option Addr).map (·.add (i * 3)) := by unfold bT; rw [if_neg (by omega)]
 have kE : bT (some ⟨w.heap.size, 0, none⟩) (i + 1) G 3 = (some ⟨w.heap.size, 0, none⟩ : Option Addr).map (·.add ((i + 1) * 3)) := by unfold bT; rw [if_neg (by omega)]
 obtain ⟨w2, hcp1, hown2, hg2⟩ := iG (P := Tryz.prog) 42 42 3 63 Tryz.underlying42 3 hsz (bT (some ⟨w.heap.size, 0, none⟩) i G 3) (some ⟨g, 0, none⟩) (n + 1 - i) (G - i) 1 1 (aO b) (by rw [show Nat.min 1 (n + 1 - i) = 1 from Nat.min_eq_left (by omega)]; rfl) hv1 (by simp [aO, vI, Value.oneCell']) w.heap.size (n + 1) G i (some ⟨w.heap.size, 0, none⟩) _ HO1.out (fun _ => kD) (fun h => by rw [kD] at h; simp at h) (by rw [aI]; omega)
 rw [aI, List.take_left' htl, ← Nat.succ_mul] at hown2
 have hdrop : (flat aO (l.take i) ++ zs).drop ((i + 1) * 3) = zs.drop 3 := by rw [List.drop_append, List.drop_eq_nil_of_le (by omega), htl, List.nil_append]; congr 1; omega
 rw [Nat.succ_eq_add_one, hdrop] at hown2
 have hbw2 := (hbw.out.grown hg2 hbw.out.size (by intro k hk; simp [Value.ownBlock] at hk; omega)).drew
 have kF := own_below hown2 ((Below.refl w2.heap.size w2).drew) (Nat.le_refl _)
 have hrow := ((aY hown).mono hbw2 (Nat.le_refl _)).cut i c 3 ((n - i) * 3) (by omega)
 rw [List.take_of_length_le (by rw [List.length_drop, hfl]; omega), dQ aI] at hrow
 have hdl : (flat aO (l.drop i)).length = (n - i) * 3 := by rw [flat_length aI, List.length_drop, hln]
 obtain ⟨w3, hcp2, hown3, hg3⟩ := iG (P := Tryz.prog) (w := w2.drew) 42 42 3 63 Tryz.underlying42 3 hsz (bT (some ⟨w.heap.size, 0, none⟩) (i + 1) G 3) (bT a i c 3) (n - i) (G - (i + 1)) (n - i) (c - i) (flat aO (l.drop i)) (by rw [hdl, show Nat.min (n - i) (n - i) = n - i from Nat.min_self _]) hrow (lV _) w.heap.size (n + 1) G (i + 1) (some ⟨w.heap.size, 0, none⟩) _ kF (fun _ => kE) (fun h => by rw [kE] at h; simp at h) (by rw [hdl]; omega)
 rw [show (flat aO (l.take i) ++ aO b ++ zs.drop 3).take ((i + 1) * 3) = flat aO (l.take i) ++ aO b from List.take_left' (by rw [List.length_append, htl, aI]; omega), hdl, show (flat aO (l.take i) ++ aO b ++ zs.drop 3).drop ((i + 1) * 3 + (n - i) * 3) = [] from List.drop_eq_nil_of_le (by simp only [List.length_append, htl, aI, List.length_drop, hzl]; omega), List.append_nil, ← fF aO b, ← aT, ← aT, List.append_assoc, List.singleton_append] at hown3
 have HO3 := gO (own_base hown3 hbase)
 have HG3 : Hid (w.grownBy w3 (Value.ownBlock (.slice a n c))) := by
  have h1 := HG1.out
  refine ⟨hg3.os.trans (hg2.os.trans h1.os), hg3.tape.trans (hg2.tape.trans h1.tape), hg3.output.trans (hg2.output.trans h1.output), gQ h1.size (gQ hg2.size hg3.size), fun k hk hne => ?_⟩
  have e1 : some k ≠ Value.ownBlock (.slice (some ⟨w.heap.size, 0, none⟩) (n + 1) G) := by simp [Value.ownBlock]; omega
  exact (hg3.block k (gI hk (gQ h1.size hg2.size)) e1).trans ((hg2.block k (gI hk h1.size) e1).trans (h1.block k hk (by simp)))
 have b7 : ((i : Int) + 1) ≤ G := by omega
 have s1 : IntKind.i64.wrap ((i : Int) + 1) = (i : Int) + 1 := IntWalk.i64_in _ (by omega)
 have b8 : 0 ≤ (i : Int) + 1 := by omega
 have b9 : ((i : Int) + 1).toNat = i + 1 := by omega
 have b10 : (i : Int) + 1 ≤ (n : Int) + 1 := by omega
 clear hown hown2 kF hown3 hg1 hg2 hg3 hown1 hrow hv1 hbw2 HO1 HR HG1 hdrop kD kE
 go_enter Tryz.func109, Tryz.ntmps109
 go_wp2_with (at_builtin; refine iZ rfl _ _ 42 3 rfl _ _ rfl rfl hrz ?_)
 go_still_tail 8, (by kernel_rfl)
 change wpList _ _ _ _ _ w2.drew
 generalize w2.drew = w2d at *
 go_wp2
 go_ret
 exact ⟨_, _, rfl, HO3.out, HG3.out⟩
end
end Go.Proofs.YtcmpmobhongkiaaGreatDoor
