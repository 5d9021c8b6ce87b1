/- texts of this claim, joined. -/
import Derived.Test.YtcmpmobhongkiaaGreatDoorCM0
import Derived.Test.YtcmpmobhongkiaaGreatDoorCM13
import Derived.Test.YtcmpmobhongkiaaGreatDoorCM19
import Derived.Test.YtcmpmobhongkiaaGreatDoorCM26
import Derived.Test.YtcmpmobhongkiaaGreatDoorCM27
import Derived.Test.YtcmpmobhongkiaaGreatDoorCM32
set_option linter.unusedVariables false
set_option linter.unusedSimpArgs false
namespace Go.Proofs.YtcmpmobhongkiaaGreatDoor
section
open Go.RowKit

def Res (r : Option (Hp × Nat)) (G : Nat) (X : Nat → Prop) (h : Hp) (c : Hc) (w : World) (ev : Ending) (w' : World) : Prop :=
 (r = none ∧ ev = .returned (.tuple #[.int .i64 0, .bool false]) ∧ HS w' G X h c ∧ Safe X w w') ∨
 (∃ h' a c', r = some (h', a) ∧ ev = .returned (.tuple #[.int .i64 (a : Nat), .bool true]) ∧ HS w' G X h' c' ∧ Safe X w w')

set_option maxHeartbeats 8000000 in
set_option maxRecDepth 100000 in
theorem xC (G cpu z t flags : Nat) (X : Nat → Prop) (h : Hp) (c : Hc) (w : World) (hs : HS w G X h c) (hk : dW h) (hc : cpu < h.aF) (hz : z < 2) (ht : t < 3) (hf : flags ≤ 15) (ho : yK w) (hx0 : X 1) :
  Calls Tryz.prog 151 #[.pointer (some ⟨G, 0, none⟩), .int .i64 cpu, .int .i64 z, .int .i64 t, .int .i64 flags] w (Res (h.single ⟨cpu, z, t, []⟩ (h.held z (decide (flags / 8 % 2 = 1)) (decide (flags % 2 = 1)))) G X h c w) := by
 obtain ⟨K4, F4, hsz, hbw⟩ := boxes1 w #[.int .i64 (cpu : Int), .int .i64 (z : Int), .int .i64 (t : Int), .slice none 0 0] 207
 have HS0 := gO (hs.new hbw)
 have HSF0 := gO (Safe.fP (X := X) hbw)
 have HO0 := gO (ho.below hbw)
 have HK := gO hk
 have hG0 : G < (w.alloc (.cells #[.int .i64 (cpu : Int), .int .i64 (z : Int), .int .i64 (t : Int), .slice none 0 0] 207)).heap.size := HS0.out.r.gs
 obtain ⟨k0, k1, k2, k3, k4⟩ := HS0.out.words
 have b0 := K4 0
 have b1 := K4 1
 have b2 := K4 2
 have b3 := K4 3
 simp only [gB, gC, gD] at b0 b1 b2 b3
 have hGw := hs.r.gs
 have HXW := gO hs.r.xs
 have Jh := hk.sW
 have KY := gO (wX hs.r)
 have hc24 : c.lc.length ≤ 24 := by rw [KY.out]; exact Jh
 clear hs hk hbw ho
 go_enter Tryz.func151, Tryz.ntmps151
 go_wp2_with fail
 generalize w.alloc (.cells #[.int .i64 (cpu : Int), .int .i64 (z : Int), .int .i64 (t : Int), .slice none 0 0] 207) = w1 at *
 refine aS (by kernel_rfl) (by kernel_rfl) ?_
 repeat (go_big_quiet_step ((go_at_call 139; exact Calls.bP (KJ _ _ _ _ _ _ _ _ _ _ _ _ _ h ⟨cpu, z, t, []⟩ none 0 0 _ (HS0.out.r.at.below (aQ w1 _)) HK.out ⟨hz, ht⟩ (by omega)))))
 refine wpQuiet_nil ?_
 rintro _ ⟨wx, rfl⟩
 have HS1 := gO (HS0.out.below (aQ w1 wx))
 have HSF1 := gO (HSF0.out.then (aQ w1 wx))
 have HO1 := gO (HO0.out.below (aQ w1 wx))
 have WY := gO (aC K4 hsz (aQ w1 wx))
 have ZF := gO (aJ F4 hsz (aQ w1 wx))
 have hsz1 : w.heap.size < (ext w1 wx).heap.size := gI hsz (aQ w1 wx).size
 have Vj : w1.heap.size ≤ (ext w1 wx).heap.size := (aQ w1 wx).size
 clear k0 k1 k2 k3 k4 b0 b1 b2 b3 K4 F4 HS0 HSF0 HO0
 generalize ext w1 wx = w2 at *
 obtain ⟨D, hD⟩ : ∃ D, h.held z (decide (flags / 8 % 2 = 1)) (decide (flags % 2 = 1)) = D := ⟨_, rfl⟩
 have HD := gO hD
 rw [hD]
 clear hD
 cases hh : nV h.ls (Ls.key ⟨cpu, z, t, []⟩) with
 | true =>
  obtain ⟨I, hI, hi0, HSI⟩ : ∃ I, iP h.ls (Ls.key ⟨cpu, z, t, []⟩) = I ∧ ∃ hi : I < h.ls.length, Hid (h.single ⟨cpu, z, t, []⟩ D = some ({ h with ls := if h.ls[I].p.length = 1 then h.ls.eraseIdx I else h.ls.set I { h.ls[I] with p := h.ls[I].p.dropLast } }, h.ls[I].p.getLastD 0)) := by
   obtain ⟨hi0, hkey⟩ := CG hh
   exact ⟨_, rfl, hi0, Ee hh hi0⟩
  rw [hI]
  clear hI hh
  have h6 : I < c.lc.length := by rw [KY.out]; exact hi0
  have h7 := gO (Ec HS1.out.r h6 hi0)
  obtain ⟨gl, hgl, wY, Xa, Xb, Ed⟩ := HS1.out.r.oW (by omega)
  have hown := HS1.out.r.jJ _ (gL h6)
  have hlen := sQ hown
  have hok := HK.out.lr _ (gL hi0)
  have hpos := hok.2.2.2.1
  have h8 := hok.2.2.2.2.1
  rw [h7.out] at hlen
  obtain ⟨K, hKn⟩ : ∃ K, c.lc[I].n = K + 1 := ⟨c.lc[I].n - 1, by omega⟩
  have Ue := gO hKn
  obtain ⟨k0, k1, k2, k3, k4⟩ := HS1.out.words
  rw [hgl] at k3
  obtain ⟨x0, x1, x2, x3⟩ := HS1.out.r.sZ hgl h6
  rw [hKn] at x3
  have hKp : K < h.ls[I].p.length := by omega
  obtain ⟨pb, jS, hpa, hpb, hpc⟩ := aN bM (by decide) (aY hown) (j := K) (by show K < (c.lc[I]).l.p.length; rw [h7.out]; exact hKp)
  have hp0 := gV hpc
  rw [Nat.mul_one] at hp0
  have HPA := gO hpa
  rw [hpa] at x3
  have hcap := dF hown
  rw [hKn] at hcap
  have HOWN := gO hown
  obtain ⟨P, hP⟩ : ∃ P, (c.lc[I]).l.p[K]'(by rw [h7.out]; exact hKp) = P := ⟨_, rfl⟩
  have HP : Hid (h.ls[I].p[K]? = some P) := by
   unfold Hid
   rw [← hP]
   simp only [← h7.out]
   exact gJ _
  simp only [hP] at hp0
  have hfz := Ed (I * 4 + 3) (by omega)
  have EM := gO hgl
  have hKi : (K : Int) < (K : Int) + 1 := by omega
  have hI2 : (I : Int) < c.lc.length := by omega
  have hcap2 : (K : Int) ≤ (c.lc[I].c : Int) := by omega
  have ZC : G < w2.heap.size := HS1.out.r.gs
  obtain ⟨CC, hCC⟩ : ∃ CC, c.lc[I].c = CC := ⟨_, rfl⟩
  rw [hCC] at x3 hcap hcap2
  have HCC := gO hCC
  clear hpc hpa hown hok hKn hP hgl Ed k0 k1 k2 k4 x0 x1 x2 hlen hCC
  go_wp2_with fail
  go_still_tail 17, (by kernel_rfl)
  change wpList _ _ _ _ _ w2.drew
  have HS3 := gO (HS1.out.below ((Below.refl w2.heap.size w2).drew))
  have HSF3 := gO (HSF1.out.then ((Below.refl w2.heap.size w2).drew))
  have HOWN3 := own_below HOWN.out ((Below.refl w2.heap.size w2).drew) (Nat.le_refl _)
  have hdw : w2.drew.heap.size = w2.heap.size := rfl
  have aG9 : gl < w2.drew.heap.size := wY
  have aCK : G < w2.drew.heap.size := ZC
  clear hfz x3 k3 hp0
  generalize w2.drew = w3 at *
  have x3 := (HS3.out.r.sZ EM.out h6).2.2.2
  obtain ⟨_, Bg, _, _, _, hf3⟩ := HS3.out.r.oW (by omega)
  have hfz : w3.frozen? ⟨gl, I * 4 + 3, none⟩ = false := by
   rw [EM.out] at Bg
   obtain rfl : gl = _ := by simpa using Bg
   exact hf3 _ (by omega)
  clear Bg hf3
  have ho4 : (jC ⟨{ h.ls[I] with p := h.ls[I].p.dropLast }, some ⟨pb, jS, none⟩, K, CC⟩).on w3 0 := by
   have h1 := fE HOWN3 (i := K) (by show K ≤ c.lc[I].n; rw [Ue.out]; omega)
   have h2 := dP bM c.lc[I].l.p K
   unfold Rs.on jC
   simp only
   have h3 : (jC c.lc[I]).xs.take (K * 1) = flat fK h.ls[I].p.dropLast := by
    show (flat fK c.lc[I].l.p).take (K * 1) = _
    rw [h2, h7.out, List.dropLast_eq_take]
    congr 2
    have := sQ HOWN3
    rw [h7.out, Ue.out] at this
    omega
   have h4 := h1
   rw [show (jC c.lc[I]).k = 1 from rfl, h3, HPA.out, HCC.out] at h4
   exact h4
  obtain ⟨hs4, sf4⟩ := HS3.out.page h6 (World.grownBy.refl w3 _) ho4 (by rw [h7.out]; exact ⟨rfl, rfl, rfl⟩) (fun k hk => .inl (by simpa [jC, Value.ownBlock, HPA.out] using hk)) EM.out
  have HS4 : Hid (HS (w3.setCell ⟨gl, I * 4 + 3, none⟩ (.slice (some ⟨pb, jS, none⟩) K CC)) G (fun k => X k ∨ (w.heap.size ≤ k ∧ k < w1.heap.size)) { h with ls := h.ls.set I { h.ls[I] with p := h.ls[I].p.dropLast } } { c with lc := c.lc.set I ⟨{ h.ls[I] with p := h.ls[I].p.dropLast }, some ⟨pb, jS, none⟩, K, CC⟩ }) := hs4
  have HSF4 : Hid (Safe X w (w3.setCell ⟨gl, I * 4 + 3, none⟩ (.slice (some ⟨pb, jS, none⟩) K CC))) := HSF3.out.trans (sf4.sub fun k _ hk => .inl hk)
  have hlen1 : Hid (h.ls[I].p.length = K + 1) := by
   have hl := sQ HOWN3
   rw [h7.out, Ue.out] at hl
   exact hl
  have HLG : Hid (h.ls[I].p.getLastD 0 = P) := by
   unfold Hid
   rw [List.getLastD_eq_getLast?, List.getLast?_eq_getElem?, hlen1.out, Nat.add_sub_cancel, HP.out]
   rfl
  clear hs4 sf4 ho4 HOWN3 HOWN hKp hpos h8
  by_cases hK0 : K = 0
  ·subst hK0
   obtain ⟨_, _, _, q3, _⟩ := HS4.out.words
   simp only [List.length_set] at q3
   rw [EM.out] at q3
   have HHS : Hid ((h.ls.set I { h.ls[I] with p := h.ls[I].p.dropLast }).eraseIdx I = h.ls.eraseIdx I) := List.eraseIdx_set_eq
   go_wp2_with fail
   generalize hW4 : w3.setCell ⟨gl, I * 4 + 3, none⟩ (.slice (some ⟨pb, jS, none⟩) 0 CC) = w4 at *
   clear hW4
   obtain ⟨c4, hc4⟩ : ∃ c4 : Hc, ({ c with lc := c.lc.set I ⟨{ h.ls[I] with p := h.ls[I].p.dropLast }, some ⟨pb, jS, none⟩, 0, CC⟩ } : Hc) = c4 := ⟨_, rfl⟩
   have Xm : c4.al = some ⟨gl, 0, none⟩ := by rw [← hc4]; exact EM.out
   have Xn : c4.cl = c.cl := by rw [← hc4]
   have Xo : c4.lc.length = c.lc.length := by rw [← hc4]; simp
   rw [hc4] at HS4
   have EK := gO Xm
   have HLN4 := gO Xo
   have hown4 := HS4.out.r.WL
   unfold nR at hown4
   unfold Rs.on at hown4
   simp only [Xm, Xn, Xo] at hown4
   have HOWN4 := gO hown4
   have HCL := gO Xn
   clear hown4 hc4 Xm Xn Xo
   refine (Nv 0 (some ⟨gl, 0, none⟩) c.lc.length c.cl c4.lc I w4 HOWN4.out h6 (by omega) (Nat.zero_le _)).mono ?_
   rintro ev w5 ⟨rfl, ho5, hg5⟩
   have hle : (c4.lc.eraseIdx I).length = c.lc.length - 1 := by rw [List.length_eraseIdx_of_lt (by rw [HLN4.out]; exact h6), HLN4.out]
   have hlb : (nR c4).v.ownBlock = some gl := by unfold nR; rw [EK.out]; rfl
   have hG4 : G < w4.heap.size := HS4.out.r.gs
   have rO : (Value.slice (some ⟨gl, 0, none⟩) c.lc.length c.cl).ownBlock ≠ some G := fun e => (HS4.out.r.og _ (gZ c4 _) G (by rw [hlb]; simpa [Value.ownBlock] using e)).1 rfl
   have q5 := (bH HS4.out.k hG4 hg5 (fun e => rO e.symm) 3).trans (show _ = some (.slice c4.al c4.lc.length c4.cl) from rfl)
   have f5 := bI HS4.out.fz hG4 hg5 (fun e => rO e.symm) 3
   have hG5 : G < w5.heap.size := gI hG4 hg5.size
   have hpo : dA w4 0 ((c4.lc.eraseIdx I).map jC) := HS4.out.r.own.sub (by
    unfold Hc.rows
    refine (((List.sublist_cons_self _ _).trans (List.sublist_cons_self _ _)).trans (List.sublist_cons_self _ _)) |> fun h => List.Sublist.trans ?_ h
    exact (List.eraseIdx_sublist _ _).map jC)
   obtain ⟨hs6, sf6⟩ := HS4.out.lists (W' := w5) (by rw [hlb]; simpa [Value.ownBlock] using hg5) (al' := some ⟨gl, 0, none⟩) (cl' := c.cl) (oV := c4.lc.eraseIdx I) (by rw [hle]; exact ho5) (fun k hk => .inl (by rw [hlb]; simpa [Value.ownBlock] using hk)) hpo (fun r hr g hg => .inl ⟨r, ((List.eraseIdx_sublist _ _).map jC).subset hr, hg⟩)
   rw [hle] at hs6 sf6
   have aAa : (c4.lc.eraseIdx I).map Lc.l = h.ls.eraseIdx I := by
    rw [List.eraseIdx_eq_take_drop_succ, List.map_append, List.map_take, List.map_drop, ← List.eraseIdx_eq_take_drop_succ, HS4.out.r.ll]
    exact HHS.out
   rw [aAa] at hs6
   have HS6 := gO hs6
   have HSF6 := gO (HSF4.out.trans (sf6.sub fun k _ hk => .inl hk))
   clear hs6 sf6 hpo aAa ho5 hg5 hlb hle rO q3
   go_wp2
   go_ret2
   refine .inr ⟨_, P, _, ?_, rfl, HS6.out.sub fun k hk => .inl hk, HSF6.out⟩
   rw [HD.out, HSI.out, HLG.out, if_pos (by rw [hlen1.out])]
  ·have d0 : ((K : Int) == 0) = false := by rw [beq_eq_false_iff_ne]; omega
   go_wp2
   go_ret2
   refine .inr ⟨_, P, _, ?_, rfl, HS4.out.sub fun k hk => .inl hk, HSF4.out⟩
   rw [HD.out, HSI.out, HLG.out, if_neg (by rw [hlen1.out]; omega)]
 | false =>
  have HSN := gO (Ji (hd := D) hh)
  have aAb := gO (mJ HK.out.lk (zT hh))
  clear hh
  go_wp2_with fail
  refine (vM G z 0 t flags (fun k => X k ∨ (w.heap.size ≤ k ∧ k < w1.heap.size)) h c w2 HS1.out HK.out hz (by omega) ht hf HO1.out).mono ?_
  rintro ev w3 (⟨hno, rfl, hs3, sf3⟩ | ⟨h1, a1, y0, y1, hso, rfl, hs3, sf3⟩)
  ·rw [HD.out] at hno
   have ZE := gO hno
   have HS3 := gO hs3
   have HSF3 := gO (HSF1.out.trans (sf3.sub fun k _ hk => .inl hk))
   clear hs3 sf3 hno
   go_wp2_with fail
   go_loopw [19] (fun s19 wr => s19 = .int .i64 1 ∧ wr = w3) (fun _ _ => 0)
   case atStart => exact ⟨rfl, rfl⟩
   case round =>
    obtain ⟨rfl, rfl⟩ := hrel
    go_wp2
    go_ret2
    exact .inl ⟨by rw [HD.out, HSN.out, ZE.out]; rfl, rfl, HS3.out.sub fun k hk => .inl hk, HSF3.out⟩
  ·rw [HD.out] at hso
   have HSO := gO hso
   obtain ⟨hT, aAc, hz1⟩ := HK.out.jU (by omega) ht hz hso
   have HS3 := gO hs3
   have HSF3 := gO (HSF1.out.trans (sf3.sub fun k _ hk => .inl hk))
   have HO3 := gO (HO1.out.safe sf3 (Or.inl hx0))
   have WM : (fun k => X k ∨ (w.heap.size ≤ k ∧ k < w1.heap.size)) w.heap.size := .inr ⟨Nat.le_refl _, hsz⟩
   have K5 := gO (sf3.box WY.out hsz1 WM)
   have hsz3 : w.heap.size < w3.heap.size := gI hsz1 sf3.size
   have HT := gO hT
   have HM8 : Hid (∀ x ∈ h1.ls, x.key = (Ls.key ⟨cpu, z, t, []⟩) → x.p.length + 3 ≤ 8) := fun x hx hkey => absurd hkey (aAb.out x (by rw [← aAc]; exact hx))
   have HXB := gO WM
   clear hs3 sf3 hso hT aAc hz1 HS1 HSF1 HO1 WY ZF WM
   go_wp2_with fail
   go_loopw [19] (fun s19 wr => ∃ (j : Nat) (hj : Hp) (cj : Hc), j ≤ 3 ∧ s19 = .int .i64 (1 + j : Int) ∧ Hid (HS wr G (fun k => X k ∨ (w.heap.size ≤ k ∧ k < w1.heap.size)) hj cj) ∧ Hid (Safe (fun k => X k ∨ (w.heap.size ≤ k ∧ k < w1.heap.size)) w3 wr) ∧ Hid (dW hj) ∧ Hid (Same h hj) ∧ Hid (h1.fill ⟨cpu, z, t, []⟩ D 3 = hj.fill ⟨cpu, z, t, []⟩ D (3 - j)) ∧ Hid (∀ x ∈ hj.ls, x.key = (Ls.key ⟨cpu, z, t, []⟩) → x.p.length + (3 - j) ≤ 8)) (fun s19 _ => 4 - (intOf s19).toNat)
   case atStart => exact ⟨0, h1, _, Nat.zero_le _, rfl, HS3, Safe.refl _ _, HT.out.ok, HT.out.same, rfl, HM8⟩
   case round =>
    obtain ⟨j, hj, cj, hj3, rfl, sD, Xp, AO, Xq, HFj, H8j⟩ := hrel
    clear HS3 HM8
    have K6 := gO (Xp.out.box K5.out hsz3 HXB.out)
    have ZO : w.heap.size < wr.heap.size := gI hsz3 Xp.out.size
    by_cases hlt : j < 3
    ·have hlt2 : (1 : Int) + j < 4 := by omega
     have HDj := gO ((Nz HK.out AO.out Xq.out z (decide (flags / 8 % 2 = 1)) (decide (flags % 2 = 1))).trans HD.out)
     have HOj := gO (HO3.out.safe Xp.out (Or.inl hx0))
     obtain ⟨m, hm⟩ : ∃ m, 3 - j = m + 1 := ⟨2 - j, by omega⟩
     have Qy := gO hm
     have hm3 : m + 1 ≤ 3 := by omega
     clear hm
     go_wp2_with fail
     refine (vM G z 0 t flags (fun k => X k ∨ (w.heap.size ≤ k ∧ k < w1.heap.size)) hj cj wr sD.out AO.out hz (by omega) ht hf HOj.out).mono ?_
     rintro ev w4 (⟨hno, rfl, hs4, sf4⟩ | ⟨h2, a2, y0', y1', hso, rfl, hs4, sf4⟩)
     ·rw [HDj.out] at hno
      have VW : Hid (h1.fill ⟨cpu, z, t, []⟩ D 3 = hj) := by
       unfold Hid
       rw [HFj.out, Qy.out]
       unfold Hp.fill
       simp only [hno]
      have HS4 := gO hs4
      have HSF4 := gO (HSF3.out.trans ((Xp.out.trans sf4).sub fun k _ hk => .inl hk))
      clear hs4 sf4 hno
      go_wp2
      go_ret2
      exact .inr ⟨_, a1, _, by rw [HD.out, HSN.out, HSO.out]; simp only [Option.map_some]; rw [VW.out], rfl, HS4.out.sub fun k hk => .inl hk, HSF4.out⟩
     ·rw [HDj.out] at hso
      have fH : cpu < hj.aF := by rw [Xq.out.aF]; exact hc
      obtain ⟨g1, g2, g3, g4⟩ := AO.out.NC (l := ⟨cpu, z, t, []⟩) (n := m) ⟨fH, hz, ht⟩ (by rw [← Qy.out]; exact H8j.out) (by omega) hso
      have VW : Hid (h1.fill ⟨cpu, z, t, []⟩ D 3 = Hp.fill { h2 with ls := bD h2.ls ⟨cpu, z, t, []⟩ a2 } ⟨cpu, z, t, []⟩ D m) := by
       unfold Hid
       rw [HFj.out, Qy.out, Hp.fill]
       simp only [hso]
      have HS4 := gO hs4
      have SF4 := gO (Xp.out.trans sf4)
      have K7 := gO (sf4.box K6.out ZO HXB.out)
      have G1 := gO g1
      have G2 := gO g2
      have G3 := gO g3
      have G4 := gO (Xq.out.trans g4)
      have b0 := K7.out 0
      have b1 := K7.out 1
      have b2 := K7.out 2
      have b3 := K7.out 3
      simp only [gB, gC, gD] at b0 b1 b2 b3
      have hmj : m = 3 - (j + 1) := by have := Qy.out; omega
      clear hs4 sf4 hso g1 g2 g3 g4 sD Xp HFj H8j K6 K7
      go_wp2_with fail
      refine (KW G a2 ⟨cpu, z, t, []⟩ none 0 0 (fun k => X k ∨ (w.heap.size ≤ k ∧ k < w1.heap.size)) h2 _ w4 HS4.out G1.out ⟨hz, ht⟩).mono ?_
      rintro ev w5 ⟨rfl, ⟨al', cl', oV, hs5⟩, sf5⟩
      have HS5 := gO hs5
      have SF5 := gO (SF4.out.trans sf5)
      clear hs5 sf5 b0 b1 b2 b3
      subst hmj
      go_wp2
      go_roundw
      case rel => exact ⟨j + 1, _, _, by omega, by go_num, HS5, SF5, G2, G4, VW, G3⟩
      case measure => simp [intOf]; omega
    ·obtain rfl : j = 3 := by omega
     have VW : Hid (h1.fill ⟨cpu, z, t, []⟩ D 3 = hj) := HFj.out
     have HSF4 := gO (HSF3.out.trans (Xp.out.sub fun k _ hk => .inl hk))
     go_wp2
     go_ret2
     exact .inr ⟨_, a1, _, by rw [HD.out, HSN.out, HSO.out]; simp only [Option.map_some]; rw [VW.out], rfl, sD.out.sub fun k hk => .inl hk, HSF4.out⟩
end
section
open Go.RowKit

def Hp.tries (h : Hp) (cpu order t : Nat) (u lo : Bool) : Nat → Option (Hp × Nat)
 | 0 => none
 | r + 1 => match h.ask cpu r order t u lo with
  | some x => some x
  | none => Hp.tries h cpu order t u lo r
theorem Bh (h : Hp) (cpu order t : Nat) (u lo : Bool) : h.attempt cpu order t u lo = h.tries cpu order t u lo (if lo then 1 else 2) := by
 unfold Hp.attempt
 cases lo with
 | true =>
  simp only [if_true, Hp.tries]
  cases h.ask cpu 0 order t u true <;> rfl
 | false =>
  simp only [Bool.false_eq_true, if_false, Hp.tries]
  cases h.ask cpu 1 order t u false with
  | some x => rfl
  | none => simp only; cases h.ask cpu 0 order t u false <;> rfl

set_option maxHeartbeats 8000000 in
set_option maxRecDepth 100000 in
theorem Af (G cpu order t flags : Nat) (X : Nat → Prop) (h : Hp) (c : Hc) (w : World) (hs : HS w G X h c) (hk : dW h) (hc : cpu < h.aF) (hor : order ≤ 4) (ht : t < 3) (hf : flags ≤ 15) (ho : yK w) (hx0 : X 1) :
  Calls Tryz.prog 107 #[.pointer (some ⟨G, 0, none⟩), .int .i64 cpu, .int .i64 order, .int .i64 t, .int .i64 flags] w (Res (h.attempt cpu order t (decide (flags / 8 % 2 = 1)) (decide (flags % 2 = 1))) G X h c w) := by
 obtain ⟨K4, F4, hsz, hbw⟩ := boxes1 w #[.int .i64 1, .int .i64 0] 3
 have HS0 := gO (hs.new hbw)
 have HSF0 := gO (Safe.fP (X := X) hbw)
 have HO0 := gO (ho.below hbw)
 have HK := gO hk
 have KZ := gO K4
 have HXW := gO hs.r.xs
 obtain ⟨hb8, hb1⟩ := FP flags hf
 have HA := gO (Bh h cpu order t (decide (flags / 8 % 2 = 1)) (decide (flags % 2 = 1)))
 clear hs hk hbw ho K4 F4
 by_cases hlo : flags % 2 = 1
 ·rw [if_pos hlo] at hb1
  have HA2 : Hid (h.attempt cpu order t (decide (flags / 8 % 2 = 1)) (decide (flags % 2 = 1)) = h.tries cpu order t (decide (flags / 8 % 2 = 1)) (decide (flags % 2 = 1)) 1) := by
   unfold Hid
   rw [HA.out]
   congr 1
   simp [hlo]
  go_enter Tryz.func107, Tryz.ntmps107
  go_wp2_with fail
  generalize w.alloc (.cells #[.int .i64 1, .int .i64 0] 3) = w1 at *
  go_loopw [25] (fun s25 wr => ∃ i : Nat, i ≤ 1 ∧ s25 = .int .i64 (i : Int) ∧ Hid (HS wr G (fun k => X k ∨ (w.heap.size ≤ k ∧ k < w1.heap.size)) h c) ∧ Hid (Safe (fun k => X k ∨ (w.heap.size ≤ k ∧ k < w1.heap.size)) w1 wr) ∧ Hid (h.attempt cpu order t (decide (flags / 8 % 2 = 1)) (decide (flags % 2 = 1)) = h.tries cpu order t (decide (flags / 8 % 2 = 1)) (decide (flags % 2 = 1)) (1 - i))) (fun s25 _ => 1 - (intOf s25).toNat)
  case atStart => exact ⟨0, by omega, rfl, HS0, Safe.refl _ _, HA2⟩
  case round =>
   obtain ⟨i, hi, rfl, jG, wZ, Yr⟩ := hrel
   clear HA HA2
   have HOr := gO (HO0.out.safe wZ.out (Or.inl hx0))
   have Xr := wZ.out.box KZ.out hsz (show (fun k => X k ∨ (w.heap.size ≤ k ∧ k < w1.heap.size)) w.heap.size from .inr ⟨Nat.le_refl _, hsz⟩)
   have z0 := Xr 0
   have z1 := Xr 1
   simp only [gB, gC, gD] at z0 z1
   clear Xr
   obtain rfl | rfl : i = 0 ∨ i = 1 := by omega
   ·skip
    have Lh : Hid (h.attempt cpu order t (decide (flags / 8 % 2 = 1)) (decide (flags % 2 = 1)) = match h.ask cpu 0 order t (decide (flags / 8 % 2 = 1)) (decide (flags % 2 = 1)) with
     | some x => some x
     | none => h.tries cpu order t (decide (flags / 8 % 2 = 1)) (decide (flags % 2 = 1)) 0) := Yr.out
    by_cases h0 : order = 0
    ·have d0 : ((order : Int) == 0) = true := by rw [beq_iff_eq]; omega
     have H0 := gO h0
     clear h0
     go_wp2_with fail
     refine (xC G cpu 0 t flags (fun k => X k ∨ (w.heap.size ≤ k ∧ k < w1.heap.size)) h c wr jG.out HK.out hc (by omega) ht hf HOr.out (Or.inl hx0)).mono ?_
     rintro ev w4 (⟨hno, rfl, hs', qK⟩ | ⟨h', a, c', hso, rfl, hs', qK⟩)
     ·have HN : Hid (h.ask cpu 0 order t (decide (flags / 8 % 2 = 1)) (decide (flags % 2 = 1)) = none) := by
       unfold Hid Hp.ask
       rw [if_pos H0.out]
       exact hno
      have HRT2 : Hid (h.attempt cpu order t (decide (flags / 8 % 2 = 1)) (decide (flags % 2 = 1)) = h.tries cpu order t (decide (flags / 8 % 2 = 1)) (decide (flags % 2 = 1)) (1 - 1)) := by
       unfold Hid
       rw [Lh.out, HN.out]
      have HS4 := gO hs'
      have SF4 := gO (wZ.out.trans qK)
      clear hno hs' qK
      go_wp2
      go_roundw
      case rel => exact ⟨1, by omega, by go_num, HS4, SF4, HRT2⟩
      case measure => simp [intOf]
     ·have HN : Hid (h.attempt cpu order t (decide (flags / 8 % 2 = 1)) (decide (flags % 2 = 1)) = some (h', a)) := by
       have e : h.ask cpu 0 order t (decide (flags / 8 % 2 = 1)) (decide (flags % 2 = 1)) = some (h', a) := by
        unfold Hp.ask
        rw [if_pos H0.out]
        exact hso
       unfold Hid
       rw [Lh.out, e]
      have HS4 := gO (hs'.sub (Y := X) fun k hk => .inl hk)
      have SF4 := gO (HSF0.out.trans ((wZ.out.trans qK).sub fun k _ hk => .inl hk))
      clear hso hs' qK
      go_wp2
      go_ret2
      exact .inr ⟨h', a, c', HN.out, rfl, HS4.out, SF4.out⟩
    ·have d0 : ((order : Int) == 0) = false := by rw [beq_eq_false_iff_ne]; omega
     have H0 := gO h0
     clear h0
     go_wp2_with fail
     refine (vM G 0 order t flags (fun k => X k ∨ (w.heap.size ≤ k ∧ k < w1.heap.size)) h c wr jG.out HK.out (by omega) hor ht hf HOr.out).mono ?_
     rintro ev w4 (⟨hno, rfl, hs', qK⟩ | ⟨h', a, y0', y1', hso, rfl, hs', qK⟩)
     ·have HN : Hid (h.ask cpu 0 order t (decide (flags / 8 % 2 = 1)) (decide (flags % 2 = 1)) = none) := by
       unfold Hid Hp.ask
       rw [if_neg H0.out]
       exact hno
      have HRT2 : Hid (h.attempt cpu order t (decide (flags / 8 % 2 = 1)) (decide (flags % 2 = 1)) = h.tries cpu order t (decide (flags / 8 % 2 = 1)) (decide (flags % 2 = 1)) (1 - 1)) := by
       unfold Hid
       rw [Lh.out, HN.out]
      have HS4 := gO hs'
      have SF4 := gO (wZ.out.trans qK)
      clear hno hs' qK
      go_wp2
      go_roundw
      case rel => exact ⟨1, by omega, by go_num, HS4, SF4, HRT2⟩
      case measure => simp [intOf]
     ·have HN : Hid (h.attempt cpu order t (decide (flags / 8 % 2 = 1)) (decide (flags % 2 = 1)) = some (h', a)) := by
       have e : h.ask cpu 0 order t (decide (flags / 8 % 2 = 1)) (decide (flags % 2 = 1)) = some (h', a) := by
        unfold Hp.ask
        rw [if_neg H0.out]
        exact hso
       unfold Hid
       rw [Lh.out, e]
      have HS4 := gO (hs'.sub (Y := X) fun k hk => .inl hk)
      have SF4 := gO (HSF0.out.trans ((wZ.out.trans qK).sub fun k _ hk => .inl hk))
      clear hso hs' qK
      go_wp2
      go_ret2
      exact .inr ⟨h', a, _, HN.out, rfl, HS4.out, SF4.out⟩
   ·have HS4 := gO (jG.out.sub (Y := X) fun k hk => .inl hk)
    have SF4 := gO (HSF0.out.trans (wZ.out.sub fun k _ hk => .inl hk))
    go_wp2
    go_ret2
    exact .inl ⟨Yr.out, rfl, HS4.out, SF4.out⟩
 ·rw [if_neg hlo] at hb1
  have HA2 : Hid (h.attempt cpu order t (decide (flags / 8 % 2 = 1)) (decide (flags % 2 = 1)) = h.tries cpu order t (decide (flags / 8 % 2 = 1)) (decide (flags % 2 = 1)) 2) := by
   unfold Hid
   rw [HA.out]
   congr 1
   simp [hlo]
  go_enter Tryz.func107, Tryz.ntmps107
  go_wp2_with fail
  generalize w.alloc (.cells #[.int .i64 1, .int .i64 0] 3) = w1 at *
  go_loopw [25] (fun s25 wr => ∃ i : Nat, i ≤ 2 ∧ s25 = .int .i64 (i : Int) ∧ Hid (HS wr G (fun k => X k ∨ (w.heap.size ≤ k ∧ k < w1.heap.size)) h c) ∧ Hid (Safe (fun k => X k ∨ (w.heap.size ≤ k ∧ k < w1.heap.size)) w1 wr) ∧ Hid (h.attempt cpu order t (decide (flags / 8 % 2 = 1)) (decide (flags % 2 = 1)) = h.tries cpu order t (decide (flags / 8 % 2 = 1)) (decide (flags % 2 = 1)) (2 - i))) (fun s25 _ => 2 - (intOf s25).toNat)
  case atStart => exact ⟨0, by omega, rfl, HS0, Safe.refl _ _, HA2⟩
  case round =>
   obtain ⟨i, hi, rfl, jG, wZ, Yr⟩ := hrel
   clear HA HA2
   have HOr := gO (HO0.out.safe wZ.out (Or.inl hx0))
   have Xr := wZ.out.box KZ.out hsz (show (fun k => X k ∨ (w.heap.size ≤ k ∧ k < w1.heap.size)) w.heap.size from .inr ⟨Nat.le_refl _, hsz⟩)
   have z0 := Xr 0
   have z1 := Xr 1
   simp only [gB, gC, gD] at z0 z1
   clear Xr
   obtain rfl | rfl | rfl : i = 0 ∨ i = 1 ∨ i = 2 := by omega
   ·skip
    have Lh : Hid (h.attempt cpu order t (decide (flags / 8 % 2 = 1)) (decide (flags % 2 = 1)) = match h.ask cpu 1 order t (decide (flags / 8 % 2 = 1)) (decide (flags % 2 = 1)) with
     | some x => some x
     | none => h.tries cpu order t (decide (flags / 8 % 2 = 1)) (decide (flags % 2 = 1)) 1) := Yr.out
    by_cases h0 : order = 0
    ·have d0 : ((order : Int) == 0) = true := by rw [beq_iff_eq]; omega
     have H0 := gO h0
     clear h0
     go_wp2_with fail
     refine (xC G cpu 1 t flags (fun k => X k ∨ (w.heap.size ≤ k ∧ k < w1.heap.size)) h c wr jG.out HK.out hc (by omega) ht hf HOr.out (Or.inl hx0)).mono ?_
     rintro ev w4 (⟨hno, rfl, hs', qK⟩ | ⟨h', a, c', hso, rfl, hs', qK⟩)
     ·have HN : Hid (h.ask cpu 1 order t (decide (flags / 8 % 2 = 1)) (decide (flags % 2 = 1)) = none) := by
       unfold Hid Hp.ask
       rw [if_pos H0.out]
       exact hno
      have HRT2 : Hid (h.attempt cpu order t (decide (flags / 8 % 2 = 1)) (decide (flags % 2 = 1)) = h.tries cpu order t (decide (flags / 8 % 2 = 1)) (decide (flags % 2 = 1)) (2 - 1)) := by
       unfold Hid
       rw [Lh.out, HN.out]
      have HS4 := gO hs'
      have SF4 := gO (wZ.out.trans qK)
      clear hno hs' qK
      go_wp2
      go_roundw
      case rel => exact ⟨1, by omega, by go_num, HS4, SF4, HRT2⟩
      case measure => simp [intOf]
     ·have HN : Hid (h.attempt cpu order t (decide (flags / 8 % 2 = 1)) (decide (flags % 2 = 1)) = some (h', a)) := by
       have e : h.ask cpu 1 order t (decide (flags / 8 % 2 = 1)) (decide (flags % 2 = 1)) = some (h', a) := by
        unfold Hp.ask
        rw [if_pos H0.out]
        exact hso
       unfold Hid
       rw [Lh.out, e]
      have HS4 := gO (hs'.sub (Y := X) fun k hk => .inl hk)
      have SF4 := gO (HSF0.out.trans ((wZ.out.trans qK).sub fun k _ hk => .inl hk))
      clear hso hs' qK
      go_wp2
      go_ret2
      exact .inr ⟨h', a, c', HN.out, rfl, HS4.out, SF4.out⟩
    ·have d0 : ((order : Int) == 0) = false := by rw [beq_eq_false_iff_ne]; omega
     have H0 := gO h0
     clear h0
     go_wp2_with fail
     refine (vM G 1 order t flags (fun k => X k ∨ (w.heap.size ≤ k ∧ k < w1.heap.size)) h c wr jG.out HK.out (by omega) hor ht hf HOr.out).mono ?_
     rintro ev w4 (⟨hno, rfl, hs', qK⟩ | ⟨h', a, y0', y1', hso, rfl, hs', qK⟩)
     ·have HN : Hid (h.ask cpu 1 order t (decide (flags / 8 % 2 = 1)) (decide (flags % 2 = 1)) = none) := by
       unfold Hid Hp.ask
       rw [if_neg H0.out]
       exact hno
      have HRT2 : Hid (h.attempt cpu order t (decide (flags / 8 % 2 = 1)) (decide (flags % 2 = 1)) = h.tries cpu order t (decide (flags / 8 % 2 = 1)) (decide (flags % 2 = 1)) (2 - 1)) := by
       unfold Hid
       rw [Lh.out, HN.out]
      have HS4 := gO hs'
      have SF4 := gO (wZ.out.trans qK)
      clear hno hs' qK
      go_wp2
      go_roundw
      case rel => exact ⟨1, by omega, by go_num, HS4, SF4, HRT2⟩
      case measure => simp [intOf]
     ·have HN : Hid (h.attempt cpu order t (decide (flags / 8 % 2 = 1)) (decide (flags % 2 = 1)) = some (h', a)) := by
       have e : h.ask cpu 1 order t (decide (flags / 8 % 2 = 1)) (decide (flags % 2 = 1)) = some (h', a) := by
        unfold Hp.ask
        rw [if_neg H0.out]
        exact hso
       unfold Hid
       rw [Lh.out, e]
      have HS4 := gO (hs'.sub (Y := X) fun k hk => .inl hk)
      have SF4 := gO (HSF0.out.trans ((wZ.out.trans qK).sub fun k _ hk => .inl hk))
      clear hso hs' qK
      go_wp2
      go_ret2
      exact .inr ⟨h', a, _, HN.out, rfl, HS4.out, SF4.out⟩
   ·skip
    have Lh : Hid (h.attempt cpu order t (decide (flags / 8 % 2 = 1)) (decide (flags % 2 = 1)) = match h.ask cpu 0 order t (decide (flags / 8 % 2 = 1)) (decide (flags % 2 = 1)) with
     | some x => some x
     | none => h.tries cpu order t (decide (flags / 8 % 2 = 1)) (decide (flags % 2 = 1)) 0) := Yr.out
    by_cases h0 : order = 0
    ·have d0 : ((order : Int) == 0) = true := by rw [beq_iff_eq]; omega
     have H0 := gO h0
     clear h0
     go_wp2_with fail
     refine (xC G cpu 0 t flags (fun k => X k ∨ (w.heap.size ≤ k ∧ k < w1.heap.size)) h c wr jG.out HK.out hc (by omega) ht hf HOr.out (Or.inl hx0)).mono ?_
     rintro ev w4 (⟨hno, rfl, hs', qK⟩ | ⟨h', a, c', hso, rfl, hs', qK⟩)
     ·have HN : Hid (h.ask cpu 0 order t (decide (flags / 8 % 2 = 1)) (decide (flags % 2 = 1)) = none) := by
       unfold Hid Hp.ask
       rw [if_pos H0.out]
       exact hno
      have HRT2 : Hid (h.attempt cpu order t (decide (flags / 8 % 2 = 1)) (decide (flags % 2 = 1)) = h.tries cpu order t (decide (flags / 8 % 2 = 1)) (decide (flags % 2 = 1)) (2 - 2)) := by
       unfold Hid
       rw [Lh.out, HN.out]
      have HS4 := gO hs'
      have SF4 := gO (wZ.out.trans qK)
      clear hno hs' qK
      go_wp2
      go_roundw
      case rel => exact ⟨2, by omega, by go_num, HS4, SF4, HRT2⟩
      case measure => simp [intOf]
     ·have HN : Hid (h.attempt cpu order t (decide (flags / 8 % 2 = 1)) (decide (flags % 2 = 1)) = some (h', a)) := by
       have e : h.ask cpu 0 order t (decide (flags / 8 % 2 = 1)) (decide (flags % 2 = 1)) = some (h', a) := by
        unfold Hp.ask
        rw [if_pos H0.out]
        exact hso
       unfold Hid
       rw [Lh.out, e]
      have HS4 := gO (hs'.sub (Y := X) fun k hk => .inl hk)
      have SF4 := gO (HSF0.out.trans ((wZ.out.trans qK).sub fun k _ hk => .inl hk))
      clear hso hs' qK
      go_wp2
      go_ret2
      exact .inr ⟨h', a, c', HN.out, rfl, HS4.out, SF4.out⟩
    ·have d0 : ((order : Int) == 0) = false := by rw [beq_eq_false_iff_ne]; omega
     have H0 := gO h0
     clear h0
     go_wp2_with fail
     refine (vM G 0 order t flags (fun k => X k ∨ (w.heap.size ≤ k ∧ k < w1.heap.size)) h c wr jG.out HK.out (by omega) hor ht hf HOr.out).mono ?_
     rintro ev w4 (⟨hno, rfl, hs', qK⟩ | ⟨h', a, y0', y1', hso, rfl, hs', qK⟩)
     ·have HN : Hid (h.ask cpu 0 order t (decide (flags / 8 % 2 = 1)) (decide (flags % 2 = 1)) = none) := by
       unfold Hid Hp.ask
       rw [if_neg H0.out]
       exact hno
      have HRT2 : Hid (h.attempt cpu order t (decide (flags / 8 % 2 = 1)) (decide (flags % 2 = 1)) = h.tries cpu order t (decide (flags / 8 % 2 = 1)) (decide (flags % 2 = 1)) (2 - 2)) := by
       unfold Hid
       rw [Lh.out, HN.out]
      have HS4 := gO hs'
      have SF4 := gO (wZ.out.trans qK)
      clear hno hs' qK
      go_wp2
      go_roundw
      case rel => exact ⟨2, by omega, by go_num, HS4, SF4, HRT2⟩
      case measure => simp [intOf]
     ·have HN : Hid (h.attempt cpu order t (decide (flags / 8 % 2 = 1)) (decide (flags % 2 = 1)) = some (h', a)) := by
       have e : h.ask cpu 0 order t (decide (flags / 8 % 2 = 1)) (decide (flags % 2 = 1)) = some (h', a) := by
        unfold Hp.ask
        rw [if_neg H0.out]
        exact hso
       unfold Hid
       rw [Lh.out, e]
      have HS4 := gO (hs'.sub (Y := X) fun k hk => .inl hk)
      have SF4 := gO (HSF0.out.trans ((wZ.out.trans qK).sub fun k _ hk => .inl hk))
      clear hso hs' qK
      go_wp2
      go_ret2
      exact .inr ⟨h', a, _, HN.out, rfl, HS4.out, SF4.out⟩
   ·have HS4 := gO (jG.out.sub (Y := X) fun k hk => .inl hk)
    have SF4 := gO (HSF0.out.trans (wZ.out.sub fun k _ hk => .inl hk))
    go_wp2
    go_ret2
    exact .inl ⟨Yr.out, rfl, HS4.out, SF4.out⟩
end
section
open Go.RowKit

theorem QB (flags : Nat) : uZ flags < 3 := by unfold uZ; split <;> (try split) <;> omega

set_option maxHeartbeats 8000000 in
set_option maxRecDepth 100000 in
theorem NR (az am al av : Option Addr) (cz cm cl cv nl nv : Nat) (y0 y1 : Zc) (lc : List Lc) (h : Hp) (cpu order flags : Nat) (w : World) (hh : HAt w az am al av nl nv y0 y1 lc h) (hk : dW h) (hnl : nl ≤ 1000) (Oy : nv ≤ 1000) (hc : cpu < h.aF) (hor : order ≤ 4) (hf : flags ≤ 15) (hff : ¬ (flags / 2 % 2 = 1 ∧ flags / 4 % 2 = 1)) (ho : yK w) :
  Calls Tryz.prog 61 #[.agg #[.slice az 2 cz, .slice am 2 cm, .int .i64 h.aF, .slice al nl cl, .slice av nv cv], .int .i64 cpu, .int .i64 order, .int .i64 flags] w fun ev w' => Below w.heap.size w w' ∧ ((h.alloc cpu order (uZ flags) (decide (flags / 8 % 2 = 1)) (decide (flags % 2 = 1)) = none ∧ ev = .returned (.tuple #[.agg #[.slice none 0 0, .slice none 0 0, .int .i64 0, .slice none 0 0, .slice none 0 0], .int .i64 0, .int .i64 6])) ∨ (∃ (h' : Hp) (a : Nat) (c' : Hc), h.alloc cpu order (uZ flags) (decide (flags / 8 % 2 = 1)) (decide (flags % 2 = 1)) = some (h', a) ∧ ev = .returned (.tuple #[.agg (c'.vals h'), .int .i64 (a : Nat), .int .i64 0]) ∧ lK w' w.heap.size h' c')) := by
 obtain ⟨K1, K2, F1, F2, hsz, hbw⟩ := boxes2 w #[.slice az 2 cz, .slice am 2 cm, .int .i64 (h.aF : Int), .slice al nl cl, .slice av nv cv] 44 #[.slice none 0 0, .slice none 0 0, .int .i64 0, .slice none 0 0, .slice none 0 0] 44
 have HH := gO (hh.below hbw)
 have HK := gO hk
 have HB1 := gO hbw
 have HO := gO ho
 have HLV : Hid (h.live.length ≤ 1000) := by unfold Hid; rw [hh.nv]; exact Oy
 have h0w := ho.sz
 have k10 := K1 0
 have k11 := K1 1
 have k12 := K1 2
 have k13 := K1 3
 have k14 := K1 4
 simp only [gB, gC, gD] at k10 k11 k12 k13 k14
 clear hh hk hbw ho
 go_enter Tryz.func61, Tryz.ntmps61
 go_wp2_with fail
 generalize (w.alloc (.cells #[.slice az 2 cz, .slice am 2 cm, .int .i64 (h.aF : Int), .slice al nl cl, .slice av nv cv] 44)).alloc (.cells #[.slice none 0 0, .slice none 0 0, .int .i64 0, .slice none 0 0, .slice none 0 0] 44) = w1 at *
 refine (wU _ _ _ _ _ _ _ _ _ _ _ _ _ h w1 HH.out HK.out hnl Oy).mono ?_
 rintro ev w2 ⟨rfl, hb2⟩
 have Js := aC K1 (by omega) hb2
 have F1a := aJ F1 (by omega) hb2
 have K2a := aC K2 hsz hb2
 have F2a := aJ F2 hsz hb2
 have HH2 := gO (HH.out.below hb2)
 have HB2 := gO (Below.trans HB1.out (hb2.mono HB1.out.size))
 have hsz2 : w.heap.size + 1 < w2.heap.size := gI hsz hb2.size
 clear k10 k11 k12 k13 k14 hb2 K1 F1 K2 F2
 have k10 := Js 0
 have k11 := Js 1
 have k12 := Js 2
 have k13 := Js 3
 have k14 := Js 4
 simp only [gB, gC, gD] at k10 k11 k12 k13 k14
 have d1 : decide ((cpu : Int) < 0) = false := decide_eq_false (by omega)
 have d2 : decide (h.aF ≤ cpu) = false := decide_eq_false (by omega)
 have d3 : decide ((order : Int) < 0) = false := decide_eq_false (by omega)
 have d4 : decide ((4 : Int) < order) = false := decide_eq_false (by omega)
 go_wp2_with fail
 refine (MZ flags w2 hf hff).mono ?_
 rintro ev _ ⟨rfl, rfl⟩
 go_wp2_with fail
 refine (zV _ _ _ _ _ _ _ _ _ _ _ _ _ h w2 HH2.out HK.out Oy).mono ?_
 rintro ev w3 ⟨g, c, rfl, hs3, hg3, hb3⟩
 have BQ := aC Js (by omega) hb3
 have Jt := aJ F1a (by omega) hb3
 have K2b := gO (aC K2a hsz2 hb3)
 have F2b := gO (aJ F2a hsz2 hb3)
 have HS4 := gO (hs3.move (B := w.heap.size) (show w.heap.size < w2.heap.size by omega) BQ Jt)
 have HB3 := gO (Below.trans HB2.out (hb3.mono HB2.out.size))
 clear k10 k11 k12 k13 k14 Js F1a K2a F2a hs3 HH HH2 hg3
 have k10 := BQ 0
 have k11 := BQ 1
 have k12 := BQ 2
 have k13 := BQ 3
 have k14 := BQ 4
 have f10 := Jt 0
 have f11 := Jt 1
 have f12 := Jt 2
 have f13 := Jt 3
 have f14 := Jt 4
 simp only [gB, gC, gD] at k10 k11 k12 k13 k14
 unfold Hc.vals
 go_wp2_with fail
 have Ju : Hid (HS (((((w3.setCell ⟨w.heap.size, 0, none⟩ (.slice c.az 2 c.cz)).setCell ⟨w.heap.size, 1, none⟩ (.slice c.am 2 c.cm)).setCell ⟨w.heap.size, 2, none⟩ (.int .i64 (h.aF : Int))).setCell ⟨w.heap.size, 3, none⟩ (.slice c.al c.lc.length c.cl)).setCell ⟨w.heap.size, 4, none⟩ (.slice c.av h.live.length c.cv)) w.heap.size (fun k => k < w2.heap.size ∧ k ≠ w.heap.size) h c) := HS4
 have hne1 : w.heap.size + 1 ≠ w.heap.size := by omega
 have Xt := gO (aA (aA (aA (aA (aA K2b.out hne1 0 (.slice c.az 2 c.cz)) hne1 1 (.slice c.am 2 c.cm)) hne1 2 (.int .i64 (h.aF : Int))) hne1 3 (.slice c.al c.lc.length c.cl)) hne1 4 (.slice c.av h.live.length c.cv))
 have Xu := gO (aH (aH (aH (aH (aH F2b.out ⟨w.heap.size, 0, none⟩ (.slice c.az 2 c.cz)) ⟨w.heap.size, 1, none⟩ (.slice c.am 2 c.cm)) ⟨w.heap.size, 2, none⟩ (.int .i64 (h.aF : Int))) ⟨w.heap.size, 3, none⟩ (.slice c.al c.lc.length c.cl)) ⟨w.heap.size, 4, none⟩ (.slice c.av h.live.length c.cv))
 have hle0 : w.heap.size ≤ w.heap.size := Nat.le_refl _
 have HB4 := gO (Below.setCell (Below.setCell (Below.setCell (Below.setCell (Below.setCell HB3.out (show w.heap.size ≤ (⟨w.heap.size, 0, none⟩ : Addr).block from hle0) (.slice c.az 2 c.cz)) (show w.heap.size ≤ (⟨w.heap.size, 1, none⟩ : Addr).block from hle0) (.slice c.am 2 c.cm)) (show w.heap.size ≤ (⟨w.heap.size, 2, none⟩ : Addr).block from hle0) (.int .i64 (h.aF : Int))) (show w.heap.size ≤ (⟨w.heap.size, 3, none⟩ : Addr).block from hle0) (.slice c.al c.lc.length c.cl)) (show w.heap.size ≤ (⟨w.heap.size, 4, none⟩ : Addr).block from hle0) (.slice c.av h.live.length c.cv))
 have oH : w.heap.size + 1 < (((((w3.setCell ⟨w.heap.size, 0, none⟩ (.slice c.az 2 c.cz)).setCell ⟨w.heap.size, 1, none⟩ (.slice c.am 2 c.cm)).setCell ⟨w.heap.size, 2, none⟩ (.int .i64 (h.aF : Int))).setCell ⟨w.heap.size, 3, none⟩ (.slice c.al c.lc.length c.cl)).setCell ⟨w.heap.size, 4, none⟩ (.slice c.av h.live.length c.cv)).heap.size := by have := hb3.size; simp; omega
 clear k10 k11 k12 k13 k14 f10 f11 f12 f13 f14 BQ Jt K2b F2b HS4 hb3 HB3
 generalize (((((w3.setCell ⟨w.heap.size, 0, none⟩ (.slice c.az 2 c.cz)).setCell ⟨w.heap.size, 1, none⟩ (.slice c.am 2 c.cm)).setCell ⟨w.heap.size, 2, none⟩ (.int .i64 (h.aF : Int))).setCell ⟨w.heap.size, 3, none⟩ (.slice c.al c.lc.length c.cl)).setCell ⟨w.heap.size, 4, none⟩ (.slice c.av h.live.length c.cv)) = w4 at *
 have hX1 : (fun k => k < w2.heap.size ∧ k ≠ w.heap.size) (w.heap.size + 1) := ⟨hsz2, hne1⟩
 have ht3 := QB flags
 obtain ⟨t, ht⟩ : ∃ t, uZ flags = t := ⟨_, rfl⟩
 rw [ht] at ht3 ⊢
 have HTT := gO ht
 clear ht
 have hX0 : (fun k => k < w2.heap.size ∧ k ≠ w.heap.size) 1 := ⟨by omega, by omega⟩
 have HO4 : Hid (yK w4) := HO.out.mono HB4.out (Nat.le_refl _)
 refine (Af w.heap.size cpu order t flags (fun k => k < w2.heap.size ∧ k ≠ w.heap.size) h c w4 Ju.out HK.out hc hor ht3 hf HO4.out hX0).mono ?_
 rintro ev w5 (⟨hno, rfl, hs5, sf5⟩ | ⟨h', a, c5, hso, rfl, hs5, sf5⟩)
 ·have HN1 := gO hno
  have HS5 := gO hs5
  have SF5 := gO sf5
  clear hno hs5 sf5
  obtain ⟨hkd, _, hsd, hld, hvd⟩ := HK.out.drain
  have HKD := gO hkd
  have hcd : cpu < h.drain.aF := by rw [hsd.aF]; exact hc
  have HVD := gO hvd
  clear hkd hsd hld hvd
  go_wp2_with fail
  refine (Qj w.heap.size (fun k => k < w2.heap.size ∧ k ≠ w.heap.size) h c w5 HS5.out HK.out).mono ?_
  rintro ev w6 ⟨rfl, ⟨c6, hs6⟩, sf6⟩
  have HS6 := gO hs6
  have SF6 := gO (SF5.out.trans sf6)
  clear hs6 sf6 HS5 SF5
  have HO6 : Hid (yK w6) := HO4.out.safe SF6.out hX0
  go_wp2_with fail
  refine (Af w.heap.size cpu order t flags (fun k => k < w2.heap.size ∧ k ≠ w.heap.size) h.drain c6 w6 HS6.out HKD.out hcd hor ht3 hf HO6.out hX0).mono ?_
  rintro ev w7 (⟨hno, rfl, hs7, sf7⟩ | ⟨h', a, c5, hso, rfl, hs7, sf7⟩)
  ·have HN2 := gO hno
   have SF9 := gO (SF6.out.trans sf7)
   have K9 := SF9.out.box Xt.out oH hX1
   have F9 := SF9.out.Pg Xu.out oH hX1
   have HB9 := gO (Safe.after HB4.out SF9.out (B := w.heap.size) (fun k hk => ⟨by omega, by omega⟩) (by omega))
   have hle1 : w.heap.size ≤ w.heap.size + 1 := Nat.le_succ _
   have lI := gO (Below.setCell (Below.setCell (Below.setCell (Below.setCell (Below.setCell HB9.out (show w.heap.size ≤ (⟨w.heap.size + 1, 0, none⟩ : Addr).block from hle1) (.slice none 0 0)) (show w.heap.size ≤ (⟨w.heap.size + 1, 1, none⟩ : Addr).block from hle1) (.slice none 0 0)) (show w.heap.size ≤ (⟨w.heap.size + 1, 2, none⟩ : Addr).block from hle1) (.int .i64 0)) (show w.heap.size ≤ (⟨w.heap.size + 1, 3, none⟩ : Addr).block from hle1) (.slice none 0 0)) (show w.heap.size ≤ (⟨w.heap.size + 1, 4, none⟩ : Addr).block from hle1) (.slice none 0 0))
   have KX := (aG (aG (aG (aG (aG K9 0 (.slice none 0 0)) 1 (.slice none 0 0)) 2 (.int .i64 0)) 3 (.slice none 0 0)) 4 (.slice none 0 0))
   have k10 := K9 0
   have k11 := K9 1
   have k12 := K9 2
   have k13 := K9 3
   have k14 := K9 4
   have f10 := F9 0
   have f11 := F9 1
   have f12 := F9 2
   have f13 := F9 3
   have f14 := F9 4
   simp only [gB, gC, gD] at k10 k11 k12 k13 k14
   have HAN : Hid (h.alloc cpu order t (decide (flags / 8 % 2 = 1)) (decide (flags % 2 = 1)) = none) := by
    unfold Hid Hp.alloc
    rw [HN1.out]
    simp only
    rw [HN2.out]
   clear hno hs7 sf7
   go_wp2
   generalize (((((w7.setCell ⟨w.heap.size + 1, 0, none⟩ (.slice none 0 0)).setCell ⟨w.heap.size + 1, 1, none⟩ (.slice none 0 0)).setCell ⟨w.heap.size + 1, 2, none⟩ (.int .i64 0)).setCell ⟨w.heap.size + 1, 3, none⟩ (.slice none 0 0)).setCell ⟨w.heap.size + 1, 4, none⟩ (.slice none 0 0)) = wx at *
   change ∀ o, wx.cell? ⟨w.heap.size + 1, o, none⟩ = (#[.slice none 0 0, .slice none 0 0, .int .i64 0, .slice none 0 0, .slice none 0 0] : Array Value)[o]? at KX
   refine bodyPost_ret (v := .tuple #[.agg #[.slice none 0 0, .slice none 0 0, .int .i64 0, .slice none 0 0, .slice none 0 0], .int .i64 0, .int .i64 6]) (by simp [results, Tryz.results61, go_sem, KX]) rfl ⟨lI.out, .inl ⟨by rw [HTT.out]; exact HAN.out, rfl⟩⟩
  ·have hT := HKD.out.attempt hcd hor ht3 hso
   have HT := gO hT
   have HS5 := gO hs7
   have SF5 := gO (SF6.out.trans sf7)
   have Yt : Hid (h'.live.length ≤ 1000) := by unfold Hid; rw [hT.live, HVD.out]; exact HLV.out
   have EK : Hid (h.alloc cpu order t (decide (flags / 8 % 2 = 1)) (decide (flags % 2 = 1)) = some ({ h' with live := bG h'.live ⟨a, order, t⟩ }, a)) := by
    unfold Hid Hp.alloc
    rw [HN1.out]
    simp only
    rw [hso]
   clear hs7 sf7 hso hT HS6 SF6
   have QC : h'.live.length ≤ 1000 := Yt.out
   have ha5 : a ≤ 1000 := by have := HT.out.fit.2.2.1; omega
   obtain ⟨q0, q1, q2, q3, q4⟩ := HS5.out.words
   have hB5 : w.heap.size < w7.heap.size := HS5.out.r.gs
   go_wp2_with fail
   refine (DX _ _ _ _ _ _ _ _ _ _ _ _ _ h' a w7 HS5.out.r.at HT.out.ok QC ha5).mono ?_
   rintro ev Uf ⟨rfl, hb7⟩
   have HS6 := gO (HS5.out.below hb7)
   have SF6 := gO (SF5.out.then hb7)
   clear q0 q1 q2 q3 q4 hB5 hb7
   obtain ⟨q0, q1, q2, q3, q4⟩ := HS6.out.words
   have aC8 : w.heap.size < Uf.heap.size := HS6.out.r.gs
   obtain ⟨I, hI⟩ : ∃ I, lb h'.live a = I := ⟨_, rfl⟩
   have Ny : I ≤ h'.live.length := by rw [← hI]; exact jZ _ _
   have HI := gO hI
   rw [hI]
   clear hI
   have HS7 := gO (HS6.out.below (aB Uf (.cells #[.int .i64 (a : Int), .int .i64 (order : Int), .int .i64 (t : Int)] 63)))
   have SF7 := gO (SF6.out.then (aB Uf (.cells #[.int .i64 (a : Int), .int .i64 (order : Int), .int .i64 (t : Int)] 63)))
   have SE : Hid ((Uf.alloc (.cells #[.int .i64 (a : Int), .int .i64 (order : Int), .int .i64 (t : Int)] 63)).heap[Uf.heap.size]? = some (.cells #[.int .i64 (a : Int), .int .i64 (order : Int), .int .i64 (t : Int)] 63 (0, 0))) := heap_alloc_new Uf _
   have SG : Hid (some Uf.heap.size ≠ Value.ownBlock (.slice c5.av h'.live.length c5.cv)) := fun e => by
    have := (HS6.out.r.own.lt _ (iQ c5 h') _ e.symm).2
    omega
   go_wp2_with fail
   generalize Uf.alloc (.cells #[.int .i64 (a : Int), .int .i64 (order : Int), .int .i64 (t : Int)] 63) = w8 at *
   refine (Ag 0 c5.av h'.live.length c5.cv Uf.heap.size I h'.live ⟨a, order, t⟩ w8 HS7.out.r.lv Ny QC (Nat.zero_le _) SE.out SG.out).mono ?_
   rintro ev w9x ⟨oK, cv', rfl, ho8, hg8, hl8⟩
   have hput : h'.live.take I ++ ⟨a, order, t⟩ :: h'.live.drop I = bG h'.live ⟨a, order, t⟩ := by unfold bG; rw [HI.out]
   have hpl : (bG h'.live ⟨a, order, t⟩).length = h'.live.length + 1 := by rw [← hput]; simp; omega
   rw [hput] at ho8
   obtain ⟨hs9, sf9⟩ := HS7.out.away hg8 (oK := oK) (cv' := cv') (v' := bG h'.live ⟨a, order, t⟩) (by rw [hpl]; exact ho8) (by rw [hpl]; exact hl8)
   have hG7 : w.heap.size < w8.heap.size := HS7.out.r.gs
   have rO : Hid (some w.heap.size ≠ Value.ownBlock (.slice c5.av h'.live.length c5.cv)) := fun e => (HS7.out.r.og _ (iQ c5 h') _ e.symm).1 rfl
   have r4 := (bH HS7.out.k hG7 hg8 rO.out 4).trans (show _ = some (.slice c5.av h'.live.length c5.cv) from rfl)
   have g4 := bI HS7.out.fz hG7 hg8 rO.out 4
   rw [hpl] at hs9 sf9
   have HS9 := gO hs9
   have SF9 := gO (SF7.out.trans sf9)
   obtain ⟨p0, p1, p2, p3, p4⟩ := hs9.words
   rw [hpl] at p4
   have K9 := SF9.out.box Xt.out oH hX1
   have F9 := SF9.out.Pg Xu.out oH hX1
   have HB9 := gO (Safe.after HB4.out SF9.out (B := w.heap.size) (fun k hk => ⟨by omega, by omega⟩) (by omega))
   have hle1 : w.heap.size ≤ w.heap.size + 1 := Nat.le_succ _
   have qJ := gO (((((HS9.out.far hX1 0 (.slice c5.az 2 c5.cz)).far hX1 1 (.slice c5.am 2 c5.cm)).far hX1 2 (.int .i64 (h'.aF : Int))).far hX1 3 (.slice c5.al c5.lc.length c5.cl)).far hX1 4 (.slice oK (h'.live.length + 1) cv'))
   have lI := gO (Below.setCell (Below.setCell (Below.setCell (Below.setCell (Below.setCell HB9.out (show w.heap.size ≤ (⟨w.heap.size + 1, 0, none⟩ : Addr).block from hle1) (.slice c5.az 2 c5.cz)) (show w.heap.size ≤ (⟨w.heap.size + 1, 1, none⟩ : Addr).block from hle1) (.slice c5.am 2 c5.cm)) (show w.heap.size ≤ (⟨w.heap.size + 1, 2, none⟩ : Addr).block from hle1) (.int .i64 (h'.aF : Int))) (show w.heap.size ≤ (⟨w.heap.size + 1, 3, none⟩ : Addr).block from hle1) (.slice c5.al c5.lc.length c5.cl)) (show w.heap.size ≤ (⟨w.heap.size + 1, 4, none⟩ : Addr).block from hle1) (.slice oK (h'.live.length + 1) cv'))
   have KX := (aG (aG (aG (aG (aG K9 0 (.slice c5.az 2 c5.cz)) 1 (.slice c5.am 2 c5.cm)) 2 (.int .i64 (h'.aF : Int))) 3 (.slice c5.al c5.lc.length c5.cl)) 4 (.slice oK (h'.live.length + 1) cv'))
   have k10 := K9 0
   have k11 := K9 1
   have k12 := K9 2
   have k13 := K9 3
   have k14 := K9 4
   have f10 := F9 0
   have f11 := F9 1
   have f12 := F9 2
   have f13 := F9 3
   have f14 := F9 4
   simp only [gB, gC, gD] at k10 k11 k12 k13 k14
   have HPL := gO hpl
   clear hs9 sf9 ho8 hg8 hl8 HS9 SF9 HS7 SF7 hput hpl HB9
   go_wp2
   generalize ((((((w9x.setCell ⟨w.heap.size, 4, none⟩ (.slice oK (h'.live.length + 1) cv')).setCell ⟨w.heap.size + 1, 0, none⟩ (.slice c5.az 2 c5.cz)).setCell ⟨w.heap.size + 1, 1, none⟩ (.slice c5.am 2 c5.cm)).setCell ⟨w.heap.size + 1, 2, none⟩ (.int .i64 (h'.aF : Int))).setCell ⟨w.heap.size + 1, 3, none⟩ (.slice c5.al c5.lc.length c5.cl)).setCell ⟨w.heap.size + 1, 4, none⟩ (.slice oK (h'.live.length + 1) cv')) = wx at *
   change ∀ o, wx.cell? ⟨w.heap.size + 1, o, none⟩ = (#[.slice c5.az 2 c5.cz, .slice c5.am 2 c5.cm, .int .i64 (h'.aF : Int), .slice c5.al c5.lc.length c5.cl, .slice oK (h'.live.length + 1) cv'] : Array Value)[o]? at KX
   refine bodyPost_ret (v := .tuple #[.agg #[.slice c5.az 2 c5.cz, .slice c5.am 2 c5.cm, .int .i64 (h'.aF : Int), .slice c5.al c5.lc.length c5.cl, .slice oK (h'.live.length + 1) cv'], .int .i64 (a : Int), .int .i64 0]) (by simp [results, Tryz.results61, go_sem, KX]) rfl ⟨lI.out, .inr ⟨_, a, _, by rw [HTT.out]; exact EK.out, ?_, qJ.out.r.sub (fun k hk => ⟨by omega, by omega⟩)⟩⟩
   unfold Hc.vals
   simp only [HPL.out]
 ·have hT := HK.out.attempt hc hor ht3 hso
  have HT := gO hT
  have HS5 := gO hs5
  have SF5 := gO sf5
  have Yt : Hid (h'.live.length ≤ 1000) := by unfold Hid; rw [hT.live]; exact HLV.out
  have EK : Hid (h.alloc cpu order t (decide (flags / 8 % 2 = 1)) (decide (flags % 2 = 1)) = some ({ h' with live := bG h'.live ⟨a, order, t⟩ }, a)) := by
   unfold Hid Hp.alloc
   rw [hso]
  clear hs5 sf5 hso hT
  have QC : h'.live.length ≤ 1000 := Yt.out
  have ha5 : a ≤ 1000 := by have := HT.out.fit.2.2.1; omega
  obtain ⟨q0, q1, q2, q3, q4⟩ := HS5.out.words
  have hB5 : w.heap.size < w5.heap.size := HS5.out.r.gs
  go_wp2_with fail
  refine (DX _ _ _ _ _ _ _ _ _ _ _ _ _ h' a w5 HS5.out.r.at HT.out.ok QC ha5).mono ?_
  rintro ev w6 ⟨rfl, hb6⟩
  have HS6 := gO (HS5.out.below hb6)
  have SF6 := gO (SF5.out.then hb6)
  clear q0 q1 q2 q3 q4 hB5 hb6
  obtain ⟨q0, q1, q2, q3, q4⟩ := HS6.out.words
  have aC8 : w.heap.size < w6.heap.size := HS6.out.r.gs
  obtain ⟨I, hI⟩ : ∃ I, lb h'.live a = I := ⟨_, rfl⟩
  have Ny : I ≤ h'.live.length := by rw [← hI]; exact jZ _ _
  have HI := gO hI
  rw [hI]
  clear hI
  have HS7 := gO (HS6.out.below (aB w6 (.cells #[.int .i64 (a : Int), .int .i64 (order : Int), .int .i64 (t : Int)] 63)))
  have SF7 := gO (SF6.out.then (aB w6 (.cells #[.int .i64 (a : Int), .int .i64 (order : Int), .int .i64 (t : Int)] 63)))
  have SE : Hid ((w6.alloc (.cells #[.int .i64 (a : Int), .int .i64 (order : Int), .int .i64 (t : Int)] 63)).heap[w6.heap.size]? = some (.cells #[.int .i64 (a : Int), .int .i64 (order : Int), .int .i64 (t : Int)] 63 (0, 0))) := heap_alloc_new w6 _
  have SG : Hid (some w6.heap.size ≠ Value.ownBlock (.slice c5.av h'.live.length c5.cv)) := fun e => by
   have := (HS6.out.r.own.lt _ (iQ c5 h') _ e.symm).2
   omega
  go_wp2_with fail
  generalize w6.alloc (.cells #[.int .i64 (a : Int), .int .i64 (order : Int), .int .i64 (t : Int)] 63) = w7 at *
  refine (Ag 0 c5.av h'.live.length c5.cv w6.heap.size I h'.live ⟨a, order, t⟩ w7 HS7.out.r.lv Ny QC (Nat.zero_le _) SE.out SG.out).mono ?_
  rintro ev w8 ⟨oK, cv', rfl, ho8, hg8, hl8⟩
  have hput : h'.live.take I ++ ⟨a, order, t⟩ :: h'.live.drop I = bG h'.live ⟨a, order, t⟩ := by unfold bG; rw [HI.out]
  have hpl : (bG h'.live ⟨a, order, t⟩).length = h'.live.length + 1 := by rw [← hput]; simp; omega
  rw [hput] at ho8
  obtain ⟨hs9, sf9⟩ := HS7.out.away hg8 (oK := oK) (cv' := cv') (v' := bG h'.live ⟨a, order, t⟩) (by rw [hpl]; exact ho8) (by rw [hpl]; exact hl8)
  have hG7 : w.heap.size < w7.heap.size := HS7.out.r.gs
  have rO : Hid (some w.heap.size ≠ Value.ownBlock (.slice c5.av h'.live.length c5.cv)) := fun e => (HS7.out.r.og _ (iQ c5 h') _ e.symm).1 rfl
  have r4 := (bH HS7.out.k hG7 hg8 rO.out 4).trans (show _ = some (.slice c5.av h'.live.length c5.cv) from rfl)
  have g4 := bI HS7.out.fz hG7 hg8 rO.out 4
  rw [hpl] at hs9 sf9
  have HS9 := gO hs9
  have SF9 := gO (SF7.out.trans sf9)
  obtain ⟨p0, p1, p2, p3, p4⟩ := hs9.words
  rw [hpl] at p4
  have K9 := SF9.out.box Xt.out oH hX1
  have F9 := SF9.out.Pg Xu.out oH hX1
  have HB9 := gO (Safe.after HB4.out SF9.out (B := w.heap.size) (fun k hk => ⟨by omega, by omega⟩) (by omega))
  have hle1 : w.heap.size ≤ w.heap.size + 1 := Nat.le_succ _
  have qJ := gO (((((HS9.out.far hX1 0 (.slice c5.az 2 c5.cz)).far hX1 1 (.slice c5.am 2 c5.cm)).far hX1 2 (.int .i64 (h'.aF : Int))).far hX1 3 (.slice c5.al c5.lc.length c5.cl)).far hX1 4 (.slice oK (h'.live.length + 1) cv'))
  have lI := gO (Below.setCell (Below.setCell (Below.setCell (Below.setCell (Below.setCell HB9.out (show w.heap.size ≤ (⟨w.heap.size + 1, 0, none⟩ : Addr).block from hle1) (.slice c5.az 2 c5.cz)) (show w.heap.size ≤ (⟨w.heap.size + 1, 1, none⟩ : Addr).block from hle1) (.slice c5.am 2 c5.cm)) (show w.heap.size ≤ (⟨w.heap.size + 1, 2, none⟩ : Addr).block from hle1) (.int .i64 (h'.aF : Int))) (show w.heap.size ≤ (⟨w.heap.size + 1, 3, none⟩ : Addr).block from hle1) (.slice c5.al c5.lc.length c5.cl)) (show w.heap.size ≤ (⟨w.heap.size + 1, 4, none⟩ : Addr).block from hle1) (.slice oK (h'.live.length + 1) cv'))
  have KX := (aG (aG (aG (aG (aG K9 0 (.slice c5.az 2 c5.cz)) 1 (.slice c5.am 2 c5.cm)) 2 (.int .i64 (h'.aF : Int))) 3 (.slice c5.al c5.lc.length c5.cl)) 4 (.slice oK (h'.live.length + 1) cv'))
  have k10 := K9 0
  have k11 := K9 1
  have k12 := K9 2
  have k13 := K9 3
  have k14 := K9 4
  have f10 := F9 0
  have f11 := F9 1
  have f12 := F9 2
  have f13 := F9 3
  have f14 := F9 4
  simp only [gB, gC, gD] at k10 k11 k12 k13 k14
  have HPL := gO hpl
  clear hs9 sf9 ho8 hg8 hl8 HS9 SF9 HS7 SF7 hput hpl HB9
  go_wp2
  generalize ((((((w8.setCell ⟨w.heap.size, 4, none⟩ (.slice oK (h'.live.length + 1) cv')).setCell ⟨w.heap.size + 1, 0, none⟩ (.slice c5.az 2 c5.cz)).setCell ⟨w.heap.size + 1, 1, none⟩ (.slice c5.am 2 c5.cm)).setCell ⟨w.heap.size + 1, 2, none⟩ (.int .i64 (h'.aF : Int))).setCell ⟨w.heap.size + 1, 3, none⟩ (.slice c5.al c5.lc.length c5.cl)).setCell ⟨w.heap.size + 1, 4, none⟩ (.slice oK (h'.live.length + 1) cv')) = wx at *
  change ∀ o, wx.cell? ⟨w.heap.size + 1, o, none⟩ = (#[.slice c5.az 2 c5.cz, .slice c5.am 2 c5.cm, .int .i64 (h'.aF : Int), .slice c5.al c5.lc.length c5.cl, .slice oK (h'.live.length + 1) cv'] : Array Value)[o]? at KX
  refine bodyPost_ret (v := .tuple #[.agg #[.slice c5.az 2 c5.cz, .slice c5.am 2 c5.cm, .int .i64 (h'.aF : Int), .slice c5.al c5.lc.length c5.cl, .slice oK (h'.live.length + 1) cv'], .int .i64 (a : Int), .int .i64 0]) (by simp [results, Tryz.results61, go_sem, KX]) rfl ⟨lI.out, .inr ⟨_, a, _, by rw [HTT.out]; exact EK.out, ?_, qJ.out.r.sub (fun k hk => ⟨by omega, by omega⟩)⟩⟩
  unfold Hc.vals
  simp only [HPL.out]
end
end Go.Proofs.YtcmpmobhongkiaaGreatDoor
