/- Pp8: texts of this claim, joined. -/
import Derived.Test.YtkcaheebaicinaaGreatDoorSN20
import Derived.Test.YtkcaheebaicinaaGreatDoorSN29
/- Contract of package pages: back, on the heap behind a pointer. -/
namespace Go.Proofs.YtkcaheebaicinaaGreatDoor
open Go.RowKit
set_option linter.unusedVariables false

section
variable {W : World} {G : Nat} {X : Nat → Prop} {h : Hp} {c : Hc}
theorem HR.zat (hs : HR W G X h c) {i : Nat} (hi : i < 2) : ZAt W (c.zone i).a1 (c.zone i).a2 (c.zone i).n1 (c.zone i).n2 (h.zone i) := by
  unfold Hc.zone Hp.zone
  obtain rfl | rfl : i = 0 ∨ i = 1 := by omega
  · exact hs.z0
  · exact hs.z1
theorem HR.zcells (hs : HR W G X h c) {g : Nat} (hg : c.az = some ⟨g, 0, none⟩) {i : Nat} (hi : i < 2) : W.cell? ⟨g, i * 4, none⟩ = some (.int .i64 (h.zone i).f) ∧ W.cell? ⟨g, i * 4 + 1, none⟩ = some (.int .i64 (h.zone i).e) ∧ W.cell? ⟨g, i * 4 + 2, none⟩ = some (.slice (c.zone i).a1 (c.zone i).n1 (c.zone i).c1) ∧ W.cell? ⟨g, i * 4 + 3, none⟩ = some (.slice (c.zone i).a2 (c.zone i).n2 (c.zone i).c2) := by
  obtain ⟨b, off, h1, h2, h3⟩ := row_elem encZc_length (by decide) (own_row hs.zs) (j := i) (by simpa using hi)
  obtain ⟨rfl, rfl⟩ : g = b ∧ 0 = off := by rw [hg] at h1; simpa using h1
  have h4 := encZc_cells h3
  rw [Nat.zero_add] at h4
  have e0 := hs.e0
  have e1 := hs.e1
  unfold Hp.zone Hc.zone
  obtain rfl | rfl : i = 0 ∨ i = 1 := by omega
  · simp only [List.getElem_cons_zero, e0] at h4; exact h4
  · simp only [List.getElem_cons_succ, List.getElem_cons_zero, e1] at h4; exact h4
theorem HR.zfrz (hs : HR W G X h c) {g : Nat} (hg : c.az = some ⟨g, 0, none⟩) {i : Nat} (hi : i < 2) : W.frozen? ⟨g, i * 4, none⟩ = false ∧ W.frozen? ⟨g, i * 4 + 1, none⟩ = false ∧ W.frozen? ⟨g, i * 4 + 2, none⟩ = false ∧ W.frozen? ⟨g, i * 4 + 3, none⟩ = false := by
  obtain ⟨g', h1, _, _, _, h2⟩ := hs.zblock
  obtain rfl : g = g' := by rw [hg] at h1; simpa using h1
  exact ⟨h2 _ (by omega), h2 _ (by omega), h2 _ (by omega), h2 _ (by omega)⟩
theorem HS.words (hs : HS W G X h c) : W.cell? ⟨G, 0, none⟩ = some (.slice c.az 2 c.cz) ∧ W.cell? ⟨G, 1, none⟩ = some (.slice c.am 2 c.cm) ∧ W.cell? ⟨G, 2, none⟩ = some (.int .i64 (h.cpus : Int)) ∧ W.cell? ⟨G, 3, none⟩ = some (.slice c.al c.lc.length c.cl) ∧ W.cell? ⟨G, 4, none⟩ = some (.slice c.av h.live.length c.cv) := ⟨hs.k 0, hs.k 1, hs.k 2, hs.k 3, hs.k 4⟩
theorem setY_eq (c : Hc) (i : Nat) (y : Zc) : ∃ y0 y1, c.setY i y = { c with y0 := y0, y1 := y1 } := by
  unfold Hc.setY
  split
  · exact ⟨y, c.y1, rfl⟩
  · exact ⟨c.y0, y, rfl⟩
end
theorem zof_lt (h : Hp) (a : Nat) : h.zof a < 2 := by unfold Hp.zof; split <;> omega

set_option maxHeartbeats 4000000 in
set_option maxRecDepth 100000 in
theorem back_gen (G a o : Nat) (X : Nat → Prop) (h : Hp) (c : Hc) (w : World) (hs : HS w G X h c) (hz0 : (h.zone (h.zof a)).ok) (hfit0 : fitsB (h.zone (h.zof a)).f (h.zone (h.zof a)).e a o) (hap0 : ∀ x ∈ (h.zone (h.zof a)).l, apartB a o x) :
    Calls Tryz.prog 114 #[.pointer (some ⟨G, 0, none⟩), .int .i64 a, .int .i64 o] w fun ev w' => ev = .returned (.tuple #[]) ∧ (∃ y0 y1, HS w' G X (h.backB a o) { c with y0 := y0, y1 := y1 }) ∧ Safe X w w' := by
  have hi := zof_lt h a
  obtain ⟨g, hg, hgs, hgG, hgX, hgf⟩ := hs.r.zblock
  obtain ⟨k0, k1, k2, k3, k4⟩ := hs.words
  have hGs := hs.r.gs
  have HS0 := Hid.mk hs
  have hfit := Hid.mk hfit0
  have hz := Hid.mk hz0
  have hap := Hid.mk hap0
  have HG := Hid.mk hg
  have HF := Hid.mk hgf
  clear hs hfit0 hz0 hap0 hg hgf
  go_enter Tryz.func114, Tryz.ntmps114
  go_wp2_with fail
  refine (zone_pg _ _ _ _ _ _ _ _ _ _ _ _ _ h a _ HS0.out.r.at).mono ?_
  rintro ev w1 ⟨rfl, hb1⟩
  have HS1 := Hid.mk (HS0.out.below hb1)
  have HSF := Hid.mk (Safe.ofBelow (X := X) hb1)
  have hgs1 : g < w1.heap.size := Nat.lt_of_lt_of_le hgs hb1.size
  have hGs1 : G < w1.heap.size := Nat.lt_of_lt_of_le hGs hb1.size
  clear k0 k1 k2 k3 k4
  obtain ⟨k0, k1, k2, k3, k4⟩ := HS1.out.words
  rw [HG.out] at k0
  obtain ⟨z0, z1, z2, z3⟩ := HS1.out.r.zcells HG.out hi
  have HAT := Hid.mk (HS1.out.r.zat hi)
  have hi2 : ((h.zof a : Nat) : Int) < 2 := by omega
  clear HS0 hb1
  have HBK : Hid (h.backB a o = h.setZ (h.zof a) ((h.zone (h.zof a)).back a o)) := rfl
  generalize h.zof a = i at *
  generalize c.zone i = y at *
  generalize h.zone i = z at *
  go_wp2_with fail
  have hsd := HS1.out.below ((Below.refl w1.heap.size w1).drew)
  go_region_with (go_at_call 94; refine (back_ok _ _ _ _ _ _ z a o _ (HAT.out.below ((Below.refl w1.heap.size w1).drew)) hz.out hfit.out hap.out).mono ?_; rintro ev w3 ⟨a1', a2', n1', c1', c2', rfl, hz3, hb3⟩; have hs3 := hsd.below hb3; have q0 := hs3.words.1; rw [HG.out] at q0; obtain ⟨x0, x1, x2, x3⟩ := hs3.r.zcells HG.out hi; obtain ⟨f0, f1, f2, f3⟩ := hs3.r.zfrz HG.out hi; clear hs3)
  all_goals
    obtain ⟨hs4, sf4⟩ := hsd.putZ hb3 hi hz3 HG.out
    obtain ⟨y0, y1, ey⟩ := setY_eq c i ⟨z.back a o, a1', a2', n1', y.n2, c1', c2'⟩
    rw [ey, ← HBK.out] at hs4
    refine bodyPost_end (v := .tuple #[]) (by simp [results, Tryz.results114, go_sem]) rfl ⟨rfl, ⟨y0, y1, hs4⟩, (HSF.out.then ((Below.refl w1.heap.size w1).drew)).trans sf4⟩
theorem back_pg (G a o : Nat) (X : Nat → Prop) (h : Hp) (c : Hc) (w : World) (hs : HS w G X h c) (hk : HOk h) (hb : fitsB 0 256 a o) (hd : ∀ p, cnt h.all p + hit ⟨a, o, 0⟩ p ≤ 1) :
    Calls Tryz.prog 114 #[.pointer (some ⟨G, 0, none⟩), .int .i64 a, .int .i64 o] w fun ev w' => ev = .returned (.tuple #[]) ∧ (∃ y0 y1, HS w' G X (h.backB a o) { c with y0 := y0, y1 := y1 }) ∧ Safe X w w' :=
  back_gen G a o X h c w hs (hk.zone _) (hk.fits hb) fun x hx => apart_of_disj fun p h1 h2 => by
    have g1 := hd p
    have g2 := zone_cnt h (h.zof a) p
    have g3 := cnt_pos.2 (show covL (h.zone (h.zof a)).l p from ⟨x, hx, h2⟩)
    have g4 : hit ⟨a, o, 0⟩ p = 1 := hit_one.2 h1
    omega
end Go.Proofs.YtkcaheebaicinaaGreatDoor
