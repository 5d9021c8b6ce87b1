/- The walk of paddockkeep.ZoneFull. -/
import Derived.Test.YtbkajbjhffdlfaaDoorBlk21
import Derived.Test.YtbkajbjhffdlfaaDoorBlk25
import Derived.Deep.RegionHeld3
import Derived.Deep.DeepCutAuto
import Derived.OpenShut
import Derived.ProofKit
namespace Go.Proofs.YtbkajbjhffdlfaaDoor
open Go.RowKit Go.WideShapes Go.ChangeShapes
set_option linter.unusedVariables false

theorem cell_setFar {W : World} {b G o i : Nat} {u v : Value} (hne : b ≠ G) (h : W.cell? ⟨b, o, none⟩ = some v) : (W.setCell ⟨G, i, none⟩ u).cell? ⟨b, o, none⟩ = some v := by
  have hx : (⟨G, i, none⟩ : Addr) ≠ ⟨b, o, none⟩ := fun e => hne (by simpa using (congrArg Addr.block e).symm)
  exact (World.cell?_setCell_other _ _ _ _ hx).trans h
theorem cell_allocFar {W : World} {b o : Nat} {ob : Obj} {v : Value} (hlt : b < W.heap.size) (h : W.cell? ⟨b, o, none⟩ = some v) : (W.alloc ob).cell? ⟨b, o, none⟩ = some v := ((below_alloc W ob).cell (p := ⟨b, o, none⟩) hlt).trans h
theorem cell_allocNew {W : World} {g : Nat} {v : Value} {T : TypeId} (hg : g = W.heap.size) : (W.alloc (.cells #[v] T)).cell? ⟨g, 0, none⟩ = some v := by
  subst hg
  exact box_new W #[v] T 0
theorem cell_setSame {W : World} {G : Nat} {v : Value} (h : ∃ u, W.cell? ⟨G, 0, none⟩ = some u) : (W.setCell ⟨G, 0, none⟩ v).cell? ⟨G, 0, none⟩ = some v := by
  obtain ⟨u, h⟩ := h
  exact World.cell?_setCell_same _ _ _ (by rw [h])
theorem cell_drewFar {W : World} {b o : Nat} {v : Value} (h : W.cell? ⟨b, o, none⟩ = some v) : W.drew.cell? ⟨b, o, none⟩ = some v := h

set_option maxHeartbeats 40000000 in
set_option maxRecDepth 100000 in
theorem zoneFull_walk (a : Option Addr) (n c : Nat) (l : List Rw) (hl : l.length = n) {w : World} (hr : Row w a (flat encRw l)) (hnc : n ≤ c) (hcm : c ≤ maxLen) (hwf : ∀ r ∈ l, r.wf) (q : Int) (hq : (Lit.int .i64 q).wf = true) (s : Int) (hs : (Lit.int .i64 s).wf = true) (hoth : Oth w) :
    Calls Tryd.prog 5 #[.slice a n c, .int .i64 q, .int .i64 s] w fun ev w' => ev = .returned (.bool true) ∧ Below w.heap.size w w' := by
  obtain ⟨hq1, hq2⟩ := bounds_i64 hq
  obtain ⟨hs1, hs2⟩ := bounds_i64 hs
  obtain ⟨o, ho5, hop'⟩ := pk_nat q 5 (by omega)
  have hop : pk q 5 = (o : Int) := hop'
  obtain ⟨t, ht3, htp'⟩ := pk_nat s 3 (by omega)
  have htp : pk s 3 = (t : Int) := htp'
  have hpick : ∀ W, Calls Tryd.prog 13 #[.int .i64 s, .int .i64 3] W fun ev w' => ev = .returned (.int .i64 (t : Int)) ∧ W = w' := fun W => by
    have := picked_any s 3 W hs1 hs2 (by omega) (by omega)
    rw [htp] at this
    exact this
  clear hop' htp' htp
  go_enter Tryd.func5, Tryd.ntmps5
  go_wp2_with fail
  refine (zoned_ok a n c l 60 _ hl hnc hcm hr hwf (by omega) hoth).mono ?_
  rintro ev w1 ⟨z, away, hd⟩
  obtain ⟨a1, a2, n1, n2, c1, c2, aw, na, ca, rfl, hown, hoa⟩ := hd.ex
  have hzok := hd.inv.ok
  have hlen : z.l.length ≤ 256 := Nat.le_trans (OkL.length_le hzok.2 (fun b hb => (hzok.2.fit b hb).1.2.2.1)) hzok.1.e2
  have hl1 := hown.l1
  have hoth1 := hoth.mono hd.bw (Nat.le_refl _)
  have hb2 := below_alloc w1 (.cells #[.int .i64 (z.f : Int), .int .i64 (z.e : Int), .slice a1 n1 c1, .slice a2 n2 c2] 26)
  have K3 := box_new w1 #[.int .i64 (z.f : Int), .int .i64 (z.e : Int), .slice a1 n1 c1, .slice a2 n2 c2] 26
  have hs' : w1.heap.size < (w1.alloc (.cells #[.int .i64 (z.f : Int), .int .i64 (z.e : Int), .slice a1 n1 c1, .slice a2 n2 c2] 26)).heap.size := by simp
  have hat2 := hown.at.below hb2
  have hoth2 := hoth1.mono hb2 (Nat.le_refl _)
  have hbw2 := Below.step hd.bw hb2
  clear hd hown hoa hb2 hoth hoth1 hr
  dsimp only
  go_wp2_with fail
  generalize w1.alloc (.cells #[.int .i64 (z.f : Int), .int .i64 (z.e : Int), .slice a1 n1 c1, .slice a2 n2 c2] 26) = w2 at *
  generalize w1.heap.size = B at *
  refine (picked_any q 5 _ hq1 hq2 (by omega) (by omega)).mono ?_
  rintro ev _ ⟨rfl, rfl⟩
  rw [hop]
  clear hop
  have hb3 := below_alloc w2 (.cells #[.int .i64 (o : Int)] 3)
  have K3b := box_step K3 hs' hb3
  have hBv := Nat.lt_of_lt_of_le hs' hb3.size
  have K10 := box_new w2 #[.int .i64 (o : Int)] 3
  have hCv : w2.heap.size < (w2.alloc (.cells #[.int .i64 (o : Int)] 3)).heap.size := by simp
  have hat3 := hat2.below hb3
  have hoth3 := hoth2.mono hb3 (Nat.le_refl _)
  have hbw3 := Below.step hbw2 hb3
  clear K3 hat2 hbw2 hb3 hs' hoth2
  dsimp only
  go_upto_region 3 with fail
  generalize w2.alloc (.cells #[.int .i64 (o : Int)] 3) = wv at *
  generalize w2.heap.size = C at *
  have k0 := K3b 0
  have k1 := K3b 1
  have k2 := K3b 2
  have k3 := K3b 3
  have kc := K10 0
  simp only [List.getElem?_toArray, List.getElem?_cons_zero, List.getElem?_cons_succ] at k0 k1 k2 k3 kc
  have hBne : B ≠ wv.heap.size := by omega
  have hCne : C ≠ wv.heap.size := by omega
  have hBne1 : B ≠ wv.heap.size + 1 := by omega
  have hCne1 : C ≠ wv.heap.size + 1 := by omega
  have hW0 : Below wv.heap.size wv wv.drew := (Below.refl _ _).drew
  have hW1 : Below wv.heap.size wv (wv.alloc (.cells #[.int .i64 0, .int .i64 0, .slice none 0 0, .slice none 0 0] 26)).drew := Below.drew (below_alloc wv _)
  have hW2 : Below wv.heap.size wv (wv.alloc (.cells #[.int .i64 0] 3)).drew := Below.drew (below_alloc wv _)
  have hW3 : Below wv.heap.size wv ((wv.alloc (.cells #[.int .i64 0, .int .i64 0, .slice none 0 0, .slice none 0 0] 26)).alloc (.cells #[.int .i64 0] 3)).drew := Below.drew (Below.step (below_alloc wv _) (below_alloc _ _))
  have hW4 : Below wv.heap.size wv ((wv.alloc (.cells #[.int .i64 0] 3)).alloc (.cells #[.int .i64 0, .int .i64 0, .slice none 0 0, .slice none 0 0] 26)).drew := Below.drew (Below.step (below_alloc wv _) (below_alloc _ _))
  have s1 : wv.heap.size < (wv.alloc (.cells #[.int .i64 0, .int .i64 0, .slice none 0 0, .slice none 0 0] 26)).heap.size := by simp
  have s2 : wv.heap.size < (wv.alloc (.cells #[.int .i64 0] 3)).heap.size := by simp
  have s3 : wv.heap.size + 1 < ((wv.alloc (.cells #[.int .i64 0, .int .i64 0, .slice none 0 0, .slice none 0 0] 26)).alloc (.cells #[.int .i64 0] 3)).heap.size := by simp
  have s4 : wv.heap.size + 1 < ((wv.alloc (.cells #[.int .i64 0] 3)).alloc (.cells #[.int .i64 0, .int .i64 0, .slice none 0 0, .slice none 0 0] 26)).heap.size := by simp
  have z1 : ∀ i, (wv.alloc (.cells #[.int .i64 0, .int .i64 0, .slice none 0 0, .slice none 0 0] 26)).cell? ⟨wv.heap.size, i, none⟩ = (#[.int .i64 0, .int .i64 0, .slice none 0 0, .slice none 0 0] : Array Value)[i]? := box_new wv _ _
  have y1 : ∀ i, (wv.alloc (.cells #[.int .i64 0, .int .i64 0, .slice none 0 0, .slice none 0 0] 26)).frozen? ⟨wv.heap.size, i, none⟩ = false := box_frz wv _ _
  have i2 : ∀ i, (wv.alloc (.cells #[.int .i64 0] 3)).cell? ⟨wv.heap.size, i, none⟩ = (#[.int .i64 0] : Array Value)[i]? := box_new wv _ _
  have j2 : ∀ i, (wv.alloc (.cells #[.int .i64 0] 3)).frozen? ⟨wv.heap.size, i, none⟩ = false := box_frz wv _ _
  have z3 : ∀ i, ((wv.alloc (.cells #[.int .i64 0, .int .i64 0, .slice none 0 0, .slice none 0 0] 26)).alloc (.cells #[.int .i64 0] 3)).cell? ⟨wv.heap.size, i, none⟩ = (#[.int .i64 0, .int .i64 0, .slice none 0 0, .slice none 0 0] : Array Value)[i]? := box_step z1 s1 (below_alloc _ _)
  have y3 : ∀ i, ((wv.alloc (.cells #[.int .i64 0, .int .i64 0, .slice none 0 0, .slice none 0 0] 26)).alloc (.cells #[.int .i64 0] 3)).frozen? ⟨wv.heap.size, i, none⟩ = false := frz_step y1 s1 (below_alloc _ _)
  have i3 : ∀ i, ((wv.alloc (.cells #[.int .i64 0, .int .i64 0, .slice none 0 0, .slice none 0 0] 26)).alloc (.cells #[.int .i64 0] 3)).cell? ⟨wv.heap.size + 1, i, none⟩ = (#[.int .i64 0] : Array Value)[i]? := fun i => by
    have h := box_new (wv.alloc (.cells #[.int .i64 0, .int .i64 0, .slice none 0 0, .slice none 0 0] 26)) #[.int .i64 0] 3 i
    rw [show (wv.alloc (.cells #[.int .i64 0, .int .i64 0, .slice none 0 0, .slice none 0 0] 26)).heap.size = wv.heap.size + 1 by simp] at h
    exact h
  have j3 : ∀ i, ((wv.alloc (.cells #[.int .i64 0, .int .i64 0, .slice none 0 0, .slice none 0 0] 26)).alloc (.cells #[.int .i64 0] 3)).frozen? ⟨wv.heap.size + 1, i, none⟩ = false := fun i => by
    have h := box_frz (wv.alloc (.cells #[.int .i64 0, .int .i64 0, .slice none 0 0, .slice none 0 0] 26)) #[.int .i64 0] 3 i
    rw [show (wv.alloc (.cells #[.int .i64 0, .int .i64 0, .slice none 0 0, .slice none 0 0] 26)).heap.size = wv.heap.size + 1 by simp] at h
    exact h
  have i4 : ∀ i, ((wv.alloc (.cells #[.int .i64 0] 3)).alloc (.cells #[.int .i64 0, .int .i64 0, .slice none 0 0, .slice none 0 0] 26)).cell? ⟨wv.heap.size, i, none⟩ = (#[.int .i64 0] : Array Value)[i]? := box_step i2 s2 (below_alloc _ _)
  have j4 : ∀ i, ((wv.alloc (.cells #[.int .i64 0] 3)).alloc (.cells #[.int .i64 0, .int .i64 0, .slice none 0 0, .slice none 0 0] 26)).frozen? ⟨wv.heap.size, i, none⟩ = false := frz_step j2 s2 (below_alloc _ _)
  have z4 : ∀ i, ((wv.alloc (.cells #[.int .i64 0] 3)).alloc (.cells #[.int .i64 0, .int .i64 0, .slice none 0 0, .slice none 0 0] 26)).cell? ⟨wv.heap.size + 1, i, none⟩ = (#[.int .i64 0, .int .i64 0, .slice none 0 0, .slice none 0 0] : Array Value)[i]? := fun i => by
    have h := box_new (wv.alloc (.cells #[.int .i64 0] 3)) #[.int .i64 0, .int .i64 0, .slice none 0 0, .slice none 0 0] 26 i
    rw [show (wv.alloc (.cells #[.int .i64 0] 3)).heap.size = wv.heap.size + 1 by simp] at h
    exact h
  have y4 : ∀ i, ((wv.alloc (.cells #[.int .i64 0] 3)).alloc (.cells #[.int .i64 0, .int .i64 0, .slice none 0 0, .slice none 0 0] 26)).frozen? ⟨wv.heap.size + 1, i, none⟩ = false := fun i => by
    have h := box_frz (wv.alloc (.cells #[.int .i64 0] 3)) #[.int .i64 0, .int .i64 0, .slice none 0 0, .slice none 0 0] 26 i
    rw [show (wv.alloc (.cells #[.int .i64 0] 3)).heap.size = wv.heap.size + 1 by simp] at h
    exact h
  have HW0 := Hid.mk hW0
  have HW1 := Hid.mk hW1
  have HW2 := Hid.mk hW2
  have HW3 := Hid.mk hW3
  have HW4 := Hid.mk hW4
  have HS1 := Hid.mk s1
  have HS2 := Hid.mk s2
  have HS3 := Hid.mk s3
  have HS4 := Hid.mk s4
  have HZ1 := Hid.mk z1
  have HY1 := Hid.mk y1
  have HI2 := Hid.mk i2
  have HJ2 := Hid.mk j2
  have HZ3 := Hid.mk z3
  have HY3 := Hid.mk y3
  have HI3 := Hid.mk i3
  have HJ3 := Hid.mk j3
  have HI4 := Hid.mk i4
  have HJ4 := Hid.mk j4
  have HZ4 := Hid.mk z4
  have HY4 := Hid.mk y4
  clear hW0 hW1 hW2 hW3 hW4 s1 s2 s3 s4 z1 y1 i2 j2 z3 y3 i3 j3 i4 j4 z4 y4
  cases htake : z.take o t with
  | none =>
    have hTk : ∀ W, Below wv.heap.size wv W → Calls Tryd.prog 14 #[.agg #[.int .i64 z.f, .int .i64 z.e, .slice a1 n1 c1, .slice a2 n2 c2], .int .i64 o, .int .i64 t] W fun ev w' => ev = .returned (.tuple #[.agg #[.int .i64 0, .int .i64 0, .slice none 0 0, .slice none 0 0], .int .i64 0, .int .i64 6]) ∧ Below wv.heap.size wv w' ∧ Below W.heap.size W w' := fun W hW =>
      (take_ok a1 a2 n1 n2 c1 c2 z o t W (hat3.below hW) hzok (by omega) ht3 (hoth3.mono hW (Nat.le_refl _))).mono fun ev w' h => by
        rcases h with ⟨_, h1, h2⟩ | ⟨_, _, _, _, _, _, _, h, _⟩
        · exact ⟨h1, Below.step hW h2, h2⟩
        · rw [htake] at h; cases h
    go_cut [12, 13] (fun s12 s13 wx => ∃ g : Nat, s12 = .pointer (some ⟨g, 0, none⟩) ∧ s13 = .int .i64 6 ∧ wx.cell? ⟨g, 0, none⟩ = some (.int .i64 0) ∧ g < wx.heap.size ∧ Below wv.heap.size wv wx)
    case first =>
      go_region_held3 (fun w' => w'.cell? ⟨B, 0, none⟩ = some (.int .i64 (z.f : Int)) ∧ w'.cell? ⟨B, 1, none⟩ = some (.int .i64 (z.e : Int)) ∧ w'.cell? ⟨B, 2, none⟩ = some (.slice a1 n1 c1) ∧ w'.cell? ⟨B, 3, none⟩ = some (.slice a2 n2 c2) ∧ w'.cell? ⟨C, 0, none⟩ = some (.int .i64 (o : Int))) (first | with_reducible exact ⟨k0, k1, k2, k3, kc⟩ | with_reducible exact ⟨p0, p1, p2, p3, p4⟩ | (refine ⟨?_, ?_, ?_, ?_, ?_⟩ <;> (repeat (first | (with_reducible assumption) | (with_reducible refine cell_setFar (by omega) ?_) | (with_reducible refine cell_allocFar (by first | (with_reducible assumption) | (simp; done) | (simp; omega) | omega) ?_) | (with_reducible refine cell_drewFar ?_))))) (first | (go_at_call 13; refine (hpick _).mono ?_; rintro ev _ ⟨rfl, rfl⟩) | (go_at_call 14; (with_reducible refine (hTk _ HW0.out).mono ?_); rintro ev wk ⟨rfl, hbA, hbk⟩; have hbK : Below wv.heap.size wv wk := Below.step ((Below.refl _ _).drew) hbk; have p0 := (hbA.cell (p := ⟨B, 0, none⟩) hBv).trans k0; have p1 := (hbA.cell (p := ⟨B, 1, none⟩) hBv).trans k1; have p2 := (hbA.cell (p := ⟨B, 2, none⟩) hBv).trans k2; have p3 := (hbA.cell (p := ⟨B, 3, none⟩) hBv).trans k3; have p4 := (hbA.cell (p := ⟨C, 0, none⟩) hCv).trans kc; have hBk := Nat.lt_of_lt_of_le hBv hbA.size; have hCk := Nat.lt_of_lt_of_le hCv hbA.size; have hN0 : wv.heap.size ≤ wk.heap.size := hbA.size) | (go_at_call 14; (with_reducible refine (hTk _ HW1.out).mono ?_); rintro ev wk ⟨rfl, hbA, hbk⟩; have hbK : Below (wv.alloc (.cells #[.int .i64 0, .int .i64 0, .slice none 0 0, .slice none 0 0] 26)).heap.size (wv.alloc (.cells #[.int .i64 0, .int .i64 0, .slice none 0 0, .slice none 0 0] 26)) wk := Below.step ((Below.refl _ _).drew) hbk; have p0 := (hbA.cell (p := ⟨B, 0, none⟩) hBv).trans k0; have p1 := (hbA.cell (p := ⟨B, 1, none⟩) hBv).trans k1; have p2 := (hbA.cell (p := ⟨B, 2, none⟩) hBv).trans k2; have p3 := (hbA.cell (p := ⟨B, 3, none⟩) hBv).trans k3; have p4 := (hbA.cell (p := ⟨C, 0, none⟩) hCv).trans kc; have hBk := Nat.lt_of_lt_of_le hBv hbA.size; have hCk := Nat.lt_of_lt_of_le hCv hbA.size; have hN0 : wv.heap.size ≤ wk.heap.size := hbA.size; have K11 := box_step HZ1.out HS1.out hbK; have F11 := frz_step HY1.out HS1.out hbK; have g1 := Nat.lt_of_lt_of_le HS1.out hbK.size) | (go_at_call 14; (with_reducible refine (hTk _ HW2.out).mono ?_); rintro ev wk ⟨rfl, hbA, hbk⟩; have hbK : Below (wv.alloc (.cells #[.int .i64 0] 3)).heap.size (wv.alloc (.cells #[.int .i64 0] 3)) wk := Below.step ((Below.refl _ _).drew) hbk; have p0 := (hbA.cell (p := ⟨B, 0, none⟩) hBv).trans k0; have p1 := (hbA.cell (p := ⟨B, 1, none⟩) hBv).trans k1; have p2 := (hbA.cell (p := ⟨B, 2, none⟩) hBv).trans k2; have p3 := (hbA.cell (p := ⟨B, 3, none⟩) hBv).trans k3; have p4 := (hbA.cell (p := ⟨C, 0, none⟩) hCv).trans kc; have hBk := Nat.lt_of_lt_of_le hBv hbA.size; have hCk := Nat.lt_of_lt_of_le hCv hbA.size; have hN0 : wv.heap.size ≤ wk.heap.size := hbA.size; have K12 := box_step HI2.out HS2.out hbK; have k12 : wk.cell? ⟨wv.heap.size, 0, none⟩ = some (.int .i64 0) := K12 0; have F12 := frz_step HJ2.out HS2.out hbK; have g1 := Nat.lt_of_lt_of_le HS2.out hbK.size) | (go_at_call 14; (with_reducible refine (hTk _ HW3.out).mono ?_); rintro ev wk ⟨rfl, hbA, hbk⟩; have hbK : Below ((wv.alloc (.cells #[.int .i64 0, .int .i64 0, .slice none 0 0, .slice none 0 0] 26)).alloc (.cells #[.int .i64 0] 3)).heap.size ((wv.alloc (.cells #[.int .i64 0, .int .i64 0, .slice none 0 0, .slice none 0 0] 26)).alloc (.cells #[.int .i64 0] 3)) wk := Below.step ((Below.refl _ _).drew) hbk; have p0 := (hbA.cell (p := ⟨B, 0, none⟩) hBv).trans k0; have p1 := (hbA.cell (p := ⟨B, 1, none⟩) hBv).trans k1; have p2 := (hbA.cell (p := ⟨B, 2, none⟩) hBv).trans k2; have p3 := (hbA.cell (p := ⟨B, 3, none⟩) hBv).trans k3; have p4 := (hbA.cell (p := ⟨C, 0, none⟩) hCv).trans kc; have hBk := Nat.lt_of_lt_of_le hBv hbA.size; have hCk := Nat.lt_of_lt_of_le hCv hbA.size; have hN0 : wv.heap.size ≤ wk.heap.size := hbA.size; have K11 := box_step HZ3.out (Nat.lt_of_succ_lt HS3.out) hbK; have F11 := frz_step HY3.out (Nat.lt_of_succ_lt HS3.out) hbK; have K12 := box_step HI3.out HS3.out hbK; have k12 : wk.cell? ⟨wv.heap.size + 1, 0, none⟩ = some (.int .i64 0) := K12 0; have F12 := frz_step HJ3.out HS3.out hbK; have g1 := Nat.lt_of_lt_of_le HS3.out hbK.size) | (go_at_call 14; (with_reducible refine (hTk _ HW4.out).mono ?_); rintro ev wk ⟨rfl, hbA, hbk⟩; have hbK : Below ((wv.alloc (.cells #[.int .i64 0] 3)).alloc (.cells #[.int .i64 0, .int .i64 0, .slice none 0 0, .slice none 0 0] 26)).heap.size ((wv.alloc (.cells #[.int .i64 0] 3)).alloc (.cells #[.int .i64 0, .int .i64 0, .slice none 0 0, .slice none 0 0] 26)) wk := Below.step ((Below.refl _ _).drew) hbk; have p0 := (hbA.cell (p := ⟨B, 0, none⟩) hBv).trans k0; have p1 := (hbA.cell (p := ⟨B, 1, none⟩) hBv).trans k1; have p2 := (hbA.cell (p := ⟨B, 2, none⟩) hBv).trans k2; have p3 := (hbA.cell (p := ⟨B, 3, none⟩) hBv).trans k3; have p4 := (hbA.cell (p := ⟨C, 0, none⟩) hCv).trans kc; have hBk := Nat.lt_of_lt_of_le hBv hbA.size; have hCk := Nat.lt_of_lt_of_le hCv hbA.size; have hN0 : wv.heap.size ≤ wk.heap.size := hbA.size; have K12 := box_step HI4.out (Nat.lt_of_succ_lt HS4.out) hbK; have k12 : wk.cell? ⟨wv.heap.size, 0, none⟩ = some (.int .i64 0) := K12 0; have F12 := frz_step HJ4.out (Nat.lt_of_succ_lt HS4.out) hbK; have K11 := box_step HZ4.out HS4.out hbK; have F11 := frz_step HY4.out HS4.out hbK; have g1 := Nat.lt_of_lt_of_le HS4.out hbK.size))
      all_goals rename_i hHeld
      all_goals clear hHeld
      all_goals go_wp2_with fail
      all_goals go_meet
      all_goals refine ⟨_, rfl, rfl, ?_, ?_, ?_⟩
      all_goals clear HW0 HW1 HW2 HW3 HW4 HS1 HS2 HS3 HS4 HZ1 HY1 HI2 HJ2 HZ3 HY3 HI3 HJ3 HI4 HJ4 HZ4 HY4 hTk hpick
      all_goals repeat' first
        | (with_reducible assumption)
        | (with_reducible refine cell_allocNew ?_)
        | (with_reducible refine cell_setSame ?_)
        | (with_reducible refine Exists.intro (.int .i64 0) ?_)
        | (with_reducible refine cell_setFar ?_ ?_)
        | (with_reducible refine cell_allocFar ?_ ?_)
        | (with_reducible refine Below.drew ?_)
        | (with_reducible refine Below.alloc ?_ ?_ _)
        | (with_reducible refine Below.setCell ?_ ?_ _)
        | omega
        | (simp only [World.size_alloc, World.size_setCell]; done)
        | (simp only [World.size_alloc, World.size_setCell]; omega)
        | (dsimp only; omega)
    case rest =>
      clear hTk hpick HW0 HW1 HW2 HW3 HW4 HS1 HS2 HS3 HS4 HZ1 HY1 HI2 HJ2 HZ3 HY3 HI3 HJ3 HI4 HJ4 HZ4 HY4
      obtain ⟨g, rfl, rfl, hg, hgs, hbc⟩ := hcut
      have hfits : (z.l.any fun x => decide (o ≤ x.o)) = false := by
        rw [List.any_eq_false]
        intro x hx h
        obtain ⟨z2, at2, h1, _⟩ := Zn.take_some hzok (t := t) (show o ≤ 4 by omega) ht3 ⟨x, hx, of_decide_eq_true h⟩
        rw [htake] at h1
        cases h1
      obtain ⟨bi, hins⟩ : ∃ bi, (z.l.any fun x => decide (x.a ≤ 0 ∧ 0 + 2 ^ o ≤ x.fin)) = bi := ⟨_, rfl⟩
      have K3c := box_step K3b hBv hbc
      have K10c := box_step K10 hCv hbc
      have hBc := Nat.lt_of_lt_of_le hBv hbc.size
      have hCc := Nat.lt_of_lt_of_le hCv hbc.size
      have hatc := hat3.below hbc
      have hbwc := Below.step hbw3 hbc
      have kc2 := K3c 2
      have ko := K10c 0
      simp only [List.getElem?_toArray, List.getElem?_cons_zero, List.getElem?_cons_succ] at kc2 ko
      have eg1 : ∀ args w, (callFunc 16 args).run Tryd.prog w = .ok (.enter 16 args) w := enters_of Tryd.func16 (by kernel_rfl) rfl
      have eg2 : ∀ args w, (callFunc 17 args).run Tryd.prog w = .ok (.enter 17 args) w := enters_of Tryd.func17 (by kernel_rfl) rfl
      have hFIT := Hid.mk hfits
      have hINS := Hid.mk hins
      clear hbc hfits hins k0 k1 k2 k3 kc hoth3 hat3 hbw3 K3b K10
      go_wp2_with fail
      refine (containsFuncBk _ _ _ z.l _ _ (fun x => decide (o ≤ x.o)) _ hl1 (by omega) hatc.r1 eg1 (fun W hW x hx => greatEnough x o C W (hzok.2.fit x hx).1.1 (by omega) (Nat.lt_of_lt_of_le hCc hW.size) ((hW.cell (p := ⟨C, 0, none⟩) hCc).trans ko))).mono ?_
      rw [hFIT.out]
      rintro ev w5 ⟨rfl, hb5⟩
      have K3d := box_step K3c hBc hb5
      have kd2 := K3d 2
      have kod := (hb5.cell (p := ⟨C, 0, none⟩) hCc).trans ko
      have hgd := (hb5.cell (p := ⟨g, 0, none⟩) hgs).trans hg
      have hBd := Nat.lt_of_lt_of_le hBc hb5.size
      have hCd := Nat.lt_of_lt_of_le hCc hb5.size
      have hGd := Nat.lt_of_lt_of_le hgs hb5.size
      have hatd := hatc.below hb5
      have hbwd := Below.step hbwc hb5
      simp only [List.getElem?_toArray, List.getElem?_cons_zero, List.getElem?_cons_succ] at kd2
      clear hb5 K3c K10c hBc hCc hatc hbwc kc2 ko hg hgs eg1
      dsimp only
      go_wp2_with fail
      refine (containsFuncBk _ _ _ z.l _ _ (fun x => decide (x.a ≤ 0 ∧ 0 + 2 ^ o ≤ x.fin)) _ hl1 (by omega) hatd.r1 eg2 (fun W hW x hx => isInside x (0) o g C W (hzok.2.fit x hx).1.1 (by have := (hzok.2.fit x hx).1.2.2.1; have := hzok.1.e2; omega) (by omega) (by omega) (Nat.lt_of_lt_of_le hGd hW.size) ((hW.cell (p := ⟨g, 0, none⟩) hGd).trans hgd) (Nat.lt_of_lt_of_le hCd hW.size) ((hW.cell (p := ⟨C, 0, none⟩) hCd).trans kod))).mono ?_
      rw [hINS.out]
      rintro ev w6 ⟨rfl, hb6⟩
      have hbw6 := Below.step hbwd hb6
      clear hb6 hatd hbwd kd2 kod hgd
      dsimp only
      go_wp2
      go_ret
      exact ⟨rfl, hbw6⟩

  | some res =>
    obtain ⟨z', at_⟩ := res
    obtain ⟨z2, at2, hT1, hT2⟩ := Zn.take_some hzok (t := t) (show o ≤ 4 by omega) ht3 (Classical.byContradiction fun h => by
      have := Zn.take_none (t := t) h
      rw [htake] at this; cases this)
    rw [htake] at hT1
    simp only [Option.some.injEq, Prod.mk.injEq] at hT1
    obtain ⟨rfl, rfl⟩ := hT1
    have hatle : at_ ≤ 1000 := by have := hT2.fit.2.2.1; have := hzok.1.e2; omega
    have hINN := Hid.mk hT2.inside
    clear hT2
    have hTk : ∀ W, Below wv.heap.size wv W → Calls Tryd.prog 14 #[.agg #[.int .i64 z.f, .int .i64 z.e, .slice a1 n1 c1, .slice a2 n2 c2], .int .i64 o, .int .i64 t] W fun ev w' => ∃ e1 e2 s1 t1 t2, ev = .returned (.tuple #[.agg #[.int .i64 z.f, .int .i64 z.e, .slice e1 s1 t1, .slice e2 n2 t2], .int .i64 (at_ : Nat), .int .i64 0]) ∧ Below wv.heap.size wv w' ∧ Below W.heap.size W w' := fun W hW =>
      (take_ok a1 a2 n1 n2 c1 c2 z o t W (hat3.below hW) hzok (by omega) ht3 (hoth3.mono hW (Nat.le_refl _))).mono fun ev w' h => by
        rcases h with ⟨h, _⟩ | ⟨z2, at2, e1, e2, s1, t1, t2, h, h3, h4, h5⟩
        · rw [htake] at h; cases h
        · rw [htake] at h
          simp only [Option.some.injEq, Prod.mk.injEq] at h
          obtain ⟨rfl, rfl⟩ := h
          exact ⟨e1, e2, s1, t1, t2, h3, Below.step hW h5, h5⟩
    go_cut [12, 13] (fun s12 s13 wx => ∃ g : Nat, s12 = .pointer (some ⟨g, 0, none⟩) ∧ s13 = .int .i64 0 ∧ wx.cell? ⟨g, 0, none⟩ = some (.int .i64 (at_ : Int)) ∧ g < wx.heap.size ∧ Below wv.heap.size wv wx)
    case first =>
      go_region_held3 (fun w' => w'.cell? ⟨B, 0, none⟩ = some (.int .i64 (z.f : Int)) ∧ w'.cell? ⟨B, 1, none⟩ = some (.int .i64 (z.e : Int)) ∧ w'.cell? ⟨B, 2, none⟩ = some (.slice a1 n1 c1) ∧ w'.cell? ⟨B, 3, none⟩ = some (.slice a2 n2 c2) ∧ w'.cell? ⟨C, 0, none⟩ = some (.int .i64 (o : Int))) (first | with_reducible exact ⟨k0, k1, k2, k3, kc⟩ | with_reducible exact ⟨p0, p1, p2, p3, p4⟩ | (refine ⟨?_, ?_, ?_, ?_, ?_⟩ <;> (repeat (first | (with_reducible assumption) | (with_reducible refine cell_setFar (by omega) ?_) | (with_reducible refine cell_allocFar (by first | (with_reducible assumption) | (simp; done) | (simp; omega) | omega) ?_) | (with_reducible refine cell_drewFar ?_))))) (first | (go_at_call 13; refine (hpick _).mono ?_; rintro ev _ ⟨rfl, rfl⟩) | (go_at_call 14; (with_reducible refine (hTk _ HW0.out).mono ?_); rintro ev wk ⟨e1, e2, s1, t1, t2, rfl, hbA, hbk⟩; have hbK : Below wv.heap.size wv wk := Below.step ((Below.refl _ _).drew) hbk; have p0 := (hbA.cell (p := ⟨B, 0, none⟩) hBv).trans k0; have p1 := (hbA.cell (p := ⟨B, 1, none⟩) hBv).trans k1; have p2 := (hbA.cell (p := ⟨B, 2, none⟩) hBv).trans k2; have p3 := (hbA.cell (p := ⟨B, 3, none⟩) hBv).trans k3; have p4 := (hbA.cell (p := ⟨C, 0, none⟩) hCv).trans kc; have hBk := Nat.lt_of_lt_of_le hBv hbA.size; have hCk := Nat.lt_of_lt_of_le hCv hbA.size; have hN0 : wv.heap.size ≤ wk.heap.size := hbA.size) | (go_at_call 14; (with_reducible refine (hTk _ HW1.out).mono ?_); rintro ev wk ⟨e1, e2, s1, t1, t2, rfl, hbA, hbk⟩; have hbK : Below (wv.alloc (.cells #[.int .i64 0, .int .i64 0, .slice none 0 0, .slice none 0 0] 26)).heap.size (wv.alloc (.cells #[.int .i64 0, .int .i64 0, .slice none 0 0, .slice none 0 0] 26)) wk := Below.step ((Below.refl _ _).drew) hbk; have p0 := (hbA.cell (p := ⟨B, 0, none⟩) hBv).trans k0; have p1 := (hbA.cell (p := ⟨B, 1, none⟩) hBv).trans k1; have p2 := (hbA.cell (p := ⟨B, 2, none⟩) hBv).trans k2; have p3 := (hbA.cell (p := ⟨B, 3, none⟩) hBv).trans k3; have p4 := (hbA.cell (p := ⟨C, 0, none⟩) hCv).trans kc; have hBk := Nat.lt_of_lt_of_le hBv hbA.size; have hCk := Nat.lt_of_lt_of_le hCv hbA.size; have hN0 : wv.heap.size ≤ wk.heap.size := hbA.size; have K11 := box_step HZ1.out HS1.out hbK; have F11 := frz_step HY1.out HS1.out hbK; have g1 := Nat.lt_of_lt_of_le HS1.out hbK.size) | (go_at_call 14; (with_reducible refine (hTk _ HW2.out).mono ?_); rintro ev wk ⟨e1, e2, s1, t1, t2, rfl, hbA, hbk⟩; have hbK : Below (wv.alloc (.cells #[.int .i64 0] 3)).heap.size (wv.alloc (.cells #[.int .i64 0] 3)) wk := Below.step ((Below.refl _ _).drew) hbk; have p0 := (hbA.cell (p := ⟨B, 0, none⟩) hBv).trans k0; have p1 := (hbA.cell (p := ⟨B, 1, none⟩) hBv).trans k1; have p2 := (hbA.cell (p := ⟨B, 2, none⟩) hBv).trans k2; have p3 := (hbA.cell (p := ⟨B, 3, none⟩) hBv).trans k3; have p4 := (hbA.cell (p := ⟨C, 0, none⟩) hCv).trans kc; have hBk := Nat.lt_of_lt_of_le hBv hbA.size; have hCk := Nat.lt_of_lt_of_le hCv hbA.size; have hN0 : wv.heap.size ≤ wk.heap.size := hbA.size; have K12 := box_step HI2.out HS2.out hbK; have k12 : wk.cell? ⟨wv.heap.size, 0, none⟩ = some (.int .i64 0) := K12 0; have F12 := frz_step HJ2.out HS2.out hbK; have g1 := Nat.lt_of_lt_of_le HS2.out hbK.size) | (go_at_call 14; (with_reducible refine (hTk _ HW3.out).mono ?_); rintro ev wk ⟨e1, e2, s1, t1, t2, rfl, hbA, hbk⟩; have hbK : Below ((wv.alloc (.cells #[.int .i64 0, .int .i64 0, .slice none 0 0, .slice none 0 0] 26)).alloc (.cells #[.int .i64 0] 3)).heap.size ((wv.alloc (.cells #[.int .i64 0, .int .i64 0, .slice none 0 0, .slice none 0 0] 26)).alloc (.cells #[.int .i64 0] 3)) wk := Below.step ((Below.refl _ _).drew) hbk; have p0 := (hbA.cell (p := ⟨B, 0, none⟩) hBv).trans k0; have p1 := (hbA.cell (p := ⟨B, 1, none⟩) hBv).trans k1; have p2 := (hbA.cell (p := ⟨B, 2, none⟩) hBv).trans k2; have p3 := (hbA.cell (p := ⟨B, 3, none⟩) hBv).trans k3; have p4 := (hbA.cell (p := ⟨C, 0, none⟩) hCv).trans kc; have hBk := Nat.lt_of_lt_of_le hBv hbA.size; have hCk := Nat.lt_of_lt_of_le hCv hbA.size; have hN0 : wv.heap.size ≤ wk.heap.size := hbA.size; have K11 := box_step HZ3.out (Nat.lt_of_succ_lt HS3.out) hbK; have F11 := frz_step HY3.out (Nat.lt_of_succ_lt HS3.out) hbK; have K12 := box_step HI3.out HS3.out hbK; have k12 : wk.cell? ⟨wv.heap.size + 1, 0, none⟩ = some (.int .i64 0) := K12 0; have F12 := frz_step HJ3.out HS3.out hbK; have g1 := Nat.lt_of_lt_of_le HS3.out hbK.size) | (go_at_call 14; (with_reducible refine (hTk _ HW4.out).mono ?_); rintro ev wk ⟨e1, e2, s1, t1, t2, rfl, hbA, hbk⟩; have hbK : Below ((wv.alloc (.cells #[.int .i64 0] 3)).alloc (.cells #[.int .i64 0, .int .i64 0, .slice none 0 0, .slice none 0 0] 26)).heap.size ((wv.alloc (.cells #[.int .i64 0] 3)).alloc (.cells #[.int .i64 0, .int .i64 0, .slice none 0 0, .slice none 0 0] 26)) wk := Below.step ((Below.refl _ _).drew) hbk; have p0 := (hbA.cell (p := ⟨B, 0, none⟩) hBv).trans k0; have p1 := (hbA.cell (p := ⟨B, 1, none⟩) hBv).trans k1; have p2 := (hbA.cell (p := ⟨B, 2, none⟩) hBv).trans k2; have p3 := (hbA.cell (p := ⟨B, 3, none⟩) hBv).trans k3; have p4 := (hbA.cell (p := ⟨C, 0, none⟩) hCv).trans kc; have hBk := Nat.lt_of_lt_of_le hBv hbA.size; have hCk := Nat.lt_of_lt_of_le hCv hbA.size; have hN0 : wv.heap.size ≤ wk.heap.size := hbA.size; have K12 := box_step HI4.out (Nat.lt_of_succ_lt HS4.out) hbK; have k12 : wk.cell? ⟨wv.heap.size, 0, none⟩ = some (.int .i64 0) := K12 0; have F12 := frz_step HJ4.out (Nat.lt_of_succ_lt HS4.out) hbK; have K11 := box_step HZ4.out HS4.out hbK; have F11 := frz_step HY4.out HS4.out hbK; have g1 := Nat.lt_of_lt_of_le HS4.out hbK.size))
      all_goals rename_i hHeld
      all_goals clear hHeld
      all_goals go_wp2_with fail
      all_goals go_meet
      all_goals refine ⟨_, rfl, rfl, ?_, ?_, ?_⟩
      all_goals clear HW0 HW1 HW2 HW3 HW4 HS1 HS2 HS3 HS4 HZ1 HY1 HI2 HJ2 HZ3 HY3 HI3 HJ3 HI4 HJ4 HZ4 HY4 hTk hpick
      all_goals repeat' first
        | (with_reducible assumption)
        | (with_reducible refine cell_allocNew ?_)
        | (with_reducible refine cell_setSame ?_)
        | (with_reducible refine Exists.intro (.int .i64 0) ?_)
        | (with_reducible refine cell_setFar ?_ ?_)
        | (with_reducible refine cell_allocFar ?_ ?_)
        | (with_reducible refine Below.drew ?_)
        | (with_reducible refine Below.alloc ?_ ?_ _)
        | (with_reducible refine Below.setCell ?_ ?_ _)
        | omega
        | (simp only [World.size_alloc, World.size_setCell]; done)
        | (simp only [World.size_alloc, World.size_setCell]; omega)
        | (dsimp only; omega)
    case rest =>
      clear hTk hpick HW0 HW1 HW2 HW3 HW4 HS1 HS2 HS3 HS4 HZ1 HY1 HI2 HJ2 HZ3 HY3 HI3 HJ3 HI4 HJ4 HZ4 HY4
      obtain ⟨g, rfl, rfl, hg, hgs, hbc⟩ := hcut
      have hfits : (z.l.any fun x => decide (o ≤ x.o)) = true := by
        obtain ⟨b, hb, _, hbo⟩ := hINN.out
        rw [List.any_eq_true]
        exact ⟨b, hb, decide_eq_true hbo⟩
      have hins : (z.l.any fun x => decide (x.a ≤ at_ ∧ at_ + 2 ^ o ≤ x.fin)) = true := by
        obtain ⟨b, hb, hba, hbo⟩ := hINN.out
        rw [List.any_eq_true]
        refine ⟨b, hb, decide_eq_true ⟨by omega, ?_⟩⟩
        unfold Bk.fin
        have := Nat.pow_le_pow_right (show 0 < 2 by omega) hbo
        omega
      clear hINN
      have K3c := box_step K3b hBv hbc
      have K10c := box_step K10 hCv hbc
      have hBc := Nat.lt_of_lt_of_le hBv hbc.size
      have hCc := Nat.lt_of_lt_of_le hCv hbc.size
      have hatc := hat3.below hbc
      have hbwc := Below.step hbw3 hbc
      have kc2 := K3c 2
      have ko := K10c 0
      simp only [List.getElem?_toArray, List.getElem?_cons_zero, List.getElem?_cons_succ] at kc2 ko
      have eg1 : ∀ args w, (callFunc 16 args).run Tryd.prog w = .ok (.enter 16 args) w := enters_of Tryd.func16 (by kernel_rfl) rfl
      have eg2 : ∀ args w, (callFunc 17 args).run Tryd.prog w = .ok (.enter 17 args) w := enters_of Tryd.func17 (by kernel_rfl) rfl
      have hFIT := Hid.mk hfits
      have hINS := Hid.mk hins
      clear hbc hfits hins k0 k1 k2 k3 kc hoth3 hat3 hbw3 K3b K10
      go_wp2_with fail
      refine (containsFuncBk _ _ _ z.l _ _ (fun x => decide (o ≤ x.o)) _ hl1 (by omega) hatc.r1 eg1 (fun W hW x hx => greatEnough x o C W (hzok.2.fit x hx).1.1 (by omega) (Nat.lt_of_lt_of_le hCc hW.size) ((hW.cell (p := ⟨C, 0, none⟩) hCc).trans ko))).mono ?_
      rw [hFIT.out]
      rintro ev w5 ⟨rfl, hb5⟩
      have K3d := box_step K3c hBc hb5
      have kd2 := K3d 2
      have kod := (hb5.cell (p := ⟨C, 0, none⟩) hCc).trans ko
      have hgd := (hb5.cell (p := ⟨g, 0, none⟩) hgs).trans hg
      have hBd := Nat.lt_of_lt_of_le hBc hb5.size
      have hCd := Nat.lt_of_lt_of_le hCc hb5.size
      have hGd := Nat.lt_of_lt_of_le hgs hb5.size
      have hatd := hatc.below hb5
      have hbwd := Below.step hbwc hb5
      simp only [List.getElem?_toArray, List.getElem?_cons_zero, List.getElem?_cons_succ] at kd2
      clear hb5 K3c K10c hBc hCc hatc hbwc kc2 ko hg hgs eg1
      dsimp only
      go_wp2_with fail
      refine (containsFuncBk _ _ _ z.l _ _ (fun x => decide (x.a ≤ at_ ∧ at_ + 2 ^ o ≤ x.fin)) _ hl1 (by omega) hatd.r1 eg2 (fun W hW x hx => isInside x (at_) o g C W (hzok.2.fit x hx).1.1 (by have := (hzok.2.fit x hx).1.2.2.1; have := hzok.1.e2; omega) (by omega) (by omega) (Nat.lt_of_lt_of_le hGd hW.size) ((hW.cell (p := ⟨g, 0, none⟩) hGd).trans hgd) (Nat.lt_of_lt_of_le hCd hW.size) ((hW.cell (p := ⟨C, 0, none⟩) hCd).trans kod))).mono ?_
      rw [hINS.out]
      rintro ev w6 ⟨rfl, hb6⟩
      have hbw6 := Below.step hbwd hb6
      clear hb6 hatd hbwd kd2 kod hgd
      dsimp only
      go_wp2
      go_ret
      exact ⟨rfl, hbw6⟩

end Go.Proofs.YtbkajbjhffdlfaaDoor
