/- Sb13, Sb14, Sb15: texts of this claim, joined. -/
import Derived.Test.YtkcaheebaicinaaGreatDoorSN20
import Derived.Test.YtkcaheebaicinaaGreatDoorSN45
/- Contracts of package slab: choose. -/
namespace Go.Proofs.YtkcaheebaicinaaGreatDoor
open Go.RowKit
set_option linter.unusedVariables false
set_option linter.unusedSimpArgs false

set_option maxRecDepth 100000 in
set_option maxHeartbeats 4000000 in
/-- has a slab a free object, and is it nobody's? -/
theorem chooseC_ok (x : Sl) (y : Cc) (C gc o : Nat) (W : World) (hC : C < W.heap.size) (hg : gc < W.heap.size) (hl : y.c.ac.length = y.n3) (hn : y.n3 ≤ 1000) (hr : Row W y.a3 (y.c.ac.map vI)) (hc : W.cell? ⟨C, 0, none⟩ = some (.pointer (some ⟨gc, o, none⟩))) (h5 : W.cell? ⟨gc, o + 5, none⟩ = some (.slice y.a3 y.n3 y.c3)) :
    Calls Tryz.prog 101 (#[.agg (encSl x).toArray] ++ #[.pointer (some ⟨C, 0, none⟩)]) W fun ev w' => ev = .returned (.bool (decide (0 < x.n) && !y.c.ac.contains (x.p : Int))) ∧ Below W.heap.size W w' := by
  show Calls Tryz.prog 101 #[.agg #[.int .i64 x.p, .int .i64 x.n, .int .i64 x.h], .pointer (some ⟨C, 0, none⟩)] W _
  obtain ⟨K1, F1, hsz, hbw⟩ := boxes1 W #[.int .i64 (x.p : Int), .int .i64 (x.n : Int), .int .i64 x.h] 87
  have k0 := K1 0
  have k1 := K1 1
  simp only [List.getElem?_toArray, List.getElem?_cons_zero, List.getElem?_cons_succ] at k0 k1
  have c0 := (hbw.cell (p := ⟨C, 0, none⟩) hC).trans hc
  have c5 := (hbw.cell (p := ⟨gc, o + 5, none⟩) hg).trans h5
  have HR := Hid.mk (hr.below hbw)
  have HB := Hid.mk hbw
  have HCON : Hid (∀ W', Below (W.alloc (.cells #[.int .i64 (x.p : Int), .int .i64 (x.n : Int), .int .i64 x.h] 87)).heap.size (W.alloc (.cells #[.int .i64 (x.p : Int), .int .i64 (x.n : Int), .int .i64 x.h] 87)) W' → Calls Tryz.prog 18 #[.slice y.a3 y.n3 y.c3, .int .i64 x.p] W' fun e w' => e = .returned (.bool (hasI y.c.ac (x.p : Int))) ∧ W' = w') := fun W' hW => by
    have h := contains_int y.a3 y.c3 y.c.ac (x.p : Int) W' (by omega) (HR.out.below hW)
    rw [hl] at h
    exact h
  have L0 : ∀ W', Below (W.alloc (.cells #[.int .i64 (x.p : Int), .int .i64 (x.n : Int), .int .i64 x.h] 87)).heap.size (W.alloc (.cells #[.int .i64 (x.p : Int), .int .i64 (x.n : Int), .int .i64 x.h] 87)) W' → W'.cell? ⟨W.heap.size, 0, none⟩ = some (.int .i64 (x.p : Int)) := fun W' h => (h.cell (p := ⟨W.heap.size, 0, none⟩) hsz).trans k0
  have L1 : ∀ W', Below (W.alloc (.cells #[.int .i64 (x.p : Int), .int .i64 (x.n : Int), .int .i64 x.h] 87)).heap.size (W.alloc (.cells #[.int .i64 (x.p : Int), .int .i64 (x.n : Int), .int .i64 x.h] 87)) W' → W'.cell? ⟨W.heap.size, 1, none⟩ = some (.int .i64 (x.n : Int)) := fun W' h => (h.cell (p := ⟨W.heap.size, 1, none⟩) hsz).trans k1
  have L2 : ∀ W', Below (W.alloc (.cells #[.int .i64 (x.p : Int), .int .i64 (x.n : Int), .int .i64 x.h] 87)).heap.size (W.alloc (.cells #[.int .i64 (x.p : Int), .int .i64 (x.n : Int), .int .i64 x.h] 87)) W' → W'.cell? ⟨C, 0, none⟩ = some (.pointer (some ⟨gc, o, none⟩)) := fun W' h => (h.cell (p := ⟨C, 0, none⟩) (Nat.lt_of_lt_of_le hC hbw.size)).trans c0
  have L3 : ∀ W', Below (W.alloc (.cells #[.int .i64 (x.p : Int), .int .i64 (x.n : Int), .int .i64 x.h] 87)).heap.size (W.alloc (.cells #[.int .i64 (x.p : Int), .int .i64 (x.n : Int), .int .i64 x.h] 87)) W' → W'.cell? ⟨gc, o + 5, none⟩ = some (.slice y.a3 y.n3 y.c3) := fun W' h => (h.cell (p := ⟨gc, o + 5, none⟩) (Nat.lt_of_lt_of_le hg hbw.size)).trans c5
  clear hbw hr hc h5 K1 F1
  by_cases hx : 0 < x.n
  · have hxi : (0 : Int) < x.n := by omega
    go_enter Tryz.func101, Tryz.ntmps101
    go_upto_region 1 with fail
    generalize W.alloc (.cells #[.int .i64 (x.p : Int), .int .i64 (x.n : Int), .int .i64 x.h] 87) = w1 at *
    go_region_held3 (fun W => Below w1.heap.size w1 W) ((repeat (first | with_reducible assumption | with_reducible exact Below.refl _ _ | with_reducible refine Below.setCell ?_ ?_ _ | with_reducible apply Below.drew | with_reducible refine Below.step ?_ (below_alloc _ _) | with_reducible refine Below.step ?_ (by with_reducible assumption) | (simp only; omega))))(first | (go_at_call 18; refine (HCON.out _ (by with_reducible assumption)).mono ?_; rintro ev w2 ⟨rfl, rfl⟩))
    all_goals
      go_wp2_with fail
      go_ret
      refine ⟨ret_bool ?_, Below.step HB.out (by assumption)⟩
      first | rfl | (rw [decide_eq_true hx]; rfl) | trace_state
  · have hxi : ¬ (0 : Int) < x.n := by omega
    go_enter Tryz.func101, Tryz.ntmps101
    go_upto_region 1 with fail
    go_quiet (fail)
    go_wp2_with fail
    go_ret
    refine ⟨ret_bool ?_, Below.step HB.out (below_drewN (Below.refl _ _) _)⟩
    first | rfl | (rw [decide_eq_false hx]; rfl)

theorem own_some {c : Ca} {cpu k : Nat} {p : Int} (hp : c.ac.getD cpu (-1) = p) (h : c.own cpu = some k) : findI (fun x : Sl => decide ((x.p : Int) = p)) c.sl = k ∧ ∃ h : k < c.sl.length, 0 < c.sl[k].n := by
  unfold Ca.own Ca.find at h
  rw [hp] at h
  unfold findI
  cases hf : c.sl.findIdx? (fun x => decide ((x.p : Int) = p)) with
  | none => rw [hf] at h; cases h
  | some j =>
    rw [hf] at h
    simp only at h
    have hj : j < c.sl.length := by
      rw [List.findIdx?_eq_some_iff_getElem] at hf
      exact hf.1
    rw [List.getElem?_eq_getElem hj] at h
    simp only at h
    split at h
    · obtain rfl : j = k := by simpa using h
      exact ⟨rfl, hj, by assumption⟩
    · cases h
theorem own_none {c : Ca} {cpu : Nat} {p : Int} (hp : c.ac.getD cpu (-1) = p) (h : c.own cpu = none) : findI (fun x : Sl => decide ((x.p : Int) = p)) c.sl = -1 ∨ ∃ k : Nat, findI (fun x : Sl => decide ((x.p : Int) = p)) c.sl = k ∧ ∃ h : k < c.sl.length, c.sl[k].n = 0 := by
  unfold Ca.own Ca.find at h
  rw [hp] at h
  unfold findI
  cases hf : c.sl.findIdx? (fun x => decide ((x.p : Int) = p)) with
  | none => exact .inl rfl
  | some j =>
    rw [hf] at h
    simp only at h
    have hj : j < c.sl.length := by
      rw [List.findIdx?_eq_some_iff_getElem] at hf
      exact hf.1
    rw [List.getElem?_eq_getElem hj] at h
    simp only at h
    split at h
    · cases h
    · exact .inr ⟨j, rfl, hj, by omega⟩
theorem nobody_some {c : Ca} {k : Nat} (h : c.nobody = some k) : findI (fun x : Sl => decide (0 < x.n) && !c.ac.contains (x.p : Int)) c.sl = k ∧ k < c.sl.length := by
  unfold Ca.nobody at h
  unfold findI
  rw [h]
  rw [List.findIdx?_eq_some_iff_getElem] at h
  exact ⟨rfl, h.1⟩
theorem nobody_none {c : Ca} (h : c.nobody = none) : findI (fun x : Sl => decide (0 < x.n) && !c.ac.contains (x.p : Int)) c.sl = -1 := by
  unfold Ca.nobody at h
  unfold findI
  rw [h]
theorem putS_len (l : List Sl) (x : Sl) : (putS l x).length = l.length + 1 ∧ lbS l x.p ≤ l.length := by
  have h : lbS l x.p ≤ l.length := (List.takeWhile_sublist _).length_le
  unfold putS
  constructor
  · simp
    omega
  · exact h

theorem grow_some {s s2 : Sy} {i cpu k : Nat} {c : Ca} (h : s.grow i cpu c = some (s2, k)) : ∃ h' a, s.h.alloc cpu c.o 0 false false = some (h', a) ∧ s2 = { w := chainTo s.w (16 * a) c.z c.r c.r, h := h', cs := s.cs.set i { c with sl := putS c.sl ⟨a, c.r, ((16 * a : Nat) : Int)⟩ } } ∧ k = lbS c.sl a := by
  unfold Sy.grow at h
  cases hal : s.h.alloc cpu c.o 0 false false with
  | none => rw [hal] at h; cases h
  | some r =>
    obtain ⟨h', a⟩ := r
    rw [hal] at h
    have h1 := Option.some.inj h
    rw [Prod.mk.injEq] at h1
    exact ⟨h', a, rfl, h1.1.symm, h1.2.symm⟩
theorem grow_shape {s s2 : Sy} {i cpu k : Nat} {c : Ca} (hi : i < s.cs.length) (h : s.grow i cpu c = some (s2, k)) : s2.cs.length = s.cs.length ∧ ∃ c2, s2.cs[i]? = some c2 ∧ c2.ac = c.ac ∧ k < c2.sl.length := by
  obtain ⟨h', a, _, rfl, rfl⟩ := grow_some h
  have h3 := putS_len c.sl ⟨a, c.r, ((16 * a : Nat) : Int)⟩
  refine ⟨by simp, { c with sl := putS c.sl ⟨a, c.r, ((16 * a : Nat) : Int)⟩ }, by rw [List.getElem?_set_self hi], rfl, ?_⟩
  show lbS c.sl a < (putS c.sl ⟨a, c.r, ((16 * a : Nat) : Int)⟩).length
  rw [h3.1]
  exact Nat.lt_succ_of_le h3.2

/-- what choose answers -/
def chooseP (v : Sc) (s : Sy) (i cpu : Nat) (G : Nat) (X : Nat → Prop) (w : World) (ev : Ending) (w' : World) : Prop := (s.choose i cpu = none ∧ ev = .returned (.tuple #[.int .i64 0, .int .i64 6]) ∧ Below w.heap.size w w') ∨ (∃ (s' : Sy) (k : Nat) (v' : Sc), s.choose i cpu = some (s', k) ∧ ev = .returned (.tuple #[.int .i64 k, .int .i64 0]) ∧ SS w' G X s' v' ∧ Safe X w w' ∧ v'.a2 = v.a2)

set_option maxHeartbeats 8000000 in
set_option maxRecDepth 100000 in
theorem chooseS_ok (v : Sc) (s : Sy) (G i cpu : Nat) (X : Nat → Prop) (w : World) (hs : SS w G X s v) (hk : SOk s) (hi : i < v.ys.length) (hcpu : cpu < s.h.cpus) (ho : Oth w) (hX0 : X 1) :
    Calls Tryz.prog 68 #[.pointer (some ⟨G, 0, none⟩), .int .i64 i, .int .i64 cpu] w (chooseP v s i cpu G X w) := by
  obtain ⟨gc, ha2, hgcs, hgcG, hgcX, hcc⟩ := hs.r.cAt hi
  have hcm : v.ys[i].c ∈ s.cs := by rw [← hs.r.cy]; exact List.mem_map_of_mem (List.getElem_mem hi)
  have hic : i < s.cs.length := by rw [← hs.r.cy, List.length_map]; exact hi
  have hci : s.cs[i]? = some v.ys[i].c := by
    rw [← hs.r.cy, List.getElem?_map, List.getElem?_eq_getElem hi]
    rfl
  have hck := hk.ck _ hcm
  have hym := List.getElem_mem hi
  have hcy := hs.r.at.ca _ hym
  have hii : (i : Int) < v.ys.length := by omega
  have hvl : v.ys.length ≤ 20 := by have := congrArg List.length hs.r.cy; rw [List.length_map] at this; rw [this]; exact hk.cl
  obtain ⟨y, hy⟩ : ∃ y, v.ys[i] = y := ⟨_, rfl⟩
  have HY := Hid.mk hy
  rw [hy] at hcc hck hcy hci hym
  have hl1 := hcy.l1
  have hl2 := hcy.l2
  have hl3 := hcy.l3
  have hsl := hck.sl_len hk.hk
  have hac := hck.ac
  have hcp := hk.hk.cp.2
  have hcl : cpu < y.c.ac.length := by omega
  have hcn : (cpu : Int) < y.n3 := by omega
  obtain ⟨ga, hga, _, hgas, hca, hfa⟩ := own_at (hs.r.y hym).2.2 cpu (by simpa [acR] using hcl)
  obtain ⟨p, hp⟩ : ∃ p, y.c.ac[cpu] = p := ⟨_, rfl⟩
  have pa : w.cell? ⟨ga, cpu, none⟩ = some (.int .i64 p) := by
    rw [hca]
    simp [acR, vI, hp]
  have hpb : -1 ≤ p ∧ p ≤ 256 := by
    rcases hck.aw p (by rw [← hp]; exact List.getElem_mem hcl) with h | ⟨x, hx, h⟩
    · omega
    · have := (hck.sk x hx).p_lt hk.hk
      omega
  obtain ⟨b0, _⟩ := hcc 0 (by decide)
  obtain ⟨b1, _⟩ := hcc 1 (by decide)
  obtain ⟨b2, _⟩ := hcc 2 (by decide)
  obtain ⟨b3, _⟩ := hcc 3 (by decide)
  obtain ⟨b4, _⟩ := hcc 4 (by decide)
  obtain ⟨b5, _⟩ := hcc 5 (by decide)
  simp only [encCc, vI, List.getElem?_cons_zero, List.getElem?_cons_succ, Nat.add_zero] at b0 b1 b2 b3 b4 b5
  have g6 := hs.k 6
  unfold Sc.vals at g6
  simp only [List.getElem?_toArray, List.getElem?_cons_zero, List.getElem?_cons_succ] at g6
  rw [ha2] at g6
  have hn1 : y.c.ac.getD cpu (-1) = p := by
    rw [← hp]
    simp [List.getD, List.getElem?_eq_getElem hcl]
  obtain ⟨T0, TF, hT1, hTb⟩ := boxes1 w #[.pointer (some ⟨gc, i * 6, none⟩)] 74
  have t0 := T0 0
  simp only [List.getElem?_toArray, List.getElem?_cons_zero, List.getElem?_cons_succ] at t0
  have HS := Hid.mk hs
  have HK := Hid.mk hk
  have HCK := Hid.mk hck
  have HCI := Hid.mk hci
  have HCY := Hid.mk hcy
  have HB1 := Hid.mk hTb
  have HS1 := Hid.mk (hs.new hTb)
  have hGs := hs.r.hr.gs
  clear hs hk hcc hy hck hcm hci hcy hca hTb T0 TF hp
  go_enter Tryz.func68, Tryz.ntmps68
  go_upto_region 2 with fail
  generalize w.alloc (.cells #[.pointer (some ⟨gc, i * 6, none⟩)] 74) = w1 at *
  have L0 : ∀ W, Below w1.heap.size w1 W → W.cell? ⟨gc, i * 6, none⟩ = some (.slice y.a1 y.n1 y.c1) := fun W h => ((Below.trans HB1.out (h.mono HB1.out.size)).cell (p := ⟨gc, i * 6, none⟩) hgcs).trans b0
  have L1 : ∀ W, Below w1.heap.size w1 W → W.cell? ⟨gc, i * 6 + 1, none⟩ = some (.int .i64 (y.c.z : Int)) := fun W h => ((Below.trans HB1.out (h.mono HB1.out.size)).cell (p := ⟨gc, i * 6 + 1, none⟩) hgcs).trans b1
  have L2 : ∀ W, Below w1.heap.size w1 W → W.cell? ⟨gc, i * 6 + 2, none⟩ = some (.int .i64 (y.c.r : Int)) := fun W h => ((Below.trans HB1.out (h.mono HB1.out.size)).cell (p := ⟨gc, i * 6 + 2, none⟩) hgcs).trans b2
  have L3 : ∀ W, Below w1.heap.size w1 W → W.cell? ⟨gc, i * 6 + 3, none⟩ = some (.int .i64 (y.c.o : Int)) := fun W h => ((Below.trans HB1.out (h.mono HB1.out.size)).cell (p := ⟨gc, i * 6 + 3, none⟩) hgcs).trans b3
  have L4 : ∀ W, Below w1.heap.size w1 W → W.cell? ⟨gc, i * 6 + 4, none⟩ = some (.slice y.a2 y.n2 y.c2) := fun W h => ((Below.trans HB1.out (h.mono HB1.out.size)).cell (p := ⟨gc, i * 6 + 4, none⟩) hgcs).trans b4
  have L5 : ∀ W, Below w1.heap.size w1 W → W.cell? ⟨gc, i * 6 + 5, none⟩ = some (.slice y.a3 y.n3 y.c3) := fun W h => ((Below.trans HB1.out (h.mono HB1.out.size)).cell (p := ⟨gc, i * 6 + 5, none⟩) hgcs).trans b5
  have L6 : ∀ W, Below w1.heap.size w1 W → W.cell? ⟨w.heap.size, 0, none⟩ = some (.pointer (some ⟨gc, i * 6, none⟩)) := fun W h => (h.cell (p := ⟨w.heap.size, 0, none⟩) hT1).trans t0
  have L7 : ∀ W, Below w1.heap.size w1 W → W.cell? ⟨ga, cpu, none⟩ = some (.int .i64 p) := fun W h => ((Below.trans HB1.out (h.mono HB1.out.size)).cell (p := ⟨ga, cpu, none⟩) hgas).trans pa
  have HFD : Hid (∀ W, Below w1.heap.size w1 W → Calls Tryz.prog 77 #[.agg #[.slice y.a1 y.n1 y.c1, .int .i64 y.c.z, .int .i64 y.c.r, .int .i64 y.c.o, .slice y.a2 y.n2 y.c2, .slice y.a3 y.n3 y.c3], .int .i64 p] W fun ev w' => ev = .returned (.int .i64 (findI (fun x => decide ((x.p : Int) = p)) y.c.sl)) ∧ Below W.heap.size W w') := fun W hW => find_sl y p W ((HCY.out.below HB1.out).below hW) (by omega) (fun x hx => by have := (HCK.out.sk x hx).p_lt HK.out.hk; omega) (by omega)
  have HL5 := Hid.mk L5
  simp only [hga] at L5 HFD
  have HGA := Hid.mk hga
  clear hga
  clear b0 b1 b2 b3 b4 b5 t0 pa hl1 hl2 hl3 hsl hac hcp
  go_cut [9] (fun s9 wx => s9 = .int .i64 (findI (fun x => decide ((x.p : Int) = p)) y.c.sl) ∧ Hid (Below w1.heap.size w1 wx))
  case first =>
    go_region_held3 (fun W => Below w1.heap.size w1 W) ((repeat (first | with_reducible assumption | with_reducible exact Below.refl _ _ | with_reducible refine Below.setCell ?_ ?_ _ | with_reducible apply Below.drew | with_reducible refine Below.step ?_ (below_alloc _ _) | with_reducible refine Below.step ?_ (by with_reducible assumption) | (simp only; omega))))(first | (go_at_call 77; refine (HFD.out _ (by with_reducible assumption)).mono ?_; rintro ev w2 ⟨rfl, hb2⟩))
    all_goals
      go_wp2_with fail
      go_meet
      exact ⟨by first | rfl | trivial, by assumption⟩
  case rest =>
    obtain ⟨rfl, HB2⟩ := hcut
    obtain ⟨w2, rfl⟩ : ∃ w2, w2 = wc := ⟨_, rfl⟩
    have b4 := L4 w2 HB2.out
    have t0 := L6 w2 HB2.out
    clear L0 L1 L2 L3 L4 L5 L6 L7 HFD
    have hT2 := Nat.lt_of_lt_of_le hT1 HB2.out.size
    have hcyc := (HCY.out.below HB1.out).below HB2.out
    have HS2 := Hid.mk (HS1.out.below HB2.out)
    have HR2 := Hid.mk hcyc.r2
    have hl2 := hcyc.l2
    have HCYC := Hid.mk hcyc
    have HB12 := Hid.mk (Below.trans HB1.out (HB2.out.mono HB1.out.size))
    have hsl := HCK.out.sl_len HK.out.hk
    have hn2 : y.n2 ≤ 256 := by omega
    clear hcyc hsl
    cases hown : y.c.own cpu with
    | some k =>
      obtain ⟨hfi, hks, hkn⟩ := own_some hn1 hown
      rw [hfi]
      have HCH : Hid (s.choose i cpu = some (s, k)) := by
        unfold Hid Sy.choose
        rw [HCI.out]
        simp only [hown]
      have hki : (k : Int) < y.n2 := by omega
      obtain ⟨sb, so, hsb, hsbl, hsbc⟩ := row_elem encSl_length (by decide) HR2.out hks
      obtain ⟨e0, e1, e2⟩ := encSl_cells hsbc
      have hkni : (0 : Int) < y.c.sl[k].n := by omega
      generalize y.c.sl[k] = x at *
      rw [hsb] at b4
      have hk0 : (0 : Int) ≤ k := by omega
      clear hsbc hown hfi hkn hks hsb
      go_wp2_with fail
      exact bodyPost_ret (v := .tuple #[.int .i64 (k : Int), .int .i64 0]) (by simp [results, Tryz.results68, go_sem]) rfl (.inr ⟨s, k, v, HCH.out, rfl, HS2.out.sub (fun _ h => .inl h), Safe.ofBelow HB12.out, rfl⟩)
    | none =>
      have hcase := own_none hn1 hown
      generalize findI (fun x : Sl => decide ((x.p : Int) = p)) y.c.sl = kf at *
      have HOWN := Hid.mk hown
      clear hown
      go_upto_region 3 with fail
      go_cut [41] (fun s41 wx => s41 = .bool false ∧ wx = w2)
      case first =>
        rcases hcase with hm | ⟨k, hm, hks, hz⟩
        · obtain rfl := hm
          go_wp2_with fail
          go_meet
          exact ⟨by first | rfl | trivial, by first | rfl | trivial⟩
        · obtain rfl := hm
          have hki : (k : Int) < y.n2 := by omega
          obtain ⟨sb, so, hsb, hsbl, hsbc⟩ := row_elem encSl_length (by decide) HR2.out hks
          obtain ⟨e0, e1, e2⟩ := encSl_cells hsbc
          have hk0 : (0 : Int) ≤ k := by omega
          have hkni : ¬ (0 : Int) < y.c.sl[k].n := by omega
          generalize y.c.sl[k] = x at *
          rw [hsb] at b4
          clear hsbc hks hsb hz
          go_wp2_with fail
          go_meet
          exact ⟨by first | rfl | trivial | (rw [decide_eq_false (by omega)]), by first | rfl | trivial⟩
      case rest =>
        obtain ⟨rfl, hwz⟩ := hcut
        obtain rfl : w2 = wc := hwz.symm
        have eg : ∀ args w, (callFunc 101 args).run Tryz.prog w = .ok (.enter 101 args) w := enters_of Tryz.func101 (by kernel_rfl) rfl
        have hac := HCK.out.ac
        have hcp := HK.out.hk.cp.2
        have hl3 := HCYC.out.l3
        have HIX := Hid.mk (indexFuncSl y.a2 y.n2 y.c2 y.c.sl 101 #[.pointer (some ⟨w.heap.size, 0, none⟩)] (fun x => decide (0 < x.n) && !y.c.ac.contains (x.p : Int)) w2 HCYC.out.l2 (by omega) HR2.out eg (fun W hW x hx => chooseC_ok x y w.heap.size gc (i * 6) W (Nat.lt_of_lt_of_le hT2 hW.size) (Nat.lt_of_lt_of_le hgcs (Nat.le_trans HB12.out.size hW.size)) hl3 (by omega) (HCYC.out.r3.below hW) ((hW.cell (p := ⟨w.heap.size, 0, none⟩) hT2).trans t0) (HL5.out W (Below.trans HB2.out (hW.mono HB2.out.size)))))
        obtain ⟨kn, hkn⟩ : ∃ kn, findI (fun x : Sl => decide (0 < x.n) && !y.c.ac.contains (x.p : Int)) y.c.sl = kn := ⟨_, rfl⟩
        rw [hkn] at HIX
        have HKN := Hid.mk hkn
        clear hkn eg
        go_upto_if 50 with (go_at_call 90; refine HIX.out.mono ?_; rintro ev w3 ⟨rfl, hb3⟩)
        have HS3 := Hid.mk (HS2.out.below hb3)
        have HB3 := Hid.mk (Below.step HB12.out hb3)
        have t3 := (hb3.cell (p := ⟨w.heap.size, 0, none⟩) hT2).trans t0
        have hT3 := Nat.lt_of_lt_of_le hT2 hb3.size
        clear b4 t0 hb3 HIX HR2 HCYC HS2 HB12
        go_cut [10] (fun s10 wx => ∃ (s2 : Sy) (k : Nat) (v2 : Sc) (hi2 : i < v2.ys.length), s10 = .int .i64 (k : Int) ∧ Hid (SS wx G (fun k => X k ∨ w.heap.size ≤ k ∧ k < w1.heap.size) s2 v2) ∧ Hid (v2.a2 = v.a2) ∧ wx.cell? ⟨w.heap.size, 0, none⟩ = some (.pointer (some ⟨gc, i * 6, none⟩)) ∧ Hid (Safe X w wx) ∧ Hid (s.choose i cpu = some (s2.mine i cpu k, k)) ∧ k < v2.ys[i].c.sl.length ∧ v2.ys[i].c.ac.length = s.h.cpus)
        case first =>
          cases hnob : y.c.nobody with
          | some k =>
            obtain ⟨h1, h2⟩ := nobody_some hnob
            have h3 := HKN.out
            rw [h1] at h3
            obtain rfl := h3
            have hk0 : ¬ (k : Int) < 0 := by omega
            have HCH : Hid (s.choose i cpu = some (s.mine i cpu k, k)) := by
              unfold Hid Sy.choose
              rw [HCI.out]
              simp only [HOWN.out, hnob]
            clear h1 hnob
            go_wp2_with fail
            go_meet
            exact ⟨s, k, v, hi, by first | rfl | trivial, HS3, rfl, t3, Safe.ofBelow HB3.out, HCH, by rw [HY.out]; exact h2, by rw [HY.out]; exact hac⟩
          | none =>
            have h3 := HKN.out
            rw [nobody_none hnob] at h3
            obtain rfl := h3
            have hG := growS_ok v s G i cpu (fun k => X k ∨ w.heap.size ≤ k ∧ k < w1.heap.size) w3 HS3.out HK.out hi hcpu (ho.below HB3.out) (.inl hX0)
            rw [HY.out] at hG
            cases hgr : s.grow i cpu y.c with
            | none =>
              have HCH : Hid (s.choose i cpu = none) := by
                unfold Hid Sy.choose
                rw [HCI.out]
                simp only [HOWN.out, hnob, hgr]
              have HG : Hid (Calls Tryz.prog 102 #[.pointer (some ⟨G, 0, none⟩), .int .i64 i, .int .i64 cpu] w3 fun ev w' => ev = .returned (.tuple #[.int .i64 0, .int .i64 6]) ∧ Below w3.heap.size w3 w') := by
                refine hG.mono ?_
                rintro ev w' (⟨_, h, hb⟩ | ⟨s', k, v', h, _⟩)
                · exact ⟨h, hb⟩
                · rw [hgr] at h
                  cases h
              clear hG hgr hnob
              go_wp2_with (go_at_call 102; refine HG.out.mono ?_; rintro ev w4 ⟨rfl, hb4⟩)
              exact bodyPost_ret (v := .tuple #[.int .i64 0, .int .i64 6]) (by simp [results, Tryz.results68, go_sem]) rfl (.inl ⟨HCH.out, rfl, Below.step HB3.out hb4⟩)
            | some r =>
              obtain ⟨s2, k⟩ := r
              have HCH : Hid (s.choose i cpu = some (s2.mine i cpu k, k)) := by
                unfold Hid Sy.choose
                rw [HCI.out]
                simp only [HOWN.out, hnob, hgr]
              have HG : Hid (Calls Tryz.prog 102 #[.pointer (some ⟨G, 0, none⟩), .int .i64 i, .int .i64 cpu] w3 fun ev w' => ∃ v', ev = .returned (.tuple #[.int .i64 k, .int .i64 0]) ∧ SS w' G (fun k => X k ∨ w.heap.size ≤ k ∧ k < w1.heap.size) s2 v' ∧ Safe (fun k => X k ∨ w.heap.size ≤ k ∧ k < w1.heap.size) w3 w' ∧ v'.a2 = v.a2) := by
                refine hG.mono ?_
                rintro ev w' (⟨h, _⟩ | ⟨s', k', v', h, h1, h2, h3, h4⟩)
                · rw [hgr] at h
                  cases h
                · rw [hgr] at h
                  obtain ⟨rfl, rfl⟩ : s2 = s' ∧ k = k' := by simpa using h
                  exact ⟨v', h1, h2, h3, h4⟩
              have HGR := Hid.mk hgr
              clear hG hgr hnob
              go_wp2_with (go_at_call 102; refine HG.out.mono ?_; rintro ev w4 ⟨v2, rfl, hs4, hf4, hv4⟩)
              go_meet
              obtain ⟨hg1, c2, hg2, hg3, hg4⟩ := grow_shape hic HGR.out
              have hv2 : v2.ys.length = s2.cs.length := by
                have h1 := congrArg List.length hs4.r.cy
                simpa using h1
              have hi2 : i < v2.ys.length := by omega
              have hc2 : v2.ys[i].c.ac = y.c.ac ∧ k < v2.ys[i].c.sl.length := by
                have h1 := congrArg (·[i]?) hs4.r.cy
                simp only [List.getElem?_map, List.getElem?_eq_getElem hi2, Option.map_some] at h1
                rw [hg2] at h1
                have h5 : v2.ys[i].c = c2 := Option.some.inj h1
                rw [h5]
                exact ⟨hg3, hg4⟩
              exact ⟨s2, k, v2, hi2, by first | rfl | trivial, hs4, hv4, (hf4.cell (p := ⟨w.heap.size, 0, none⟩) hT3 (.inr ⟨Nat.le_refl _, hT1⟩)).trans t3, (Safe.ofBelow HB3.out).trans (hf4.sub fun _ _ h => .inl h), HCH, hc2.2, by rw [hc2.1]; exact hac⟩
        case rest =>
          obtain ⟨s2, k, v2, hi2, rfl, HS4, HV2, t4, HF4, HCH, hk2, ha2'⟩ := hcut
          obtain ⟨gc2, ha22, hgcs2, hgcG2, hgcX2, hcc2⟩ := HS4.out.r.cAt hi2
          obtain rfl : gc = gc2 := by rw [HV2.out, ha2] at ha22; simpa using ha22
          have hym2 := List.getElem_mem hi2
          obtain ⟨hr1, hr2, hr3⟩ := HS4.out.r.y hym2
          obtain ⟨y2, hy2⟩ : ∃ y2, v2.ys[i] = y2 := ⟨_, rfl⟩
          have HY2 := Hid.mk hy2
          rw [hy2] at hcc2 hk2 ha2' hr1 hr2 hr3
          have hcl2 : cpu < y2.c.ac.length := by omega
          obtain ⟨ga2, hga2, _, hgas2, hca2, hfa2⟩ := own_at hr3 cpu (by simpa [acR] using hcl2)
          obtain ⟨gs2, hgs2, _, hgss2, hcs2, hfs2⟩ := own_at hr2 (k * 3) (by show k * 3 < (flat encSl y2.c.sl).length; rw [flat_length encSl_length]; omega)
          have b4 := (hcc2 4 (by decide)).1
          have b5 := (hcc2 5 (by decide)).1
          simp only [encCc, vI, List.getElem?_cons_zero, List.getElem?_cons_succ] at b4 b5
          have HA := Hid.mk hga2
          rw [hga2] at b5
          rw [hgs2] at b4
          have pa : ∃ u, wc.cell? ⟨ga2, cpu, none⟩ = some u := ⟨_, hca2⟩
          have ps : wc.cell? ⟨gs2, k * 3, none⟩ = some (.int .i64 (y2.c.sl[k].p : Int)) := by
            have h1 := flat_get encSl_length y2.c.sl k hk2 0 (by decide)
            have h2 : k * 3 < (flat encSl y2.c.sl).length := by rw [flat_length encSl_length]; omega
            rw [hcs2]
            have h3 : (flat encSl y2.c.sl)[k * 3]? = some (vI (y2.c.sl[k].p : Int)) := by simpa [encSl] using h1
            rw [List.getElem?_eq_getElem h2] at h3
            exact h3
          obtain ⟨ua, pa⟩ := pa
          have hl2 : y2.c.sl.length = y2.n2 := own_flat_len encSl_length (by decide) hr2
          have hl3 : y2.c.ac.length = y2.n3 := by
            have := hr3.1
            unfold acR at this
            simpa using this
          have hki : (k : Int) < y2.n2 := by omega
          have hcn2 : (cpu : Int) < y2.n3 := by omega
          have hd := (Below.refl wc.heap.size wc).drew
          have pad := (hd.cell (p := ⟨ga2, cpu, none⟩) hgas2).trans pa
          have fad := (hd.frozen (p := ⟨ga2, cpu, none⟩) hgas2).trans hfa2
          have HF5 := Hid.mk (HF4.out.then hd)
          have hset := (HS4.out.below hd).setAcY hi2 HY2.out HA.out cpu (y2.c.sl[k].p : Int)
          have hmine : s2.mine i cpu k = s2.setC i { y2.c with ac := y2.c.ac.set cpu (y2.c.sl[k].p : Int) } := by
            unfold Sy.mine
            have h1 : s2.cs[i]? = some y2.c := by
              rw [← HS4.out.r.cy, List.getElem?_map, List.getElem?_eq_getElem hi2, HY2.out]
              rfl
            rw [h1]
            simp only [List.getElem?_eq_getElem hk2]
          have HSET := Hid.mk hset
          have HMI := Hid.mk hmine
          generalize y2.c.sl[k] = x at *
          clear hd hcc2 hr1 hr2 hr3 hga2 hgs2 hca2 hcs2 hfs2 hy2 hset hmine hl2 hl3 ha22
          go_upto_region 11 with fail
          go_still_tail 14, (by kernel_rfl)
          change wpList _ _ _ _ _ wc.drew
          clear b4 b5 pa ps t4 hfa2
          generalize wc.drew = wd at *
          obtain ⟨v', t1, t2, t3⟩ := HSET.out
          have HT1 : Hid (SS (wd.setCell ⟨ga2, cpu, none⟩ (.int .i64 (x.p : Int))) G X (s2.mine i cpu k) v') := by
            unfold Hid
            rw [HMI.out]
            exact t1.sub (fun _ h => .inl h)
          have HT2 : Hid (Safe X w (wd.setCell ⟨ga2, cpu, none⟩ (.int .i64 (x.p : Int)))) := HF5.out.trans (t2.sub fun _ _ h => .inl h)
          have HT3 : Hid (v'.a2 = v.a2) := t3.trans HV2.out
          clear t1 t2 t3 HSET HMI HF5 HF4 HS4 HV2
          go_wp2_with fail
          exact bodyPost_ret (v := .tuple #[.int .i64 (k : Int), .int .i64 0]) (by simp [results, Tryz.results68, go_sem]) rfl (.inr ⟨_, k, v', HCH.out, rfl, HT1.out, HT2.out, HT3.out⟩)
end Go.Proofs.YtkcaheebaicinaaGreatDoor
/- Contract of package slab: one. -/
namespace Go.Proofs.YtkcaheebaicinaaGreatDoor
open Go.RowKit
set_option linter.unusedVariables false
set_option linter.unusedSimpArgs false

/-- what one answers -/
def oneP (v : Sc) (s : Sy) (i cpu : Nat) (G : Nat) (X : Nat → Prop) (w : World) (ev : Ending) (w' : World) : Prop := (s.one i cpu = none ∧ ev = .returned (.tuple #[.int .i64 0, .int .i64 6]) ∧ Below w.heap.size w w') ∨ (∃ (s' : Sy) (a : Int) (v' : Sc), s.one i cpu = some (s', a) ∧ ev = .returned (.tuple #[.int .i64 a, .int .i64 0]) ∧ SS w' G X s' v' ∧ Safe X w w' ∧ v'.a2 = v.a2)
/-- the slab that was chosen has a free object -/
def Chosen (s' : Sy) (i k : Nat) : Prop := ∃ c x, s'.cs[i]? = some c ∧ c.sl[k]? = some x ∧ 0 < x.n ∧ x.n ≤ 64 ∧ 0 ≤ x.h ∧ x.h < 4096 ∧ s'.w.length = 4096 ∧ s'.cs.length ≤ 20 ∧ c.sl.length ≤ 256

set_option maxHeartbeats 8000000 in
set_option maxRecDepth 100000 in
theorem oneS_ok (v : Sc) (s : Sy) (G i cpu : Nat) (X : Nat → Prop) (w : World) (hs : SS w G X s v) (hk : SOk s) (hi : i < v.ys.length) (hcpu : cpu < s.h.cpus) (ho : Oth w) (hX0 : X 1) (hch : ∀ s' k, s.choose i cpu = some (s', k) → Chosen s' i k) :
    Calls Tryz.prog 32 #[.pointer (some ⟨G, 0, none⟩), .int .i64 i, .int .i64 cpu] w (oneP v s i cpu G X w) := by
  have hC := chooseS_ok v s G i cpu X w hs hk hi hcpu ho hX0
  cases hco : s.choose i cpu with
  | none =>
    have HO : Hid (s.one i cpu = none) := by
      unfold Hid Sy.one
      rw [hco]
    have HC : Hid (Calls Tryz.prog 68 #[.pointer (some ⟨G, 0, none⟩), .int .i64 i, .int .i64 cpu] w fun ev w' => ev = .returned (.tuple #[.int .i64 0, .int .i64 6]) ∧ Below w.heap.size w w') := by
      refine hC.mono ?_
      rintro ev w' (⟨_, h, hb⟩ | ⟨s', k, v', h, _⟩)
      · exact ⟨h, hb⟩
      · rw [hco] at h
        cases h
    clear hC hco hch hs hk
    go_enter Tryz.func32, Tryz.ntmps32
    go_wp2_with (go_at_call 68; refine HC.out.mono ?_; rintro ev w4 ⟨rfl, hb4⟩)
    exact bodyPost_ret (v := .tuple #[.int .i64 0, .int .i64 6]) (by simp [results, Tryz.results32, go_sem]) rfl (.inl ⟨HO.out, rfl, hb4⟩)
  | some r =>
    obtain ⟨s2, k⟩ := r
    obtain ⟨c, x, hc1, hc2, hxn, hxm, hx0, hx4, hwl, hcl, hsl⟩ := hch s2 k hco
    have HC : Hid (Calls Tryz.prog 68 #[.pointer (some ⟨G, 0, none⟩), .int .i64 i, .int .i64 cpu] w fun ev w' => ∃ v', ev = .returned (.tuple #[.int .i64 k, .int .i64 0]) ∧ SS w' G X s2 v' ∧ Safe X w w' ∧ v'.a2 = v.a2) := by
      refine hC.mono ?_
      rintro ev w' (⟨h, _⟩ | ⟨s', k', v', h, h1, h2, h3, h4⟩)
      · rw [hco] at h
        cases h
      · rw [hco] at h
        obtain ⟨rfl, rfl⟩ : s2 = s' ∧ k = k' := by simpa using h
        exact ⟨v', h1, h2, h3, h4⟩
    have HO : Hid (s.one i cpu = some (s2.setC i { c with sl := c.sl.set k ⟨x.p, x.n - 1, s2.w.getD x.h.toNat 0⟩ }, x.h)) := by
      unfold Hid Sy.one
      rw [hco]
      simp only [Sy.pop, hc1, hc2]
    have HC1 := Hid.mk hc1
    have HC2 := Hid.mk hc2
    clear hC hco hch hs hk hc1 hc2
    go_enter Tryz.func32, Tryz.ntmps32
    go_upto_region 4 with (go_at_call 68; refine HC.out.mono ?_; rintro ev w2 ⟨v2, rfl, hs2, hf2, hv2⟩)
    have hi2 : i < v2.ys.length := by
      have h1 := congrArg List.length hs2.r.cy
      simp only [List.length_map] at h1
      have h2 := (List.getElem?_eq_some_iff.1 HC1.out).1
      omega
    have hvl2 : v2.ys.length ≤ 20 := by
      have h1 := congrArg List.length hs2.r.cy
      simp only [List.length_map] at h1
      omega
    have hyc : v2.ys[i].c = c := by
      have h1 := congrArg (·[i]?) hs2.r.cy
      simp only [List.getElem?_map, List.getElem?_eq_getElem hi2, Option.map_some] at h1
      rw [HC1.out] at h1
      exact Option.some.inj h1
    obtain ⟨gc, ha2, hgcs, hgcG, hgcX, hcc⟩ := hs2.r.cAt hi2
    obtain ⟨hr1, hr2, hr3⟩ := hs2.r.y (List.getElem_mem hi2)
    obtain ⟨y, hy⟩ : ∃ y, v2.ys[i] = y := ⟨_, rfl⟩
    rw [hy] at hcc hr2 hyc
    subst hyc
    obtain ⟨hks, hkx⟩ := List.getElem?_eq_some_iff.1 HC2.out
    have hcell : ∀ j, j < 3 → ∃ g, y.a2 = some ⟨g, 0, none⟩ ∧ g < w2.heap.size ∧ w2.cell? ⟨g, k * 3 + j, none⟩ = (encSl x)[j]? ∧ w2.frozen? ⟨g, k * 3 + j, none⟩ = false := fun j hj => by
      have hlen : k * 3 + j < (flat encSl y.c.sl).length := by rw [flat_length encSl_length]; omega
      obtain ⟨g, h1, _, h2, h3, h4⟩ := own_at hr2 (k * 3 + j) hlen
      refine ⟨g, h1, h2, ?_, h4⟩
      rw [h3, ← hkx, ← flat_get encSl_length y.c.sl k hks j hj]
      exact (List.getElem?_eq_getElem hlen).symm
    obtain ⟨gs, hgs, hgss, s1, hq4⟩ := hcell 1 (by decide)
    obtain ⟨gs2, hgs2, hq2, s2', f2⟩ := hcell 2 (by decide)
    obtain ⟨gs1, hgs1, hq1, hq3, f1⟩ := hcell 1 (by decide)
    obtain rfl : gs = gs2 := by rw [hgs] at hgs2; simpa using hgs2
    obtain rfl : gs = gs1 := by rw [hgs] at hgs1; simpa using hgs1
    simp only [encSl, vI, List.getElem?_cons_zero, List.getElem?_cons_succ] at s1 s2'
    have b4 := (hcc 4 (by decide)).1
    simp only [encCc, vI, List.getElem?_cons_zero, List.getElem?_cons_succ] at b4
    rw [hgs] at b4
    have g6 := hs2.k 6
    have g0 := hs2.k 0
    unfold Sc.vals at g0 g6
    simp only [List.getElem?_toArray, List.getElem?_cons_zero, List.getElem?_cons_succ] at g0 g6
    rw [ha2] at g6
    have hsy := hs2.r.at
    have hlw := hsy.lw
    have hxl : x.h.toNat < s2.w.length := by omega
    obtain ⟨wb, wo, hwb, hwbl, hwbc⟩ := hsy.rw x.h.toNat (vI s2.w[x.h.toNat]) (by rw [List.getElem?_map, List.getElem?_eq_getElem hxl]; rfl)
    have hwd : s2.w.getD x.h.toNat 0 = s2.w[x.h.toNat] := by simp [List.getD, List.getElem?_eq_getElem hxl]
    rw [hwb] at g0
    have hl2 : y.c.sl.length = y.n2 := own_flat_len encSl_length (by decide) hr2
    have hkn : (k : Int) < y.n2 := by omega
    have hii : (i : Int) < v2.ys.length := by omega
    have hxn1 : x.h < v2.n1 := by omega
    have hxn : (x.n : Int) - 1 = ((x.n - 1 : Nat) : Int) := by omega
    have hpop := hs2.popY hi2 hy hgs hks (s2.w[x.h.toNat]) (n' := x.n - 1)
    rw [hkx] at hpop
    rw [hwd] at HO
    obtain ⟨u, hu⟩ : ∃ u, s2.w[x.h.toNat] = u := ⟨_, rfl⟩
    rw [hu] at hpop HO hwbc
    unfold vI at hwbc hpop
    have HP := Hid.mk hpop
    have HF2 := Hid.mk hf2
    have HV2 := Hid.mk hv2
    clear hq1 hq2 hq3 hq4 hpop hf2 hv2 hcell hgs hgs1 hgs2 hcc hy hwb hsy hlw hwd hu hkx hl2 ha2 hr1 hr2 hr3 hwl hcl hsl hks HC1 HC2 HC hxl
    go_wp2_with fail
    obtain ⟨v', t1, t2, t3⟩ := HP.out
    exact bodyPost_ret (v := .tuple #[.int .i64 x.h, .int .i64 0]) (by simp [results, Tryz.results32, go_sem]) rfl (.inr ⟨_, x.h, v', HO.out, rfl, t1, HF2.out.trans t2, t3.trans HV2.out⟩)
end Go.Proofs.YtkcaheebaicinaaGreatDoor
/- Contract of package slab: Bulk. -/
namespace Go.Proofs.YtkcaheebaicinaaGreatDoor
open Go.RowKit
set_option linter.unusedVariables false
set_option linter.unusedSimpArgs false

section
variable {W W' : World} {G : Nat} {X : Nat → Prop} {s : Sy} {v : Sc}
/-- a block that is held fast has grown, or lies anew: the system is as it was -/
theorem SS.out (hs : SS W G X s v) {row : Option Nat} (hg : W.grownBy W' row) (hrow : ∀ k, row = some k → X k) {Z : Nat → Prop} (hZ : ∀ k, Z k → X k ∨ (W.heap.size ≤ k ∧ k < W'.heap.size)) : SS W' G Z s v := by
  have hG : some G ≠ row := fun e => hs.r.hr.xg (hrow G e.symm)
  have h1 : SS W' G X s v := ⟨⟨⟨fun r hr => own_kept (hs.r.own.each r hr) fun k hk hlt => hg.block k hlt fun e => (hs.r.og r hr k hk).2 (hrow k e.symm), hs.r.own.dis⟩, hs.r.og,
    hs.r.hr.kept (Y := fun k => ¬ X k) (Safe.ofGrown hg fun k hk e => hk (hrow k e.symm)) (fun q hq k hk e => by
      rcases List.mem_append.1 hq with hq | hq
      · exact (hs.r.hr.og q hq k hk).2 e
      · exact hs.r.hr.rx q hq k hk e), hs.r.hd, hs.r.cy⟩, box_grown hs.k hs.r.hr.gs hg hG, frz_grown hs.fz hs.r.hr.gs hg hG⟩
  refine h1.more fun k hk => ?_
  rcases hZ k hk with h | ⟨h2, h3⟩
  · refine ⟨h1.r.hr.xs k h, h1.r.xblk h, fun q hq e => ?_⟩
    rcases List.mem_append.1 hq with hq | hq
    · exact (h1.r.hr.og q hq k e).2 h
    · exact h1.r.hr.rx q hq k e h
  · refine ⟨h3, ?_, fun q hq e => ?_⟩
    · rintro (rfl | ⟨r, hr, e⟩)
      · have := hs.r.hr.gs; omega
      · have := hs.r.lt r hr k e; omega
    · have := hs.r.hr.lt q hq k e; omega
end
theorem bulk_none {s s' : Sy} {i cpu j : Nat} {l : List Int} (h : s.bulk i cpu j = some (s', l)) (h1 : s'.one i cpu = none) : ∀ m, j < m → s.bulk i cpu m = none
  | 0, hm => by omega
  | m + 1, hm => by
    by_cases e : j = m
    · subst e
      unfold Sy.bulk
      rw [h]
      simp only [h1]
    · unfold Sy.bulk
      rw [bulk_none h h1 m (by omega)]
theorem bulk_some {s s' t : Sy} {i cpu j : Nat} {l : List Int} {a : Int} (h : s.bulk i cpu j = some (s', l)) (h1 : s'.one i cpu = some (t, a)) : s.bulk i cpu (j + 1) = some (t, l ++ [a]) := by
  unfold Sy.bulk
  rw [h]
  simp only [h1]
theorem SOk.chosen {s : Sy} (hk : SOk s) {i cpu : Nat} {c : Ca} (hi : s.cs[i]? = some c) (hcpu : cpu < s.h.cpus) : ∀ s' k, s.choose i cpu = some (s', k) → Chosen s' i k := fun s' k hc => by
  obtain ⟨h1, h2, c', x, h3, h4, h5⟩ := hk.choose hi hcpu hc
  have hcm := List.mem_of_getElem? h3
  have hxm := List.mem_of_getElem? h4
  obtain ⟨m, _, h6, _, h7, h8, _⟩ := h1.first hcm hxm h5
  exact ⟨c', x, h3, h4, h5, Nat.le_trans ((h1.ck c' hcm).sk x hxm).n_le (h1.ck c' hcm).r64, h7, h8, h1.wl, h1.cl, (h1.ck c' hcm).sl_len h1.hk⟩

/-- what Bulk answers -/
def bulkP (s : Sy) (i cpu many : Nat) (w : World) (ev : Ending) (w' : World) : Prop := (s.bulk i cpu many = none ∧ ev = .returned (.tuple #[.agg #[.slice none 0 0, .slice none 0 0, .slice none 0 0, .int .i64 0, .slice none 0 0, .slice none 0 0, .slice none 0 0], .slice none 0 0, .int .i64 6]) ∧ Below w.heap.size w w') ∨ (∃ (s' : Sy) (l : List Int) (v' : Sc) (a' : Option Addr) (c' : Nat), s.bulk i cpu many = some (s', l) ∧ ev = .returned (.tuple #[.agg (v'.vals s'), .slice a' many c', .int .i64 0]) ∧ SNew w' w.heap.size s' v' ∧ l.length = many ∧ Row w' a' (l.map vI) ∧ Below w.heap.size w w')

set_option maxHeartbeats 8000000 in
set_option maxRecDepth 100000 in
theorem bulkS_ok (v : Sc) (s : Sy) (n : List UInt8) (cpu i many : Nat) (w : World) (hs : SyAt w v s) (hk : SOk s) (hf : ∀ c ∈ s.cs, c.ns.length ≤ 1000) (hi : s.named n = some i) (hcpu : cpu < s.h.cpus) (hm1 : 1 ≤ many) (hm2 : many ≤ 256) (ho : Oth w) :
    Calls Tryz.prog 10 #[.agg #[.slice v.a1 v.n1 v.c1, .slice v.hc.az 2 v.hc.cz, .slice v.hc.am 2 v.hc.cm, .int .i64 (s.h.cpus : Int), .slice v.hc.al v.hc.lc.length v.hc.cl, .slice v.hc.av s.h.live.length v.hc.cv, .slice v.a2 v.ys.length v.c2], .string ⟨n.toArray⟩, .int .i64 cpu, .int .i64 many] w (bulkP s i cpu many w) := by
  obtain ⟨K1, K2, F1, F2, hsz, hbw⟩ := boxes2 w #[.slice v.a1 v.n1 v.c1, .slice v.hc.az 2 v.hc.cz, .slice v.hc.am 2 v.hc.cm, .int .i64 (s.h.cpus : Int), .slice v.hc.al v.hc.lc.length v.hc.cl, .slice v.hc.av s.h.live.length v.hc.cv, .slice v.a2 v.ys.length v.c2] 38 #[.slice none 0 0, .slice none 0 0, .slice none 0 0, .int .i64 0, .slice none 0 0, .slice none 0 0, .slice none 0 0] 38
  have hil : i < s.cs.length := by
    unfold Sy.named at hi
    rw [List.findIdx?_eq_some_iff_getElem] at hi
    exact hi.1
  have hs1 := hs.below hbw
  have HA := Hid.mk (askS_ok v s n cpu i _ hs1 hk hf hi hcpu)
  have k0 := K1 0
  have k1 := K1 1
  have k2 := K1 2
  have k3 := K1 3
  have k4 := K1 4
  have k5 := K1 5
  have k6 := K1 6
  simp only [List.getElem?_toArray, List.getElem?_cons_zero, List.getElem?_cons_succ] at k0 k1 k2 k3 k4 k5 k6
  have HK := Hid.mk hk
  have HB1 := Hid.mk hbw
  have HK1 := Hid.mk K1
  have HF1 := Hid.mk F1
  have HK2 := Hid.mk K2
  have HF2 := Hid.mk F2
  have hsz1 : w.heap.size < ((w.alloc (.cells #[.slice v.a1 v.n1 v.c1, .slice v.hc.az 2 v.hc.cz, .slice v.hc.am 2 v.hc.cm, .int .i64 (s.h.cpus : Int), .slice v.hc.al v.hc.lc.length v.hc.cl, .slice v.hc.av s.h.live.length v.hc.cv, .slice v.a2 v.ys.length v.c2] 38)).alloc (.cells #[.slice none 0 0, .slice none 0 0, .slice none 0 0, .int .i64 0, .slice none 0 0, .slice none 0 0, .slice none 0 0] 38)).heap.size := by simp; omega
  have hmi1 : ¬ (many : Int) < 1 := by omega
  have hmi2 : ¬ (256 : Int) < many := by omega
  clear hs hk hf hi hs1 K1 K2 F1 F2 hbw
  go_enter Tryz.func10, Tryz.ntmps10
  go_upto_region 1 with fail
  generalize (w.alloc (.cells #[.slice v.a1 v.n1 v.c1, .slice v.hc.az 2 v.hc.cz, .slice v.hc.am 2 v.hc.cm, .int .i64 (s.h.cpus : Int), .slice v.hc.al v.hc.lc.length v.hc.cl, .slice v.hc.av s.h.live.length v.hc.cv, .slice v.a2 v.ys.length v.c2] 38)).alloc (.cells #[.slice none 0 0, .slice none 0 0, .slice none 0 0, .int .i64 0, .slice none 0 0, .slice none 0 0, .slice none 0 0] 38) = w1 at *
  go_upto_region 6 with (go_at_call 31; refine HA.out.mono ?_; rintro ev w2 ⟨v1, he, hnew, hb2⟩; unfold askV Sc.vals at he; subst he; have K12 := box_step HK1.out hsz1 hb2; have F12 := frz_step HF1.out hsz1 hb2; have y0 := K12 0; have y1 := K12 1; have y2 := K12 2; have y3 := K12 3; have y4 := K12 4; have y5 := K12 5; have y6 := K12 6; have f0 := F12 0; have f1 := F12 1; have f2 := F12 2; have f3 := F12 3; have f4 := F12 4; have f5 := F12 5; have f6 := F12 6; simp only [List.getElem?_toArray, List.getElem?_cons_zero, List.getElem?_cons_succ] at y0 y1 y2 y3 y4 y5 y6)
  have hw1 : w.heap.size ≤ w1.heap.size := HB1.out.size
  have hlift : SR w2 w.heap.size (fun k => k < w.heap.size ∨ k = w.heap.size + 1) s v1 := SR.lift hnew (Nat.lt_of_succ_lt hsz) (fun k hk => by omega) (by omega)
  have hfin := SS.put7 hlift K12 F12
  have HS3 := Hid.mk hfin
  have K20b := box_step HK2.out hsz hb2
  have F20b := frz_step HF2.out hsz hb2
  have hne : w.heap.size + 1 ≠ w.heap.size := by omega
  have K21b := box_set_other K20b hne 0 (.slice v1.a1 v1.n1 v1.c1)
  have F21b := frz_set F20b ⟨w.heap.size, 0, none⟩ (.slice v1.a1 v1.n1 v1.c1)
  have K22b := box_set_other K21b hne 1 (.slice v1.hc.az 2 v1.hc.cz)
  have F22b := frz_set F21b ⟨w.heap.size, 1, none⟩ (.slice v1.hc.az 2 v1.hc.cz)
  have K23b := box_set_other K22b hne 2 (.slice v1.hc.am 2 v1.hc.cm)
  have F23b := frz_set F22b ⟨w.heap.size, 2, none⟩ (.slice v1.hc.am 2 v1.hc.cm)
  have K24b := box_set_other K23b hne 3 (.int .i64 (s.h.cpus : Int))
  have F24b := frz_set F23b ⟨w.heap.size, 3, none⟩ (.int .i64 (s.h.cpus : Int))
  have K25b := box_set_other K24b hne 4 (.slice v1.hc.al v1.hc.lc.length v1.hc.cl)
  have F25b := frz_set F24b ⟨w.heap.size, 4, none⟩ (.slice v1.hc.al v1.hc.lc.length v1.hc.cl)
  have K26b := box_set_other K25b hne 5 (.slice v1.hc.av s.h.live.length v1.hc.cv)
  have F26b := frz_set F25b ⟨w.heap.size, 5, none⟩ (.slice v1.hc.av s.h.live.length v1.hc.cv)
  have K27b := box_set_other K26b hne 6 (.slice v1.a2 v1.ys.length v1.c2)
  have F27b := frz_set F26b ⟨w.heap.size, 6, none⟩ (.slice v1.a2 v1.ys.length v1.c2)
  have HT3 := Hid.mk K27b
  have HU3 := Hid.mk F27b
  have HB3 := Hid.mk (Below.setCell (Below.setCell (Below.setCell (Below.setCell (Below.setCell (Below.setCell (Below.setCell (Below.trans HB1.out (hb2.mono hw1)) (show w.heap.size ≤ (⟨w.heap.size, 0, none⟩ : Addr).block from Nat.le_refl _) (.slice v1.a1 v1.n1 v1.c1)) (show w.heap.size ≤ (⟨w.heap.size, 1, none⟩ : Addr).block from Nat.le_refl _) (.slice v1.hc.az 2 v1.hc.cz)) (show w.heap.size ≤ (⟨w.heap.size, 2, none⟩ : Addr).block from Nat.le_refl _) (.slice v1.hc.am 2 v1.hc.cm)) (show w.heap.size ≤ (⟨w.heap.size, 3, none⟩ : Addr).block from Nat.le_refl _) (.int .i64 (s.h.cpus : Int))) (show w.heap.size ≤ (⟨w.heap.size, 4, none⟩ : Addr).block from Nat.le_refl _) (.slice v1.hc.al v1.hc.lc.length v1.hc.cl)) (show w.heap.size ≤ (⟨w.heap.size, 5, none⟩ : Addr).block from Nat.le_refl _) (.slice v1.hc.av s.h.live.length v1.hc.cv)) (show w.heap.size ≤ (⟨w.heap.size, 6, none⟩ : Addr).block from Nat.le_refl _) (.slice v1.a2 v1.ys.length v1.c2))
  have ht3 : w.heap.size + 1 < w2.heap.size := Nat.lt_of_lt_of_le hsz hb2.size
  have hsz3 : (((((((w2.setCell ⟨w.heap.size, 0, none⟩ (.slice v1.a1 v1.n1 v1.c1)).setCell ⟨w.heap.size, 1, none⟩ (.slice v1.hc.az 2 v1.hc.cz)).setCell ⟨w.heap.size, 2, none⟩ (.slice v1.hc.am 2 v1.hc.cm)).setCell ⟨w.heap.size, 3, none⟩ (.int .i64 (s.h.cpus : Int))).setCell ⟨w.heap.size, 4, none⟩ (.slice v1.hc.al v1.hc.lc.length v1.hc.cl)).setCell ⟨w.heap.size, 5, none⟩ (.slice v1.hc.av s.h.live.length v1.hc.cv)).setCell ⟨w.heap.size, 6, none⟩ (.slice v1.a2 v1.ys.length v1.c2)).heap.size = w2.heap.size := by simp
  rw [← hsz3] at ht3
  clear K12 F12 y0 y1 y2 y3 y4 y5 y6 f0 f1 f2 f3 f4 f5 f6 hlift hfin hnew K20b K21b K22b K23b K24b K25b K26b K27b F20b F21b F22b F23b F24b F25b F26b F27b hne HA k0 k1 k2 k3 k4 k5 k6 HK1 HF1 HK2 HF2 hsz3
  generalize ((((((w2.setCell ⟨w.heap.size, 0, none⟩ (.slice v1.a1 v1.n1 v1.c1)).setCell ⟨w.heap.size, 1, none⟩ (.slice v1.hc.az 2 v1.hc.cz)).setCell ⟨w.heap.size, 2, none⟩ (.slice v1.hc.am 2 v1.hc.cm)).setCell ⟨w.heap.size, 3, none⟩ (.int .i64 (s.h.cpus : Int))).setCell ⟨w.heap.size, 4, none⟩ (.slice v1.hc.al v1.hc.lc.length v1.hc.cl)).setCell ⟨w.heap.size, 5, none⟩ (.slice v1.hc.av s.h.live.length v1.hc.cv)).setCell ⟨w.heap.size, 6, none⟩ (.slice v1.a2 v1.ys.length v1.c2) = w3 at *
  have hvl : i < v1.ys.length := by
    have h := congrArg List.length HS3.out.r.cy
    simp only [List.length_map] at h
    omega
  have HO3 := Hid.mk (ho.below HB3.out)
  have hog : 1 < w.heap.size := ho.sz
  clear hb2 HB1 hsz hsz1 hw1
  go_wp2_with fail
  go_loopw [13, 36] (fun s13 s36 wr => ∃ (j : Nat) (s' : Sy) (l : List Int) (v' : Sc) (a' : Option Addr) (c' : Nat), j ≤ many ∧ s36 = .int .i64 (j : Int) ∧ s13 = .slice a' j c' ∧ Hid (s.bulk i cpu j = some (s', l)) ∧ l.length = j ∧ Hid (SOk s') ∧ s'.h.cpus = s.h.cpus ∧ (∃ c, s'.cs[i]? = some c) ∧ Hid (SS wr w.heap.size (fun k => (k < w.heap.size ∨ k = w.heap.size + 1) ∨ (Value.slice a' j c').ownBlock = some k) s' v') ∧ Hid (wr.ownsRow w3.heap.size 3 1 (.slice a' j c') j (l.map vI)) ∧ Hid (∀ o, wr.cell? ⟨w.heap.size + 1, o, none⟩ = (#[.slice none 0 0, .slice none 0 0, .slice none 0 0, .int .i64 0, .slice none 0 0, .slice none 0 0, .slice none 0 0] : Array Value)[o]?) ∧ Hid (∀ o, wr.frozen? ⟨w.heap.size + 1, o, none⟩ = false) ∧ w3.heap.size ≤ wr.heap.size ∧ Hid (Below w.heap.size w wr)) (fun _ s36 _ => many - (intOf s36).toNat)
  case atStart =>
    exact ⟨0, s, [], v1, none, 0, Nat.zero_le _, rfl, rfl, rfl, rfl, HK, rfl, ⟨_, List.getElem?_eq_getElem hil⟩, HS3.out.sub (fun k hk => hk.resolve_right (by simp [Value.ownBlock])), World.ownsRow_nil _ _ _ _, HT3, HU3, Nat.le_refl _, HB3⟩
  case round =>
    obtain ⟨j, s', l, v', a', c', hj, rfl, rfl, HBK, hlj, HKj, hcpj, hcj, HSj, HRj, HTj, HUj, hwj, HBj⟩ := hrel
    by_cases hlt : j < many
    · have hji : (j : Int) < many := by omega
      obtain ⟨c, hc⟩ := hcj
      have hiv : i < v'.ys.length := by
        have h := congrArg List.length HSj.out.r.cy
        simp only [List.length_map] at h
        have h2 := (List.getElem?_eq_some_iff.1 hc).1
        omega
      have hcpj' : cpu < s'.h.cpus := by omega
      have hONE := oneS_ok v' s' w.heap.size i cpu (fun k => (k < w.heap.size ∨ k = w.heap.size + 1) ∨ (Value.slice a' j c').ownBlock = some k) wr HSj.out HKj.out hiv hcpj' (ho.below HBj.out) (.inl (.inl hog)) (HKj.out.chosen hc hcpj')
      have hle1 : w.heap.size ≤ w.heap.size + 1 := Nat.le_succ _
      have htj : w.heap.size + 1 < wr.heap.size := Nat.lt_of_lt_of_le ht3 hwj
      cases hone : s'.one i cpu with
      | none =>
        have HBN : Hid (s.bulk i cpu many = none) := bulk_none HBK.out hone many hlt
        have HC : Hid (Calls Tryz.prog 32 #[.pointer (some ⟨w.heap.size, 0, none⟩), .int .i64 i, .int .i64 cpu] wr fun ev w' => ev = .returned (.tuple #[.int .i64 0, .int .i64 6]) ∧ Below wr.heap.size wr w') := by
          refine hONE.mono ?_
          rintro ev w' (⟨_, h, hb⟩ | ⟨s'', b, v'', h, _⟩)
          · exact ⟨h, hb⟩
          · rw [hone] at h
            cases h
        clear hONE hone HSj HRj HKj HBK
        go_wp2_with (go_at_call 32; refine HC.out.mono ?_; rintro ev w5 ⟨rfl, hb5⟩; have KT := box_step HTj.out htj hb5; have FT := frz_step HUj.out htj hb5; have y0 := KT 0; have y1 := KT 1; have y2 := KT 2; have y3 := KT 3; have y4 := KT 4; have y5 := KT 5; have y6 := KT 6; have f0 := FT 0; have f1 := FT 1; have f2 := FT 2; have f3 := FT 3; have f4 := FT 4; have f5 := FT 5; have f6 := FT 6; simp only [List.getElem?_toArray, List.getElem?_cons_zero, List.getElem?_cons_succ] at y0 y1 y2 y3 y4 y5 y6)
        have KX := (box_set (box_set (box_set (box_set (box_set (box_set (box_set KT 0 (.slice none 0 0)) 1 (.slice none 0 0)) 2 (.slice none 0 0)) 3 (.int .i64 0)) 4 (.slice none 0 0)) 5 (.slice none 0 0)) 6 (.slice none 0 0))
        simp only [List.setIfInBounds_toArray, List.set_cons_zero, List.set_cons_succ] at KX
        have HBX := Hid.mk (Below.setCell (Below.setCell (Below.setCell (Below.setCell (Below.setCell (Below.setCell (Below.setCell (Below.step HBj.out hb5) (show w.heap.size ≤ (⟨w.heap.size + 1, 0, none⟩ : Addr).block from hle1) (.slice none 0 0)) (show w.heap.size ≤ (⟨w.heap.size + 1, 1, none⟩ : Addr).block from hle1) (.slice none 0 0)) (show w.heap.size ≤ (⟨w.heap.size + 1, 2, none⟩ : Addr).block from hle1) (.slice none 0 0)) (show w.heap.size ≤ (⟨w.heap.size + 1, 3, none⟩ : Addr).block from hle1) (.int .i64 0)) (show w.heap.size ≤ (⟨w.heap.size + 1, 4, none⟩ : Addr).block from hle1) (.slice none 0 0)) (show w.heap.size ≤ (⟨w.heap.size + 1, 5, none⟩ : Addr).block from hle1) (.slice none 0 0)) (show w.heap.size ≤ (⟨w.heap.size + 1, 6, none⟩ : Addr).block from hle1) (.slice none 0 0))
        clear y0 y1 y2 y3 y4 y5 y6 f0 f1 f2 f3 f4 f5 f6 KT FT
        generalize ((((((w5.setCell ⟨w.heap.size + 1, 0, none⟩ (.slice none 0 0)).setCell ⟨w.heap.size + 1, 1, none⟩ (.slice none 0 0)).setCell ⟨w.heap.size + 1, 2, none⟩ (.slice none 0 0)).setCell ⟨w.heap.size + 1, 3, none⟩ (.int .i64 0)).setCell ⟨w.heap.size + 1, 4, none⟩ (.slice none 0 0)).setCell ⟨w.heap.size + 1, 5, none⟩ (.slice none 0 0)).setCell ⟨w.heap.size + 1, 6, none⟩ (.slice none 0 0) = wx at *
        refine bodyPost_ret (v := .tuple #[.agg #[.slice none 0 0, .slice none 0 0, .slice none 0 0, .int .i64 0, .slice none 0 0, .slice none 0 0, .slice none 0 0], .slice none 0 0, .int .i64 6]) (by simp [results, Tryz.results10, go_sem, KX]) rfl (.inl ⟨HBN.out, rfl, HBX.out⟩)
      | some r =>
        obtain ⟨t, b⟩ := r
        have HC : Hid (Calls Tryz.prog 32 #[.pointer (some ⟨w.heap.size, 0, none⟩), .int .i64 i, .int .i64 cpu] wr fun ev w' => ∃ v'', ev = .returned (.tuple #[.int .i64 b, .int .i64 0]) ∧ SS w' w.heap.size (fun k => (k < w.heap.size ∨ k = w.heap.size + 1) ∨ (Value.slice a' j c').ownBlock = some k) t v'' ∧ Safe (fun k => (k < w.heap.size ∨ k = w.heap.size + 1) ∨ (Value.slice a' j c').ownBlock = some k) wr w') := by
          refine hONE.mono ?_
          rintro ev w' (⟨h, _⟩ | ⟨s'', b', v'', h, h1, h2, h3, _⟩)
          · rw [hone] at h
            cases h
          · rw [hone] at h
            obtain ⟨rfl, rfl⟩ : t = s'' ∧ b = b' := by simpa using h
            exact ⟨v'', h1, h2, h3⟩
        obtain ⟨hkt, hct, hlt', hct'⟩ := HKj.out.one hc hcpj' hone
        have HKT := Hid.mk hkt
        have HBK1 := Hid.mk (bulk_some HBK.out hone)
        have hcpt : t.h.cpus = s.h.cpus := hct.trans hcpj
        clear hONE hone HSj HKj HBK hkt hct
        go_upto_region 12 with (go_at_call 32; refine HC.out.mono ?_; rintro ev w5 ⟨v'', rfl, hs5, hf5⟩)
        have HR5 : Hid (w5.ownsRow w3.heap.size 3 1 (.slice a' j c') j (l.map vI)) := own_kept HRj.out fun k hk hlt => hf5.block k hlt (.inr hk)
        have HT5 := Hid.mk (hf5.box HTj.out htj (.inl (.inr rfl)))
        have HU5 := Hid.mk (hf5.frz HUj.out htj (.inl (.inr rfl)))
        have HB5 : Hid (Below w.heap.size w w5) := Safe.after HBj.out hf5 (fun k hk => .inl (.inl hk)) HBj.out.size
        have HS5 := Hid.mk hs5
        have hw5 : w3.heap.size ≤ w5.heap.size := Nat.le_trans hwj hf5.size
        clear hs5 hf5 HRj HTj HUj HBj HC
        have ba := below_alloc w5 (.cells #[.int .i64 b] 3)
        have HS6 := Hid.mk (HS5.out.below ba)
        have HR6 : Hid ((w5.alloc (.cells #[.int .i64 b] 3)).ownsRow w3.heap.size 3 1 (.slice a' j c') j (l.map vI)) := own_below HR5.out ba (Nat.le_refl _)
        have ht5 : w.heap.size + 1 < w5.heap.size := Nat.lt_of_lt_of_le ht3 hw5
        have HT6 := Hid.mk (box_step HT5.out ht5 ba)
        have HU6 := Hid.mk (frz_step HU5.out ht5 ba)
        have HB6 := Hid.mk (Below.step HB5.out ba)
        have hw6 : w3.heap.size ≤ (w5.alloc (.cells #[.int .i64 b] 3)).heap.size := Nat.le_trans hw5 ba.size
        have hnw := (World.news_of_block (heap_alloc_new w5 (.cells #[.int .i64 b] 3)))
        have HNW := Hid.mk hnw
        obtain ⟨ti, hti, htz, hts, htb⟩ := info_parts info_int
        have hjm : j ≤ 256 := by omega
        have ht6 : w.heap.size + 1 < (w5.alloc (.cells #[.int .i64 b] 3)).heap.size := Nat.lt_of_lt_of_le ht3 hw6
        clear ba hnw HS5 HR5 HT5 HU5 HB5
        go_wp2_with (at_builtin; refine wpList_append_lies _ rfl _ _ 30 rfl w3.heap.size 3 ti (.int .i64 0) 1 8 Tryz.underlying30 hti htz hts htb rfl (by decide) (.slice a' j c') j (l.map vI) rfl HR6.out ⟨w5.heap.size, 0, none⟩ 1 1 [.int .i64 b] rfl rfl HNW.out (by simp [Value.oneCell']) (by decide) (by unfold maxLen; omega) (by omega) hw6 _ rfl ?_; intro g7 cap7 w7 ho7 hg7 hl7 hlt7)
        have hne7 : some (w.heap.size + 1) ≠ (Value.slice a' j c').ownBlock := fun e => by
          have := (HR6.out.lt _ e.symm).1
          omega
        have HS7 := Hid.mk (HS6.out.out (Z := fun k => (k < w.heap.size ∨ k = w.heap.size + 1) ∨ (Value.slice (some ⟨g7, 0, none⟩) (j + 1) cap7).ownBlock = some k) hg7 (fun k e => .inr e) (fun k hk => by
          rcases hk with h | h
          · exact .inl (.inl h)
          · obtain rfl : g7 = k := by simpa [Value.ownBlock] using h
            rcases hl7 with h1 | h1
            · exact .inl (.inr h1)
            · exact .inr ⟨Nat.le_of_eq h1.symm, hlt7⟩))
        have HR7 : Hid (w7.ownsRow w3.heap.size 3 1 (.slice (some ⟨g7, 0, none⟩) (j + 1) cap7) (j + 1) ((l ++ [b]).map vI)) := by
          unfold Hid
          rw [List.map_append]
          exact ho7
        have HT7 := Hid.mk (box_grown HT6.out ht6 hg7 hne7)
        have HU7 := Hid.mk (frz_grown HU6.out ht6 hg7 hne7)
        have HB7 : Hid (Below w.heap.size w w7) := Below.grown HB6.out hg7 HB6.out.size fun k e => by
          have := (HR6.out.lt k e).1
          omega
        have hw7 : w3.heap.size ≤ w7.heap.size := Nat.le_trans hw6 hg7.size
        have hlj7 : (l ++ [b]).length = j + 1 := by simp [hlj]
        clear ho7 hg7 hl7 hlt7 HS6 HR6 HT6 HU6 HB6 HNW hne7
        go_wp2
        go_roundw
        case rel => exact ⟨j + 1, t, l ++ [b], v'', some ⟨g7, 0, none⟩, cap7, by omega, by go_num, by first | rfl | trivial, HBK1, hlj7, HKT, hcpt, hct', HS7, HR7, HT7, HU7, hw7, HB7⟩
        case measure => simp [intOf]; omega
    · obtain rfl : j = many := by omega
      have hle1 : w.heap.size ≤ w.heap.size + 1 := Nat.le_succ _
      have htj : w.heap.size + 1 < wr.heap.size := Nat.lt_of_lt_of_le ht3 hwj
      have KT := HTj.out
      have hnr : (Value.slice a' j c').ownBlock ≠ some (w.heap.size + 1) := fun e => by
        have := (HRj.out.lt _ e).1
        omega
      have x0 := HSj.out.k 0
      have x1 := HSj.out.k 1
      have x2 := HSj.out.k 2
      have x3 := HSj.out.k 3
      have x4 := HSj.out.k 4
      have x5 := HSj.out.k 5
      have x6 := HSj.out.k 6
      unfold Sc.vals at x0 x1 x2 x3 x4 x5 x6
      have y0 := KT 0
      have y1 := KT 1
      have y2 := KT 2
      have y3 := KT 3
      have y4 := KT 4
      have y5 := KT 5
      have y6 := KT 6
      have f0 := HUj.out 0
      have f1 := HUj.out 1
      have f2 := HUj.out 2
      have f3 := HUj.out 3
      have f4 := HUj.out 4
      have f5 := HUj.out 5
      have f6 := HUj.out 6
      simp only [List.getElem?_toArray, List.getElem?_cons_zero, List.getElem?_cons_succ] at x0 x1 x2 x3 x4 x5 x6 y0 y1 y2 y3 y4 y5 y6
      have KX := (box_set (box_set (box_set (box_set (box_set (box_set (box_set KT 0 (.slice v'.a1 v'.n1 v'.c1)) 1 (.slice v'.hc.az 2 v'.hc.cz)) 2 (.slice v'.hc.am 2 v'.hc.cm)) 3 (.int .i64 (s'.h.cpus : Int))) 4 (.slice v'.hc.al v'.hc.lc.length v'.hc.cl)) 5 (.slice v'.hc.av s'.h.live.length v'.hc.cv)) 6 (.slice v'.a2 v'.ys.length v'.c2))
      simp only [List.setIfInBounds_toArray, List.set_cons_zero, List.set_cons_succ] at KX
      have hX8 : (fun k => (k < w.heap.size ∨ k = w.heap.size + 1) ∨ (Value.slice a' j c').ownBlock = some k) (w.heap.size + 1) := .inl (.inr rfl)
      have A0 := HSj.out
      have B0 := HRj.out
      have A1 := A0.farX hX8 0 (.slice v'.a1 v'.n1 v'.c1)
      have B1 := own_set (i := 0) B0 hnr (.slice v'.a1 v'.n1 v'.c1)
      have A2 := A1.farX hX8 1 (.slice v'.hc.az 2 v'.hc.cz)
      have B2 := own_set (i := 1) B1 hnr (.slice v'.hc.az 2 v'.hc.cz)
      have A3 := A2.farX hX8 2 (.slice v'.hc.am 2 v'.hc.cm)
      have B3 := own_set (i := 2) B2 hnr (.slice v'.hc.am 2 v'.hc.cm)
      have A4 := A3.farX hX8 3 (.int .i64 (s'.h.cpus : Int))
      have B4 := own_set (i := 3) B3 hnr (.int .i64 (s'.h.cpus : Int))
      have A5 := A4.farX hX8 4 (.slice v'.hc.al v'.hc.lc.length v'.hc.cl)
      have B5 := own_set (i := 4) B4 hnr (.slice v'.hc.al v'.hc.lc.length v'.hc.cl)
      have A6 := A5.farX hX8 5 (.slice v'.hc.av s'.h.live.length v'.hc.cv)
      have B6 := own_set (i := 5) B5 hnr (.slice v'.hc.av s'.h.live.length v'.hc.cv)
      have A7 := A6.farX hX8 6 (.slice v'.a2 v'.ys.length v'.c2)
      have B7 := own_set (i := 6) B6 hnr (.slice v'.a2 v'.ys.length v'.c2)
      have HSX := Hid.mk (A7.sub (Y := fun k => k < w.heap.size) (fun k hk => .inl (.inl hk))).r
      have HRX := Hid.mk (own_row B7)
      clear A0 A1 A2 A3 A4 A5 A6 A7 B0 B1 B2 B3 B4 B5 B6 B7 hX8
      have HBX := Hid.mk (Below.setCell (Below.setCell (Below.setCell (Below.setCell (Below.setCell (Below.setCell (Below.setCell HBj.out (show w.heap.size ≤ (⟨w.heap.size + 1, 0, none⟩ : Addr).block from hle1) (.slice v'.a1 v'.n1 v'.c1)) (show w.heap.size ≤ (⟨w.heap.size + 1, 1, none⟩ : Addr).block from hle1) (.slice v'.hc.az 2 v'.hc.cz)) (show w.heap.size ≤ (⟨w.heap.size + 1, 2, none⟩ : Addr).block from hle1) (.slice v'.hc.am 2 v'.hc.cm)) (show w.heap.size ≤ (⟨w.heap.size + 1, 3, none⟩ : Addr).block from hle1) (.int .i64 (s'.h.cpus : Int))) (show w.heap.size ≤ (⟨w.heap.size + 1, 4, none⟩ : Addr).block from hle1) (.slice v'.hc.al v'.hc.lc.length v'.hc.cl)) (show w.heap.size ≤ (⟨w.heap.size + 1, 5, none⟩ : Addr).block from hle1) (.slice v'.hc.av s'.h.live.length v'.hc.cv)) (show w.heap.size ≤ (⟨w.heap.size + 1, 6, none⟩ : Addr).block from hle1) (.slice v'.a2 v'.ys.length v'.c2))
      clear KT HTj HUj HRj hcj
      have HLJ := Hid.mk hlj
      clear hlj hcpj hlt hj hmi1 hmi2
      go_wp2_with fail
      generalize ((((((wr.setCell ⟨w.heap.size + 1, 0, none⟩ (.slice v'.a1 v'.n1 v'.c1)).setCell ⟨w.heap.size + 1, 1, none⟩ (.slice v'.hc.az 2 v'.hc.cz)).setCell ⟨w.heap.size + 1, 2, none⟩ (.slice v'.hc.am 2 v'.hc.cm)).setCell ⟨w.heap.size + 1, 3, none⟩ (.int .i64 (s'.h.cpus : Int))).setCell ⟨w.heap.size + 1, 4, none⟩ (.slice v'.hc.al v'.hc.lc.length v'.hc.cl)).setCell ⟨w.heap.size + 1, 5, none⟩ (.slice v'.hc.av s'.h.live.length v'.hc.cv)).setCell ⟨w.heap.size + 1, 6, none⟩ (.slice v'.a2 v'.ys.length v'.c2) = wx at *
      refine bodyPost_ret (v := .tuple #[.agg #[.slice v'.a1 v'.n1 v'.c1, .slice v'.hc.az 2 v'.hc.cz, .slice v'.hc.am 2 v'.hc.cm, .int .i64 (s'.h.cpus : Int), .slice v'.hc.al v'.hc.lc.length v'.hc.cl, .slice v'.hc.av s'.h.live.length v'.hc.cv, .slice v'.a2 v'.ys.length v'.c2], .slice a' j c', .int .i64 0]) (by simp [results, Tryz.results10, go_sem, KX]) rfl (.inr ⟨s', l, v', a', c', HBK.out, rfl, HSX.out, HLJ.out, HRX.out, HBX.out⟩)
end Go.Proofs.YtkcaheebaicinaaGreatDoor
