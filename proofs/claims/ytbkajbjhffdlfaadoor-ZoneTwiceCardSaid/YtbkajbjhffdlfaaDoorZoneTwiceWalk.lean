/- The walk of paddockkeep.ZoneTwice. -/
import Derived.Test.YtbkajbjhffdlfaaDoorBlk21
import Derived.Test.YtbkajbjhffdlfaaDoorBlk22
import Derived.Test.YtbkajbjhffdlfaaDoorBlk24
import Derived.Test.YtbkajbjhffdlfaaDoorBlk12
import Derived.Test.YtbkajbjhffdlfaaDoorBlk13
import Derived.OpenShut
import Derived.ProofKit
namespace Go.Proofs.YtbkajbjhffdlfaaDoor
open Go.RowKit Go.WideShapes Go.ChangeShapes
set_option linter.unusedVariables false

set_option maxHeartbeats 8000000 in
set_option maxRecDepth 100000 in
theorem zoneTwice_walk (a : Option Addr) (n c : Nat) (l : List Rw) (hl : l.length = n) {w : World} (hr : Row w a (flat encRw l)) (hnc : n ≤ c) (hcm : c ≤ maxLen) (hwf : ∀ r ∈ l, r.wf) (q : Int) (hq : (Lit.int .i64 q).wf = true) (hoth : Oth w) :
    Calls Tryd.prog 7 #[.slice a n c, .int .i64 q] w fun ev w' => ev = .returned (.bool true) ∧ Below w.heap.size w w' := by
  obtain ⟨hq1, hq2⟩ := bounds_i64 hq
  go_enter Tryd.func7, Tryd.ntmps7
  go_wp2_with fail
  refine (zoned_ok a n c l 40 _ hl hnc hcm hr hwf (by omega) hoth).mono ?_
  rintro ev w1 ⟨z, away, hd⟩
  obtain ⟨a1, a2, n1, n2, c1, c2, aw, na, ca, rfl, hown, hoa⟩ := hd.ex
  have hzok := hd.inv.ok
  have hlen : z.l.length ≤ 256 := Nat.le_trans (OkL.length_le hzok.2 (fun b hb => (hzok.2.fit b hb).1.2.2.1)) hzok.1.e2
  have l1 := hown.l1
  have HFE := Hid.mk (And.intro hd.f hd.e)
  have hb2 := below_alloc w1 (.cells #[.int .i64 (z.f : Int), .int .i64 (z.e : Int), .slice a1 n1 c1, .slice a2 n2 c2] 26)
  have K3 := box_new w1 #[.int .i64 (z.f : Int), .int .i64 (z.e : Int), .slice a1 n1 c1, .slice a2 n2 c2] 26
  have hs : w1.heap.size < (w1.alloc (.cells #[.int .i64 (z.f : Int), .int .i64 (z.e : Int), .slice a1 n1 c1, .slice a2 n2 c2] 26)).heap.size := by simp
  have hat2 := hown.at.below hb2
  have hbw2 := Below.step hd.bw hb2
  clear hd hown hoa hb2
  dsimp only
  obtain ⟨p, hp256, hpk'⟩ := pk_nat q 256 (by omega)
  have hpk : pk q 256 = (p : Int) := hpk'
  clear hpk'
  go_wp2_with fail
  generalize w1.alloc (.cells #[.int .i64 (z.f : Int), .int .i64 (z.e : Int), .slice a1 n1 c1, .slice a2 n2 c2] 26) = w2 at *
  generalize w1.heap.size = B at *
  refine (picked_any q 256 _ hq1 hq2 (by omega) (by omega)).mono ?_
  rintro ev _ ⟨rfl, rfl⟩
  rw [hpk]
  clear hpk
  have hb3 := below_alloc w2 (.cells #[.int .i64 (p : Int)] 3)
  have K3b := box_step K3 hs hb3
  have hs3 := Nat.lt_of_lt_of_le hs hb3.size
  have K8 := box_new w2 #[.int .i64 (p : Int)] 3
  have hs8 : w2.heap.size < (w2.alloc (.cells #[.int .i64 (p : Int)] 3)).heap.size := by simp
  have hat3 := hat2.below hb3
  have hbw3 := Below.step hbw2 hb3
  clear K3 hat2 hbw2 hb3 hs
  dsimp only
  go_wp2_with fail
  generalize w2.alloc (.cells #[.int .i64 (p : Int)] 3) = w3 at *
  generalize w2.heap.size = C at *
  have eg : ∀ args w, (callFunc 19 args).run Tryd.prog w = .ok (.enter 19 args) w := enters_of Tryd.func19 (by kernel_rfl) rfl
  refine (containsFuncBk _ _ _ z.l _ _ (fun x => decide (x.a ≤ p ∧ p < x.fin)) _ l1 (by omega) hat3.r1 eg (fun W hW x hx => inBlk x p C W (hzok.2.fit x hx).1.1 (by have := (hzok.2.fit x hx).1.2.2.1; have := hzok.1.e2; omega) (by omega) (Nat.lt_of_lt_of_le hs8 hW.size) ((hW.cell (p := ⟨C, 0, none⟩) hs8).trans (K8 0)))).mono ?_
  rintro ev w4 ⟨rfl, hb4⟩
  have K3c := box_step K3b hs3 hb4
  have K8c := box_step K8 hs8 hb4
  have hs4 := Nat.lt_of_lt_of_le hs3 hb4.size
  have hs84 := Nat.lt_of_lt_of_le hs8 hb4.size
  have hat4 := hat3.below hb4
  have hbw4 := Below.step hbw3 hb4
  clear K3b K8 hat3 hbw3 hb4 hs3 hs8 eg
  dsimp only
  have hc0 := K8c 0
  simp only [List.getElem?_toArray, List.getElem?_cons_zero] at hc0
  have hz1 : z.f = 16 := HFE.out.1
  have hz2 : z.e = 112 := HFE.out.2
  by_cases hrange : p < 16 ∨ 112 ≤ p
  · have hcall := back_range a1 a2 n1 n2 c1 c2 z p w4 hat4 hzok (by omega) (by omega)
    have HC := Hid.mk hcall
    clear hcall hz1 hz2
    have k30 := K3c 0
    have k31 := K3c 1
    have k32 := K3c 2
    have k33 := K3c 3
    simp only [List.getElem?_toArray, List.getElem?_cons_zero, List.getElem?_cons_succ] at k30 k31 k32 k33
    go_wp2_with fail
    clear k30 k31 k32 k33
    refine HC.out.mono ?_
    rintro ev wk ⟨rfl, hbk⟩
    clear HC
    rcases hrange with hlo | hhi
    · have hlo2 : (p : Int) < 16 := by omega
      have hbx := below_alloc wk (.cells #[.int .i64 0, .int .i64 0, .slice none 0 0, .slice none 0 0] 26)
      have hbk2 := Below.step hbk hbx
      have K3d := box_step K3c hs4 hbk2
      have K8d := box_step K8c hs84 hbk2
      have hat6 := hat4.below hbk2
      have hs6 := Nat.lt_of_lt_of_le hs4 hbk2.size
      have hs86 := Nat.lt_of_lt_of_le hs84 hbk2.size
      have hbw6 := Below.step hbw4 hbk2
      have hc0 := K8c 0
      have hC := Nat.lt_of_lt_of_le hs84 hbk.size
      have hB' := Nat.lt_of_lt_of_le hs4 hbk.size
      have K3k := box_step K3c hs4 hbk
      have K8k := box_step K8c hs84 hbk
      clear hbx hbk2 hbk K3c K8c hat4 hbw4 hs4 hs84 hc0
      dsimp only
      go_wp2_with fail
      clear K3k K8k
      generalize wk.alloc (.cells #[.int .i64 0, .int .i64 0, .slice none 0 0, .slice none 0 0] 26) = w6 at *
      refine (pages_ok _ _ _ _ _ _ z _ hat6 hzok).mono ?_
      rintro ev w7 ⟨rfl, hb7⟩
      have K3e := box_step K3d hs6 hb7
      have hat7 := hat6.below hb7
      have hbw7 := Below.step hbw6 hb7
      have hs7 := Nat.lt_of_lt_of_le hs6 hb7.size
      clear K3d K8d hat6 hbw6 hb7 hs6 hs86
      dsimp only
      go_wp2
      go_loopw [15, 51] (fun s15 s51 wr => ∃ i : Nat, i ≤ n1 ∧ s51 = .int .i64 (i : Int) ∧ s15 = .int .i64 (sumB (z.l.take i) : Nat) ∧ Hid (Below w7.heap.size w7 wr)) (fun _ s51 _ => n1 - (intOf s51).toNat)
      case atStart => exact ⟨0, Nat.zero_le _, rfl, rfl, Below.refl _ _⟩
      case round =>
        obtain ⟨i, hi, rfl, rfl, hb⟩ := hrel
        by_cases hlt : i < n1
        · have hlt2 : i < z.l.length := by omega
          obtain ⟨bb, off, ha1, hbb, hc⟩ := row_elem encBk_length (by decide) (hat7.r1.below hb.out) hlt2
          obtain rfl := ha1
          obtain ⟨hc0, hc1, hc2⟩ := encBk_cells hc
          have hfit := (hzok.2.fit _ (List.getElem_mem hlt2)).1
          have hsum := Hid.mk (sumB_take z.l i hlt2)
          have hle := sumB_le (z.l.take i) (fun b hb => (hzok.2.fit b (List.mem_of_mem_take hb)).1.1)
          rw [List.length_take] at hle
          have hle2 : sumB (z.l.take i) ≤ 5000 := by omega
          clear hc hle
          generalize z.l[i] = x at *
          have hsh := shl_bk hfit.1
          have hpw := pow_bk hfit.1
          have hNew := Hid.mk (Below.step hb.out (below_alloc wr (.cells #[.int .i64 (x.a : Int), .int .i64 (x.o : Int), .int .i64 (x.t : Int)] 36)))
          obtain ⟨S, hS⟩ : ∃ S, sumB (z.l.take i) = S := ⟨_, rfl⟩
          rw [hS] at hle2 hsum ⊢
          clear hS
          have hlti : (i : Int) < n1 := by omega
          have hw : wrap64 ((S : Int) + wrap64 (2 ^ min x.o 64)) = ((S + 2 ^ x.o : Nat) : Int) := by
            rw [show min x.o 64 = x.o by have := hfit.1; omega, hsh]
            generalize 2 ^ x.o = qq at *
            have := IntWalk.wrap64_in ((S : Int) + qq) (by omega)
            rw [Int.natCast_add]
            exact this
          go_wp2
          go_roundw
          case rel => exact ⟨i + 1, by omega, by go_num, by rw [hsum.out]; simp only [Value.int.injEq, true_and]; exact hw, hNew⟩
          case measure => simp [intOf]; omega
        · obtain rfl : i = n1 := by omega
          have he : z.l.take i = z.l := by rw [← l1, List.take_length]
          rw [he]
          clear he
          go_wp2
          go_ret
          exact ⟨rfl, Below.step hbw7 hb.out⟩

    · have hlo2 : ¬ (p : Int) < 16 := by omega
      have hhi2 : (112 : Int) ≤ p := by omega
      have hbx := below_alloc wk (.cells #[.int .i64 0, .int .i64 0, .slice none 0 0, .slice none 0 0] 26)
      have hbk2 := Below.step hbk hbx
      have K3d := box_step K3c hs4 hbk2
      have K8d := box_step K8c hs84 hbk2
      have hat6 := hat4.below hbk2
      have hs6 := Nat.lt_of_lt_of_le hs4 hbk2.size
      have hs86 := Nat.lt_of_lt_of_le hs84 hbk2.size
      have hbw6 := Below.step hbw4 hbk2
      have hc0 := K8c 0
      have hC := Nat.lt_of_lt_of_le hs84 hbk.size
      have hB' := Nat.lt_of_lt_of_le hs4 hbk.size
      have K3k := box_step K3c hs4 hbk
      have K8k := box_step K8c hs84 hbk
      clear hbx hbk2 hbk K3c K8c hat4 hbw4 hs4 hs84 hc0
      dsimp only
      go_wp2_with fail
      clear K3k K8k
      generalize wk.alloc (.cells #[.int .i64 0, .int .i64 0, .slice none 0 0, .slice none 0 0] 26) = w6 at *
      refine (pages_ok _ _ _ _ _ _ z _ hat6 hzok).mono ?_
      rintro ev w7 ⟨rfl, hb7⟩
      have K3e := box_step K3d hs6 hb7
      have hat7 := hat6.below hb7
      have hbw7 := Below.step hbw6 hb7
      have hs7 := Nat.lt_of_lt_of_le hs6 hb7.size
      clear K3d K8d hat6 hbw6 hb7 hs6 hs86
      dsimp only
      go_wp2
      go_loopw [15, 51] (fun s15 s51 wr => ∃ i : Nat, i ≤ n1 ∧ s51 = .int .i64 (i : Int) ∧ s15 = .int .i64 (sumB (z.l.take i) : Nat) ∧ Hid (Below w7.heap.size w7 wr)) (fun _ s51 _ => n1 - (intOf s51).toNat)
      case atStart => exact ⟨0, Nat.zero_le _, rfl, rfl, Below.refl _ _⟩
      case round =>
        obtain ⟨i, hi, rfl, rfl, hb⟩ := hrel
        by_cases hlt : i < n1
        · have hlt2 : i < z.l.length := by omega
          obtain ⟨bb, off, ha1, hbb, hc⟩ := row_elem encBk_length (by decide) (hat7.r1.below hb.out) hlt2
          obtain rfl := ha1
          obtain ⟨hc0, hc1, hc2⟩ := encBk_cells hc
          have hfit := (hzok.2.fit _ (List.getElem_mem hlt2)).1
          have hsum := Hid.mk (sumB_take z.l i hlt2)
          have hle := sumB_le (z.l.take i) (fun b hb => (hzok.2.fit b (List.mem_of_mem_take hb)).1.1)
          rw [List.length_take] at hle
          have hle2 : sumB (z.l.take i) ≤ 5000 := by omega
          clear hc hle
          generalize z.l[i] = x at *
          have hsh := shl_bk hfit.1
          have hpw := pow_bk hfit.1
          have hNew := Hid.mk (Below.step hb.out (below_alloc wr (.cells #[.int .i64 (x.a : Int), .int .i64 (x.o : Int), .int .i64 (x.t : Int)] 36)))
          obtain ⟨S, hS⟩ : ∃ S, sumB (z.l.take i) = S := ⟨_, rfl⟩
          rw [hS] at hle2 hsum ⊢
          clear hS
          have hlti : (i : Int) < n1 := by omega
          have hw : wrap64 ((S : Int) + wrap64 (2 ^ min x.o 64)) = ((S + 2 ^ x.o : Nat) : Int) := by
            rw [show min x.o 64 = x.o by have := hfit.1; omega, hsh]
            generalize 2 ^ x.o = qq at *
            have := IntWalk.wrap64_in ((S : Int) + qq) (by omega)
            rw [Int.natCast_add]
            exact this
          go_wp2
          go_roundw
          case rel => exact ⟨i + 1, by omega, by go_num, by rw [hsum.out]; simp only [Value.int.injEq, true_and]; exact hw, hNew⟩
          case measure => simp [intOf]; omega
        · obtain rfl : i = n1 := by omega
          have he : z.l.take i = z.l := by rw [← l1, List.take_length]
          rw [he]
          clear he
          go_wp2
          go_ret
          exact ⟨rfl, Below.step hbw7 hb.out⟩

  · have hlo2 : ¬ (p : Int) < 16 := by omega
    have hhi2 : ¬ (112 : Int) ≤ p := by omega
    have hlo3 : decide ((p : Int) < 16) = false := decide_eq_false (by omega)
    have hhi3 : decide ((112 : Int) ≤ p) = false := decide_eq_false (by omega)
    have hfit : fitsB z.f z.e p 0 := ⟨by omega, by omega, by omega, by simp [Nat.mod_one]⟩
    cases hfree : z.l.any fun x => decide (x.a ≤ p ∧ p < x.fin) with
    | true =>
      have hcall := back_twice a1 a2 n1 n2 c1 c2 z p 0 w4 hat4 hzok hfit (by
        rw [List.any_eq_true] at hfree
        obtain ⟨x, hx, h⟩ := hfree
        have h1 := of_decide_eq_true h
        refine ⟨x, hx, fun h2 => ?_⟩
        unfold apartB at h2
        simp only [Nat.pow_zero] at h2
        omega)
      have HC := Hid.mk hcall
      clear hcall hz1 hz2 hfree
      have k30 := K3c 0
      have k31 := K3c 1
      have k32 := K3c 2
      have k33 := K3c 3
      simp only [List.getElem?_toArray, List.getElem?_cons_zero, List.getElem?_cons_succ] at k30 k31 k32 k33
      go_wp2_with fail
      clear k30 k31 k32 k33
      refine HC.out.mono ?_
      rintro ev wk ⟨rfl, hbk⟩
      clear HC
      have hbx := below_alloc wk (.cells #[.int .i64 0, .int .i64 0, .slice none 0 0, .slice none 0 0] 26)
      have hbk2 := Below.step hbk hbx
      have K3d := box_step K3c hs4 hbk2
      have K8d := box_step K8c hs84 hbk2
      have hat6 := hat4.below hbk2
      have hs6 := Nat.lt_of_lt_of_le hs4 hbk2.size
      have hs86 := Nat.lt_of_lt_of_le hs84 hbk2.size
      have hbw6 := Below.step hbw4 hbk2
      have hc0 := K8c 0
      have hC := Nat.lt_of_lt_of_le hs84 hbk.size
      have hB' := Nat.lt_of_lt_of_le hs4 hbk.size
      have K3k := box_step K3c hs4 hbk
      have K8k := box_step K8c hs84 hbk
      clear hbx hbk2 hbk K3c K8c hat4 hbw4 hs4 hs84 hc0
      dsimp only
      go_wp2_with fail
      clear K3k K8k
      generalize wk.alloc (.cells #[.int .i64 0, .int .i64 0, .slice none 0 0, .slice none 0 0] 26) = w6 at *
      refine (pages_ok _ _ _ _ _ _ z _ hat6 hzok).mono ?_
      rintro ev w7 ⟨rfl, hb7⟩
      have K3e := box_step K3d hs6 hb7
      have hat7 := hat6.below hb7
      have hbw7 := Below.step hbw6 hb7
      have hs7 := Nat.lt_of_lt_of_le hs6 hb7.size
      clear K3d K8d hat6 hbw6 hb7 hs6 hs86
      dsimp only
      go_wp2
      go_loopw [15, 51] (fun s15 s51 wr => ∃ i : Nat, i ≤ n1 ∧ s51 = .int .i64 (i : Int) ∧ s15 = .int .i64 (sumB (z.l.take i) : Nat) ∧ Hid (Below w7.heap.size w7 wr)) (fun _ s51 _ => n1 - (intOf s51).toNat)
      case atStart => exact ⟨0, Nat.zero_le _, rfl, rfl, Below.refl _ _⟩
      case round =>
        obtain ⟨i, hi, rfl, rfl, hb⟩ := hrel
        by_cases hlt : i < n1
        · have hlt2 : i < z.l.length := by omega
          obtain ⟨bb, off, ha1, hbb, hc⟩ := row_elem encBk_length (by decide) (hat7.r1.below hb.out) hlt2
          obtain rfl := ha1
          obtain ⟨hc0, hc1, hc2⟩ := encBk_cells hc
          have hfit := (hzok.2.fit _ (List.getElem_mem hlt2)).1
          have hsum := Hid.mk (sumB_take z.l i hlt2)
          have hle := sumB_le (z.l.take i) (fun b hb => (hzok.2.fit b (List.mem_of_mem_take hb)).1.1)
          rw [List.length_take] at hle
          have hle2 : sumB (z.l.take i) ≤ 5000 := by omega
          clear hc hle
          generalize z.l[i] = x at *
          have hsh := shl_bk hfit.1
          have hpw := pow_bk hfit.1
          have hNew := Hid.mk (Below.step hb.out (below_alloc wr (.cells #[.int .i64 (x.a : Int), .int .i64 (x.o : Int), .int .i64 (x.t : Int)] 36)))
          obtain ⟨S, hS⟩ : ∃ S, sumB (z.l.take i) = S := ⟨_, rfl⟩
          rw [hS] at hle2 hsum ⊢
          clear hS
          have hlti : (i : Int) < n1 := by omega
          have hw : wrap64 ((S : Int) + wrap64 (2 ^ min x.o 64)) = ((S + 2 ^ x.o : Nat) : Int) := by
            rw [show min x.o 64 = x.o by have := hfit.1; omega, hsh]
            generalize 2 ^ x.o = qq at *
            have := IntWalk.wrap64_in ((S : Int) + qq) (by omega)
            rw [Int.natCast_add]
            exact this
          go_wp2
          go_roundw
          case rel => exact ⟨i + 1, by omega, by go_num, by rw [hsum.out]; simp only [Value.int.injEq, true_and]; exact hw, hNew⟩
          case measure => simp [intOf]; omega
        · obtain rfl : i = n1 := by omega
          have he : z.l.take i = z.l := by rw [← l1, List.take_length]
          rw [he]
          clear he
          go_wp2
          go_ret
          exact ⟨rfl, Below.step hbw7 hb.out⟩

    | false =>
      have hcall := back_ok a1 a2 n1 n2 c1 c2 z p 0 w4 hat4 hzok hfit (fun x hx => by
        rw [List.any_eq_false] at hfree
        have h1 : x.a ≤ p → x.fin ≤ p := by simpa using hfree x hx
        unfold apartB
        simp only [Nat.pow_zero]
        by_cases h2 : x.a ≤ p
        · exact .inl (h1 h2)
        · exact .inr (by omega))
      have HC := Hid.mk hcall
      clear hcall hz1 hz2 hfree
      have k30 := K3c 0
      have k31 := K3c 1
      have k32 := K3c 2
      have k33 := K3c 3
      simp only [List.getElem?_toArray, List.getElem?_cons_zero, List.getElem?_cons_succ] at k30 k31 k32 k33
      go_wp2_with fail
      clear k30 k31 k32 k33
      refine HC.out.mono ?_
      rintro ev wk ⟨e1, e2, p1, q1, q2, rfl, _, hbk⟩
      clear HC
      have hbx := below_alloc wk (.cells #[.int .i64 (z.f : Int), .int .i64 (z.e : Int), .slice e1 p1 q1, .slice e2 n2 q2] 26)
      have hbk2 := Below.step hbk hbx
      have K3d := box_step K3c hs4 hbk2
      have K8d := box_step K8c hs84 hbk2
      have hat6 := hat4.below hbk2
      have hs6 := Nat.lt_of_lt_of_le hs4 hbk2.size
      have hs86 := Nat.lt_of_lt_of_le hs84 hbk2.size
      have hbw6 := Below.step hbw4 hbk2
      have hc0 := K8c 0
      have hC := Nat.lt_of_lt_of_le hs84 hbk.size
      have hB' := Nat.lt_of_lt_of_le hs4 hbk.size
      have K3k := box_step K3c hs4 hbk
      have K8k := box_step K8c hs84 hbk
      clear hbx hbk2 hbk K3c K8c hat4 hbw4 hs4 hs84 hc0
      dsimp only
      go_wp2_with fail
      clear K3k K8k
      generalize wk.alloc (.cells #[.int .i64 (z.f : Int), .int .i64 (z.e : Int), .slice e1 p1 q1, .slice e2 n2 q2] 26) = w6 at *
      refine (pages_ok _ _ _ _ _ _ z _ hat6 hzok).mono ?_
      rintro ev w7 ⟨rfl, hb7⟩
      have K3e := box_step K3d hs6 hb7
      have hat7 := hat6.below hb7
      have hbw7 := Below.step hbw6 hb7
      have hs7 := Nat.lt_of_lt_of_le hs6 hb7.size
      clear K3d K8d hat6 hbw6 hb7 hs6 hs86
      dsimp only
      go_wp2
      go_loopw [15, 51] (fun s15 s51 wr => ∃ i : Nat, i ≤ n1 ∧ s51 = .int .i64 (i : Int) ∧ s15 = .int .i64 (sumB (z.l.take i) : Nat) ∧ Hid (Below w7.heap.size w7 wr)) (fun _ s51 _ => n1 - (intOf s51).toNat)
      case atStart => exact ⟨0, Nat.zero_le _, rfl, rfl, Below.refl _ _⟩
      case round =>
        obtain ⟨i, hi, rfl, rfl, hb⟩ := hrel
        by_cases hlt : i < n1
        · have hlt2 : i < z.l.length := by omega
          obtain ⟨bb, off, ha1, hbb, hc⟩ := row_elem encBk_length (by decide) (hat7.r1.below hb.out) hlt2
          obtain rfl := ha1
          obtain ⟨hc0, hc1, hc2⟩ := encBk_cells hc
          have hfit := (hzok.2.fit _ (List.getElem_mem hlt2)).1
          have hsum := Hid.mk (sumB_take z.l i hlt2)
          have hle := sumB_le (z.l.take i) (fun b hb => (hzok.2.fit b (List.mem_of_mem_take hb)).1.1)
          rw [List.length_take] at hle
          have hle2 : sumB (z.l.take i) ≤ 5000 := by omega
          clear hc hle
          generalize z.l[i] = x at *
          have hsh := shl_bk hfit.1
          have hpw := pow_bk hfit.1
          have hNew := Hid.mk (Below.step hb.out (below_alloc wr (.cells #[.int .i64 (x.a : Int), .int .i64 (x.o : Int), .int .i64 (x.t : Int)] 36)))
          obtain ⟨S, hS⟩ : ∃ S, sumB (z.l.take i) = S := ⟨_, rfl⟩
          rw [hS] at hle2 hsum ⊢
          clear hS
          have hlti : (i : Int) < n1 := by omega
          have hw : wrap64 ((S : Int) + wrap64 (2 ^ min x.o 64)) = ((S + 2 ^ x.o : Nat) : Int) := by
            rw [show min x.o 64 = x.o by have := hfit.1; omega, hsh]
            generalize 2 ^ x.o = qq at *
            have := IntWalk.wrap64_in ((S : Int) + qq) (by omega)
            rw [Int.natCast_add]
            exact this
          go_wp2
          go_roundw
          case rel => exact ⟨i + 1, by omega, by go_num, by rw [hsum.out]; simp only [Value.int.injEq, true_and]; exact hw, hNew⟩
          case measure => simp [intOf]; omega
        · obtain rfl : i = n1 := by omega
          have he : z.l.take i = z.l := by rw [← l1, List.take_length]
          rw [he]
          clear he
          go_wp2
          go_ret
          exact ⟨rfl, Below.step hbw7 hb.out⟩

end Go.Proofs.YtbkajbjhffdlfaaDoor
