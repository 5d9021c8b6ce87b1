/- Pq, PagesBadWalk: texts of this claim, joined. -/
import Derived.Test.YtjljcifpcljlaaaDoorPM15
import Derived.Test.YtjljcifpcljlaaaDoorPM2
import Derived.OpenShut
import Derived.ProofKit
/- Contracts of the predicates of PagesRoom and PagesBad. -/
namespace Go.Proofs.YtjljcifpcljlaaaDoor
open Go.RowKit
set_option linter.unusedVariables false

theorem greatEnoughP (x : Bk) (o C : Nat) (W : World) (hx : x.o ≤ 4) (ho : o ≤ 4) (hC : C < W.heap.size) (hc : W.cell? ⟨C, 0, none⟩ = some (.int .i64 o)) :
    Calls Tryd.prog 21 (#[.agg (encBk x).toArray] ++ #[.pointer (some ⟨C, 0, none⟩)]) W fun ev w' => ev = .returned (.bool (decide (o ≤ x.o))) ∧ Below W.heap.size W w' := by
  have hne : C ≠ W.heap.size := by omega
  show Calls Tryd.prog 21 #[.agg #[.int .i64 x.a, .int .i64 x.o, .int .i64 x.t], .pointer (some ⟨C, 0, none⟩)] W _
  go_enter Tryd.func21, Tryd.ntmps21
  go_wp2
  go_ret
  exact ⟨ret_bool (by simp), below_alloc _ _⟩

theorem thisPage (x : Bk) (p C : Nat) (W : World) (hx : x.a ≤ 1000) (hp : p ≤ 1000) (hC : C < W.heap.size) (hc : W.cell? ⟨C, 0, none⟩ = some (.int .i64 p)) :
    Calls Tryd.prog 27 (#[.agg (encBk x).toArray] ++ #[.pointer (some ⟨C, 0, none⟩)]) W fun ev w' => ev = .returned (.bool (decide (x.a = p))) ∧ Below W.heap.size W w' := by
  have hne : C ≠ W.heap.size := by omega
  show Calls Tryd.prog 27 #[.agg #[.int .i64 x.a, .int .i64 x.o, .int .i64 x.t], .pointer (some ⟨C, 0, none⟩)] W _
  go_enter Tryd.func27, Tryd.ntmps27
  go_wp2
  go_ret
  exact ⟨ret_bool (by rw [Bool.eq_iff_iff]; simp only [beq_iff_eq, decide_eq_true_eq]; omega), below_alloc _ _⟩
end Go.Proofs.YtjljcifpcljlaaaDoor
/- The walk of paddockkeep.PagesBad. -/
namespace Go.Proofs.YtjljcifpcljlaaaDoor
open Go.RowKit Go.WideShapes Go.ChangeShapes
set_option linter.unusedVariables false
set_option linter.unusedSimpArgs false

theorem has_same {h0 h : Hp} {away : List Bk} (hp : PInv h0 h away) (p : Nat) : (away.any fun b => decide (b.a = p)) = hasB h.live p := by
  have key : ∀ l : List Bk, (l.any fun b => decide (b.a = p)) = (l.map keyB).any fun k => decide (k.1 = p) := fun l => by rw [List.any_map]; rfl
  have h1 : hasB h.live p = h.live.any fun b => decide (b.a = p) := rfl
  rw [h1, key, key]
  exact hp.lv.any_eq
/-- Free of a page that is away, or is not -/
theorem free_any (az am al av : Option Addr) (cz cm cl cv nl nv : Nat) (y0 y1 : Zc) (lc : List Lc) (h : Hp) (p : Nat) (w : World) (hh : HAt w az am al av nl nv y0 y1 lc h) (hk : HOk h) (hnl : nl ≤ 1000) (hnv : nv ≤ 1000) (hp : p ≤ 1000) :
    Calls Tryd.prog 26 #[.agg #[.slice az 2 cz, .slice am 2 cm, .int .i64 h.cpus, .slice al nl cl, .slice av nv cv], .int .i64 0, .int .i64 p] w fun ev w' => Below w.heap.size w w' ∧ ∃ (x0 x1 x3 x4 : Option Addr) (u0 v0 u1 v1 u3 v3 u4 v4 : Nat) (kc : Int), ev = .returned (.tuple #[.agg #[.slice x0 u0 v0, .slice x1 u1 v1, .int .i64 kc, .slice x3 u3 v3, .slice x4 u4 v4], .int .i64 (if hasB h.live p then 0 else 4)]) := by
  cases hth : hasB h.live p with
  | true =>
    refine (freeH_pg az am al av cz cm cl cv nl nv y0 y1 lc h 0 p w hh hk hnl hnv hk.cp.1 hp hth).mono fun ev w' hq => ?_
    obtain ⟨g1, c', _, g2, _⟩ := hq
    exact ⟨g1, _, _, _, _, _, _, _, _, _, _, _, _, _, g2⟩
  | false =>
    refine (free_none az am al av cz cm cl cv nl nv y0 y1 lc h p w hh hk hnl hnv hp hth).mono fun ev w' hq => ?_
    exact ⟨hq.2, _, _, _, _, _, _, _, _, _, _, _, _, _, hq.1⟩
def flB (k : Nat) : Int := if k = 0 then 16 else if k = 1 then -1 else if k = 2 then 6 else if k = 3 then 7 else 14
theorem flB_at (k : Nat) (hk : k < 5) : flB k = 16 ∨ flB k = -1 ∨ flB k = 6 ∨ flB k = 7 ∨ flB k = 14 := by
  rcases (show k = 0 ∨ k = 1 ∨ k = 2 ∨ k = 3 ∨ k = 4 by omega) with rfl | rfl | rfl | rfl | rfl <;> decide
theorem flB_get (k : Nat) (hk : k < 5) (h : k < ([Value.int .i64 16, Value.int .i64 (-1), Value.int .i64 6, Value.int .i64 7, Value.int .i64 14] : List Value).length) : ([Value.int .i64 16, Value.int .i64 (-1), Value.int .i64 6, Value.int .i64 7, Value.int .i64 14] : List Value)[k]'h = .int .i64 (flB k) := by
  rcases (show k = 0 ∨ k = 1 ∨ k = 2 ∨ k = 3 ∨ k = 4 by omega) with rfl | rfl | rfl | rfl | rfl <;> rfl

set_option maxHeartbeats 8000000 in
set_option maxRecDepth 100000 in
theorem pagesBad_walk (a : Option Addr) (n c : Nat) (l : List Rw) (hl : l.length = n) {w : World} (hr : Row w a (flat encRw l)) (hnc : n ≤ c) (hcm : c ≤ maxLen) (hwf : ∀ r ∈ l, r.wf) (x : Int) (hx : (Lit.int .i64 x).wf = true) (y : Int) (hy : (Lit.int .i64 y).wf = true) (z : Int) (hz : (Lit.int .i64 z).wf = true) (v : Int) (hv : (Lit.int .i64 v).wf = true) (hoth : Oth w) :
    Calls Tryd.prog 8 #[.slice a n c, .int .i64 x, .int .i64 y, .int .i64 z, .int .i64 v] w fun ev w' => ev = .returned (.bool true) ∧ Below w.heap.size w w' := by
  have hbx := bounds_i64 hx
  have hby := bounds_i64 hy
  have hbz := bounds_i64 hz
  have hbv := bounds_i64 hv
  have HR1 := Hid.mk hr
  have HO := Hid.mk hoth
  clear hr hoth
  go_enter Tryd.func8, Tryd.ntmps8
  go_wp2_with fail
  refine (setup_ok x y z w hbx hby hbz).mono ?_
  rintro ev w1 ⟨m1, d1, m2, d2, rfl, hbt1, hb1⟩
  go_upto_region 2 with fail
  have hb2 := below_alloc w1 (.cells #[.slice m1 2 d1, .slice m2 2 d2, .int .i64 (16 * pk x 9), .int .i64 (pk y 12), .int .i64 (1 + pk z 4)] 27)
  have KU := box_new w1 #[.slice m1 2 d1, .slice m2 2 d2, .int .i64 (16 * pk x 9), .int .i64 (pk y 12), .int .i64 (1 + pk z 4)] 27
  have hsu : w1.heap.size < (w1.alloc (.cells #[.slice m1 2 d1, .slice m2 2 d2, .int .i64 (16 * pk x 9), .int .i64 (pk y 12), .int .i64 (1 + pk z 4)] 27)).heap.size := by simp
  have HBT := Hid.mk (hbt1.below hb2)
  have HB2 := Hid.mk (Below.step hb1 hb2)
  have u0 := KU 0
  have u1 := KU 1
  have u2 := KU 2
  have u3 := KU 3
  have u4 := KU 4
  simp only [List.getElem?_toArray, List.getElem?_cons_zero, List.getElem?_cons_succ] at u0 u1 u2 u3 u4
  clear hbt1 hb1 hb2
  generalize w1.alloc (.cells #[.slice m1 2 d1, .slice m2 2 d2, .int .i64 (16 * pk x 9), .int .i64 (pk y 12), .int .i64 (1 + pk z 4)] 27) = w2 at *
  obtain ⟨U, hU⟩ : ∃ U, w1.heap.size = U := ⟨_, rfl⟩
  rw [hU] at KU hsu u0 u1 u2 u3 u4 ⊢
  clear hU
  go_wp2_with fail
  refine (paged_su a n c l m1 m2 d1 d2 x y z 30 w2 hl hnc hcm (HR1.out.below HB2.out) hwf (by omega) HBT.out (HO.out.mono HB2.out (Nat.le_refl _))).mono ?_
  rintro ev w3 hd3
  obtain ⟨⟨h, hc, aw, ca, away, rfl, hh3, hrw3, hpi, hlen, _, _⟩, hb3⟩ := hd3
  have HPI := Hid.mk hpi
  have HL70 := Hid.mk hlen
  have HB3 := Hid.mk (Below.step HB2.out hb3)
  have KU3 := box_step KU hsu hb3
  have hsu3 : U < w3.heap.size := Nat.lt_of_lt_of_le hsu hb3.size
  have HH3 := Hid.mk hh3
  have HRW3 := Hid.mk hrw3
  have HBT3 := Hid.mk (HBT.out.below hb3)
  clear u0 u1 u2 u3 u4 KU hsu hpi hlen hh3 hrw3 hb3 HB2 HBT
  unfold Hc.vals
  go_upto_region 3 with fail
  have hb4 := below_alloc w3 (.cells #[.slice hc.az 2 hc.cz, .slice hc.am 2 hc.cm, .int .i64 (h.cpus : Int), .slice hc.al hc.lc.length hc.cl, .slice hc.av h.live.length hc.cv] 34)
  have K10 := box_new w3 #[.slice hc.az 2 hc.cz, .slice hc.am 2 hc.cm, .int .i64 (h.cpus : Int), .slice hc.al hc.lc.length hc.cl, .slice hc.av h.live.length hc.cv] 34
  have hs10 := box_lt w3 (.cells #[.slice hc.az 2 hc.cz, .slice hc.am 2 hc.cm, .int .i64 (h.cpus : Int), .slice hc.al hc.lc.length hc.cl, .slice hc.av h.live.length hc.cv] 34)
  have KU4 := box_step KU3 hsu3 hb4
  have hsu4 := Nat.lt_of_lt_of_le hsu3 hb4.size
  have HH4 := Hid.mk (HH3.out.below hb4)
  have HRW4 := Hid.mk (HRW3.out.below hb4)
  have HBT4 := Hid.mk (HBT3.out.below hb4)
  have HB4 := Hid.mk (Below.step HB3.out hb4)
  clear hb4 KU3 hsu3 HH3 HRW3 HBT3 HB3
  generalize w3.alloc (.cells #[.slice hc.az 2 hc.cz, .slice hc.am 2 hc.cm, .int .i64 (h.cpus : Int), .slice hc.al hc.lc.length hc.cl, .slice hc.av h.live.length hc.cv] 34) = w4 at *
  obtain ⟨B10, hB10⟩ : ∃ B, w3.heap.size = B := ⟨_, rfl⟩
  rw [hB10] at K10 hs10 ⊢
  clear hB10
  have hl70 := HL70.out
  have HCPU : (h.cpus : Int) = 1 + pk z 4 := by
    have e1 : (suH x y z).cpus = (1 + pk z 4).toNat := rfl
    have p4 := pk_in z (m := 4) (by decide)
    rw [HPI.out.same.cpus, e1]
    omega
  have hnvl : h.live.length ≤ 1000 := Nat.le_trans HPI.out.ok.live_len (by decide)
  have hnll : hc.lc.length ≤ 1000 := by
    have h1 := congrArg List.length HH4.out.ll
    rw [List.length_map] at h1
    rw [h1]
    exact Nat.le_trans HPI.out.ok.ls_len (by decide)
  have u4 := KU4 4
  have v0 := K10 0
  have v1 := K10 1
  have v2 := K10 2
  have v3 := K10 3
  have v4 := K10 4
  simp only [List.getElem?_toArray, List.getElem?_cons_zero, List.getElem?_cons_succ] at v0 v1 v2 v3 v4
  simp only [List.getElem?_toArray, List.getElem?_cons_zero, List.getElem?_cons_succ] at u4
  go_wp2_with fail
  rw [← HCPU]
  refine (alloc_cpu _ _ _ _ _ _ _ _ _ _ _ _ _ h 0 0 w4 HH4.out HPI.out.ok hnll hnvl).mono ?_
  rintro ev w5 ⟨rfl, hb5⟩
  clear u4 v0 v1 v2 v3 v4 HCPU
  go_upto_region 4 with fail
  have hb6 := Below.step hb5 (below_alloc w5 (.cells #[.slice none 0 0, .slice none 0 0, .int .i64 0, .slice none 0 0, .slice none 0 0] 34))
  have K10a := box_step K10 hs10 hb6
  have hs10a := Nat.lt_of_lt_of_le hs10 hb6.size
  have HHa := Hid.mk (HH4.out.below hb6)
  have HRWa := Hid.mk (HRW4.out.below hb6)
  have HBa := Hid.mk (Below.step HB4.out hb6)
  clear hb5 hb6 K10 hs10 HH4 HRW4 HB4 HBT4 KU4 hsu4
  generalize w5.alloc (.cells #[.slice none 0 0, .slice none 0 0, .int .i64 0, .slice none 0 0, .slice none 0 0] 34) = w6 at *
  generalize w5.heap.size = B15 at *
  have v0 := K10a 0
  have v1 := K10a 1
  have v2 := K10a 2
  have v3 := K10a 3
  have v4 := K10a 4
  simp only [List.getElem?_toArray, List.getElem?_cons_zero, List.getElem?_cons_succ] at v0 v1 v2 v3 v4
  go_wp2_with fail
  refine (alloc_order _ _ _ _ _ _ _ _ _ _ _ _ _ h 0 w6 HHa.out HPI.out.ok hnll hnvl).mono ?_
  rintro ev w7 ⟨rfl, hb7⟩
  clear v0 v1 v2 v3 v4
  go_upto_region 5 with fail
  have hb8 := Below.step hb7 (below_alloc w7 (.cells #[.slice none 0 0, .slice none 0 0, .int .i64 0, .slice none 0 0, .slice none 0 0] 34))
  have K10b := box_step K10a hs10a hb8
  have hs10b := Nat.lt_of_lt_of_le hs10a hb8.size
  have HHb := Hid.mk (HHa.out.below hb8)
  have HRWb := Hid.mk (HRWa.out.below hb8)
  have HBb := Hid.mk (Below.step HBa.out hb8)
  clear hb7 hb8 K10a hs10a HHa HRWa HBa
  generalize w7.alloc (.cells #[.slice none 0 0, .slice none 0 0, .int .i64 0, .slice none 0 0, .slice none 0 0] 34) = wu at *
  generalize w7.heap.size = B18 at *
  obtain ⟨ci, hci, hce⟩ := pk_nat v 5 (by decide)
  rw [show ((5 : Nat) : Int) = 5 from rfl] at hce
  have HPK : Hid (∀ W, Calls Tryd.prog 17 #[.int .i64 v, .int .i64 5] W fun ev w' => ev = .returned (.int .i64 (ci : Int)) ∧ W = w') := fun W => by
    have := picked_any v 5 W hbv.1 hbv.2 (by omega) (by omega)
    rw [hce] at this
    exact this
  have hFe := flB_get ci hci (by simpa using hci)
  have hfl := flB_at ci hci
  obtain ⟨F, hF⟩ : ∃ F, flB ci = F := ⟨_, rfl⟩
  rw [hF] at hFe hfl
  have HCALL : Hid (∀ W, Below wu.heap.size wu W → Calls Tryd.prog 18 #[.agg #[.slice hc.az 2 hc.cz, .slice hc.am 2 hc.cm, .int .i64 (h.cpus : Int), .slice hc.al hc.lc.length hc.cl, .slice hc.av h.live.length hc.cv], .int .i64 0, .int .i64 0, .int .i64 F] W fun ev w' => ev = .returned (.tuple #[.agg #[.slice none 0 0, .slice none 0 0, .int .i64 0, .slice none 0 0, .slice none 0 0], .int .i64 0, .int .i64 3]) ∧ Below W.heap.size W w') := fun W hb =>
    alloc_flags _ _ _ _ _ _ _ _ _ _ _ _ _ h F W (HHb.out.below hb) HPI.out.ok hnll hnvl hfl
  have k0 := K10b 0
  have k1 := K10b 1
  have k2 := K10b 2
  have k3 := K10b 3
  have k4 := K10b 4
  simp only [List.getElem?_toArray, List.getElem?_cons_zero, List.getElem?_cons_succ] at k0 k1 k2 k3 k4
  have hB10u := hs10b
  have hci5 : (ci : Int) < 5 := by omega
  have HKb := Hid.mk K10b
  clear K10b hfl hF hce
  have hbA : Below wu.heap.size wu ((wu.alloc (.cells #[.int .i64 16, .int .i64 (-1), .int .i64 6, .int .i64 7, .int .i64 14] 3)).drew) := ((Below.refl wu.heap.size wu).alloc (Nat.le_refl _) _).drew
  have hbB : Below wu.heap.size wu (((wu.alloc (.cells #[.int .i64 16, .int .i64 (-1), .int .i64 6, .int .i64 7, .int .i64 14] 3)).alloc (.cells #[.slice none 0 0, .slice none 0 0, .int .i64 0, .slice none 0 0, .slice none 0 0] 34)).drew) := (Below.step ((Below.refl wu.heap.size wu).alloc (Nat.le_refl _) _) (below_alloc _ _)).drew
  have hbC : Below wu.heap.size wu (((wu.alloc (.cells #[.slice none 0 0, .slice none 0 0, .int .i64 0, .slice none 0 0, .slice none 0 0] 34)).alloc (.cells #[.int .i64 16, .int .i64 (-1), .int .i64 6, .int .i64 7, .int .i64 14] 3)).drew) := (Below.step ((Below.refl wu.heap.size wu).alloc (Nat.le_refl _) _) (below_alloc _ _)).drew
  have HKB : Hid (∀ o, (((wu.alloc (.cells #[.int .i64 16, .int .i64 (-1), .int .i64 6, .int .i64 7, .int .i64 14] 3)).alloc (.cells #[.slice none 0 0, .slice none 0 0, .int .i64 0, .slice none 0 0, .slice none 0 0] 34)).drew).cell? ⟨wu.heap.size + 1, o, none⟩ = (#[.slice none 0 0, .slice none 0 0, .int .i64 0, .slice none 0 0, .slice none 0 0] : Array Value)[o]?) := fun o => by
    have h9 := box_new (wu.alloc (.cells #[.int .i64 16, .int .i64 (-1), .int .i64 6, .int .i64 7, .int .i64 14] 3)) #[.slice none 0 0, .slice none 0 0, .int .i64 0, .slice none 0 0, .slice none 0 0] 34 o
    simp only [World.size_alloc] at h9
    exact h9
  have HFB : Hid (∀ o, (((wu.alloc (.cells #[.int .i64 16, .int .i64 (-1), .int .i64 6, .int .i64 7, .int .i64 14] 3)).alloc (.cells #[.slice none 0 0, .slice none 0 0, .int .i64 0, .slice none 0 0, .slice none 0 0] 34)).drew).frozen? ⟨wu.heap.size + 1, o, none⟩ = false) := fun o => by
    have h9 := box_frz (wu.alloc (.cells #[.int .i64 16, .int .i64 (-1), .int .i64 6, .int .i64 7, .int .i64 14] 3)) #[.slice none 0 0, .slice none 0 0, .int .i64 0, .slice none 0 0, .slice none 0 0] 34 o
    simp only [World.size_alloc] at h9
    exact h9
  have HSB : Hid (wu.heap.size + 1 < (((wu.alloc (.cells #[.int .i64 16, .int .i64 (-1), .int .i64 6, .int .i64 7, .int .i64 14] 3)).alloc (.cells #[.slice none 0 0, .slice none 0 0, .int .i64 0, .slice none 0 0, .slice none 0 0] 34)).drew).heap.size) := by show wu.heap.size + 1 < ((wu.alloc (.cells #[.int .i64 16, .int .i64 (-1), .int .i64 6, .int .i64 7, .int .i64 14] 3)).alloc _).heap.size; simp
  have HKC : Hid (∀ o, (((wu.alloc (.cells #[.slice none 0 0, .slice none 0 0, .int .i64 0, .slice none 0 0, .slice none 0 0] 34)).alloc (.cells #[.int .i64 16, .int .i64 (-1), .int .i64 6, .int .i64 7, .int .i64 14] 3)).drew).cell? ⟨wu.heap.size, o, none⟩ = (#[.slice none 0 0, .slice none 0 0, .int .i64 0, .slice none 0 0, .slice none 0 0] : Array Value)[o]?) := fun o => box_step (box_new wu #[.slice none 0 0, .slice none 0 0, .int .i64 0, .slice none 0 0, .slice none 0 0] 34) (by simp) (below_alloc _ _) o
  have HFC : Hid (∀ o, (((wu.alloc (.cells #[.slice none 0 0, .slice none 0 0, .int .i64 0, .slice none 0 0, .slice none 0 0] 34)).alloc (.cells #[.int .i64 16, .int .i64 (-1), .int .i64 6, .int .i64 7, .int .i64 14] 3)).drew).frozen? ⟨wu.heap.size, o, none⟩ = false) := fun o => frz_step (box_frz wu #[.slice none 0 0, .slice none 0 0, .int .i64 0, .slice none 0 0, .slice none 0 0] 34) (by simp) (below_alloc _ _) o
  have HSC : Hid (wu.heap.size < (((wu.alloc (.cells #[.slice none 0 0, .slice none 0 0, .int .i64 0, .slice none 0 0, .slice none 0 0] 34)).alloc (.cells #[.int .i64 16, .int .i64 (-1), .int .i64 6, .int .i64 7, .int .i64 14] 3)).drew).heap.size) := by show wu.heap.size < ((wu.alloc (.cells #[.slice none 0 0, .slice none 0 0, .int .i64 0, .slice none 0 0, .slice none 0 0] 34)).alloc _).heap.size; simp; omega
  have hBne : B10 ≠ wu.heap.size := by omega
  have hBne2 : B10 ≠ wu.heap.size + 1 := by omega
  go_cut [21, 22, 23] (fun _ _ s23 wx => s23 = .int .i64 3 ∧ Hid (Below wu.heap.size wu wx))
  case first =>
    go_wp2_with fail
    refine wp_region_held_drew (S := (fun w' => w'.cell? ⟨B10, 0, none⟩ = some (.slice hc.az 2 hc.cz) ∧ w'.cell? ⟨B10, 1, none⟩ = some (.slice hc.am 2 hc.cm) ∧ w'.cell? ⟨B10, 2, none⟩ = some (.int .i64 (h.cpus : Int)) ∧ w'.cell? ⟨B10, 3, none⟩ = some (.slice hc.al hc.lc.length hc.cl) ∧ w'.cell? ⟨B10, 4, none⟩ = some (.slice hc.av h.live.length hc.cv))) (by kernel_rfl) ?_ (fun hH0 => ?_)
    · (try dsimp only); (first | with_reducible exact ⟨k0, k1, k2, k3, k4⟩ | go_keep)
    refine wpAnyH_take (i := 0) (oi := _) (v := ?_) rfl (by kernel_rfl) (by kernel_rfl) (by kernel_rfl) (fun _ _ _ h => h) (Or.inl ⟨by rfl, ?_⟩) (by assumption) ?_
    rotate_left
    · intro w8 hSw
      (try dsimp only at hSw)
      (try simp only [List.getElem_toArray, List.getElem_cons_succ, List.getElem_cons_zero])
      go_simp <;> with_reducible rfl
    (try simp only [List.getElem_toArray, List.getElem_cons_succ, List.getElem_cons_zero])
    (try simp only [Act.put, List.setIfInBounds_toArray, List.set_cons_zero, List.set_cons_succ])
    refine wpAnyH_take (i := 2) (oi := _) (v := ?_) rfl (by kernel_rfl) (by kernel_rfl) (by kernel_rfl) (fun _ _ _ h => h) (Or.inl ⟨by rfl, ?_⟩) (by assumption) ?_
    rotate_left
    · intro w8 hSw
      (try dsimp only at hSw)
      (try simp only [List.getElem_toArray, List.getElem_cons_succ, List.getElem_cons_zero])
      go_simp <;> with_reducible rfl
    (try simp only [List.getElem_toArray, List.getElem_cons_succ, List.getElem_cons_zero])
    (try simp only [Act.put, List.setIfInBounds_toArray, List.set_cons_zero, List.set_cons_succ])
    refine wpAnyH_ready (rs := [1, 3, 11]) (by kernel_rfl) (by simp) ?_
    refine AllReadyH.cons (o := _) rfl (fun K hK => ?_) ?_
    · (try simp only [List.getElem_toArray, List.getElem_cons_succ, List.getElem_cons_zero])
      go_simp
      refine hK.out _ _ ?_ (fun hH1 => ?_)
      · (try dsimp only); (first | with_reducible exact ⟨k0, k1, k2, k3, k4⟩ | go_keep)
      clear hK K hH0
      refine wpAnyH_ready (rs := [3, 11]) (by kernel_rfl) (by simp) ?_
      refine AllReadyH.cons (o := _) rfl (fun K hK => ?_) ?_
      · (try simp only [List.getElem_toArray, List.getElem_cons_succ, List.getElem_cons_zero])
        go_simp
        (go_at_call 17; refine (HPK.out _).mono ?_; rintro ev _ ⟨rfl, rfl⟩)
        (try go_wp2_with fail)
        refine hK.out _ _ ?_ (fun hH2 => ?_)
        · (try dsimp only); (first | with_reducible exact ⟨k0, k1, k2, k3, k4⟩ | go_keep)
        clear hK K hH1
        refine wpAnyH_take (i := 4) (oi := _) (v := ?_) rfl (by kernel_rfl) (by kernel_rfl) (by kernel_rfl) (fun _ _ _ h => h) (Or.inl ⟨by rfl, ?_⟩) (by assumption) ?_
        rotate_left
        · intro w8 hSw
          (try dsimp only at hSw)
          (try simp only [List.getElem_toArray, List.getElem_cons_succ, List.getElem_cons_zero])
          go_simp <;> with_reducible rfl
        (try simp only [List.getElem_toArray, List.getElem_cons_succ, List.getElem_cons_zero])
        (try simp only [Act.put, List.setIfInBounds_toArray, List.set_cons_zero, List.set_cons_succ])
        refine wpAnyH_ready (rs := [5, 11]) (by kernel_rfl) (by simp) ?_
        refine AllReadyH.cons (o := _) rfl (fun K hK => ?_) ?_
        · (try simp only [List.getElem_toArray, List.getElem_cons_succ, List.getElem_cons_zero])
          go_simp
          refine hK.out _ _ ?_ (fun hH3 => ?_)
          · (try dsimp only); (first | with_reducible exact ⟨k0, k1, k2, k3, k4⟩ | go_keep)
          clear hK K hH2
          refine wpAnyH_ready (rs := [6, 11]) (by kernel_rfl) (by simp) ?_
          refine AllReadyH.cons (o := _) rfl (fun K hK => ?_) ?_
          · (try simp only [List.getElem_toArray, List.getElem_cons_succ, List.getElem_cons_zero])
            go_simp
            (go_at_call 18; (with_reducible refine (HCALL.out _ hbA).mono ?_); rintro ev w9 ⟨rfl, hb9⟩; have HB9 := Below.step hbA hb9; have p0 := (HB9.cell (p := ⟨B10, 0, none⟩) hB10u).trans k0; have p1 := (HB9.cell (p := ⟨B10, 1, none⟩) hB10u).trans k1; have p2 := (HB9.cell (p := ⟨B10, 2, none⟩) hB10u).trans k2; have p3 := (HB9.cell (p := ⟨B10, 3, none⟩) hB10u).trans k3; have p4 := (HB9.cell (p := ⟨B10, 4, none⟩) hB10u).trans k4; have hB9 := Nat.lt_of_lt_of_le hB10u HB9.size; have HBX := Hid.mk (Below.step HB9 (below_alloc w9 (.cells #[.slice none 0 0, .slice none 0 0, .int .i64 0, .slice none 0 0, .slice none 0 0] 34))))
            (try go_wp2_with fail)
            refine hK.out _ _ ?_ (fun hH4 => ?_)
            · (try dsimp only); (first | with_reducible exact ⟨p0, p1, p2, p3, p4⟩ | go_keep)
            clear hK K hH3
            refine wpAnyH_take (i := 7) (oi := _) (v := ?_) rfl (by kernel_rfl) (by kernel_rfl) (by kernel_rfl) (fun _ _ _ h => h) (Or.inl ⟨by rfl, ?_⟩) (by assumption) ?_
            rotate_left
            · intro w8 hSw
              (try dsimp only at hSw)
              (try simp only [List.getElem_toArray, List.getElem_cons_succ, List.getElem_cons_zero])
              go_simp <;> with_reducible rfl
            (try simp only [List.getElem_toArray, List.getElem_cons_succ, List.getElem_cons_zero])
            (try simp only [Act.put, List.setIfInBounds_toArray, List.set_cons_zero, List.set_cons_succ])
            refine wpAnyH_take (i := 8) (oi := _) (v := ?_) rfl (by kernel_rfl) (by kernel_rfl) (by kernel_rfl) (fun _ _ _ h => h) (Or.inl ⟨by rfl, ?_⟩) (by assumption) ?_
            rotate_left
            · intro w8 hSw
              (try dsimp only at hSw)
              (try simp only [List.getElem_toArray, List.getElem_cons_succ, List.getElem_cons_zero])
              go_simp <;> with_reducible rfl
            (try simp only [List.getElem_toArray, List.getElem_cons_succ, List.getElem_cons_zero])
            (try simp only [Act.put, List.setIfInBounds_toArray, List.set_cons_zero, List.set_cons_succ])
            refine wpAnyH_take (i := 9) (oi := _) (v := ?_) rfl (by kernel_rfl) (by kernel_rfl) (by kernel_rfl) (fun _ _ _ h => h) (Or.inl ⟨by rfl, ?_⟩) (by assumption) ?_
            rotate_left
            · intro w8 hSw
              (try dsimp only at hSw)
              (try simp only [List.getElem_toArray, List.getElem_cons_succ, List.getElem_cons_zero])
              go_simp <;> with_reducible rfl
            (try simp only [List.getElem_toArray, List.getElem_cons_succ, List.getElem_cons_zero])
            (try simp only [Act.put, List.setIfInBounds_toArray, List.set_cons_zero, List.set_cons_succ])
            refine wpAnyH_take (i := 10) (oi := _) (v := ?_) rfl (by kernel_rfl) (by kernel_rfl) (by kernel_rfl) (fun _ _ _ h => h) (Or.inl ⟨by rfl, ?_⟩) (by assumption) ?_
            rotate_left
            · intro w8 hSw
              (try dsimp only at hSw)
              (try simp only [List.getElem_toArray, List.getElem_cons_succ, List.getElem_cons_zero])
              go_simp <;> with_reducible rfl
            (try simp only [List.getElem_toArray, List.getElem_cons_succ, List.getElem_cons_zero])
            (try simp only [Act.put, List.setIfInBounds_toArray, List.set_cons_zero, List.set_cons_succ])
            refine wpAnyH_ready (rs := [11]) (by kernel_rfl) (by simp) ?_
            refine AllReadyH.cons (o := _) rfl (fun K hK => ?_) ?_
            · (try simp only [List.getElem_toArray, List.getElem_cons_succ, List.getElem_cons_zero])
              go_simp
              refine hK.out _ _ ?_ (fun hH5 => ?_)
              · (try dsimp only); (first | with_reducible exact ⟨p0, p1, p2, p3, p4⟩ | go_keep)
              clear hK K hH4
              refine wpAnyH_ready (rs := [12]) (by kernel_rfl) (by simp) ?_
              refine AllReadyH.cons (o := _) rfl (fun K hK => ?_) ?_
              · (try simp only [List.getElem_toArray, List.getElem_cons_succ, List.getElem_cons_zero])
                go_simp
                refine hK.out _ _ ?_ (fun hH6 => ?_)
                · (try dsimp only); (first | with_reducible exact ⟨p0, p1, p2, p3, p4⟩ | go_keep)
                clear hK K hH5
                refine wpAnyH_take (i := 13) (oi := _) (v := ?_) rfl (by kernel_rfl) (by kernel_rfl) (by kernel_rfl) (fun _ _ _ h => h) (Or.inl ⟨by rfl, ?_⟩) (by assumption) ?_
                rotate_left
                · intro w8 hSw
                  (try dsimp only at hSw)
                  (try simp only [List.getElem_toArray, List.getElem_cons_succ, List.getElem_cons_zero])
                  go_simp <;> with_reducible rfl
                (try simp only [List.getElem_toArray, List.getElem_cons_succ, List.getElem_cons_zero])
                (try simp only [Act.put, List.setIfInBounds_toArray, List.set_cons_zero, List.set_cons_succ])
                refine wpAnyH_take (i := 14) (oi := _) (v := ?_) rfl (by kernel_rfl) (by kernel_rfl) (by kernel_rfl) (fun _ _ _ h => h) (Or.inl ⟨by rfl, ?_⟩) (by assumption) ?_
                rotate_left
                · intro w8 hSw
                  (try dsimp only at hSw)
                  (try simp only [List.getElem_toArray, List.getElem_cons_succ, List.getElem_cons_zero])
                  go_simp <;> with_reducible rfl
                (try simp only [List.getElem_toArray, List.getElem_cons_succ, List.getElem_cons_zero])
                (try simp only [Act.put, List.setIfInBounds_toArray, List.set_cons_zero, List.set_cons_succ])
                refine wpAnyH_done (by kernel_rfl) ?_ _
                go_wp2_with fail
                go_meet
                case rel => with_reducible exact ⟨rfl, HBX⟩
              exact AllReadyH.nil
            exact AllReadyH.nil
          refine AllReadyH.cons (o := _) rfl (fun K hK => ?_) ?_
          · (try simp only [List.getElem_toArray, List.getElem_cons_succ, List.getElem_cons_zero])
            go_simp
            refine hK.out _ _ ?_ (fun hH4 => ?_)
            · (try dsimp only); (first | with_reducible exact ⟨k0, k1, k2, k3, k4⟩ | go_keep)
            clear hK K hH3
            refine wpAnyH_ready (rs := [6]) (by kernel_rfl) (by simp) ?_
            refine AllReadyH.cons (o := _) rfl (fun K hK => ?_) ?_
            · (try simp only [List.getElem_toArray, List.getElem_cons_succ, List.getElem_cons_zero])
              go_simp
              (go_at_call 18; (with_reducible refine (HCALL.out _ hbB).mono ?_); rintro ev w9 ⟨rfl, hb9⟩; have HB9 := Below.step hbB hb9; have p0 := (HB9.cell (p := ⟨B10, 0, none⟩) hB10u).trans k0; have p1 := (HB9.cell (p := ⟨B10, 1, none⟩) hB10u).trans k1; have p2 := (HB9.cell (p := ⟨B10, 2, none⟩) hB10u).trans k2; have p3 := (HB9.cell (p := ⟨B10, 3, none⟩) hB10u).trans k3; have p4 := (HB9.cell (p := ⟨B10, 4, none⟩) hB10u).trans k4; have hB9 := Nat.lt_of_lt_of_le hB10u HB9.size; obtain ⟨⟨e0, e1, e2, e3, e4⟩, f0, f1, f2, f3, f4⟩ := at5 HKB.out HFB.out HSB.out hb9; have hs9 : wu.heap.size + 1 < w9.heap.size := Nat.lt_of_lt_of_le HSB.out hb9.size; have HBX := Hid.mk (below_set5 (g := wu.heap.size + 1) HB9 (Nat.le_succ _) (.slice none 0 0) (.slice none 0 0) (.int .i64 0) (.slice none 0 0) (.slice none 0 0)))
              (try go_wp2_with fail)
              refine hK.out _ _ ?_ (fun hH5 => ?_)
              · (try dsimp only); (first | with_reducible exact ⟨p0, p1, p2, p3, p4⟩ | go_keep)
              clear hK K hH4
              refine wpAnyH_take (i := 7) (oi := _) (v := ?_) rfl (by kernel_rfl) (by kernel_rfl) (by kernel_rfl) (fun _ _ _ h => h) (Or.inl ⟨by rfl, ?_⟩) (by assumption) ?_
              rotate_left
              · intro w8 hSw
                (try dsimp only at hSw)
                (try simp only [List.getElem_toArray, List.getElem_cons_succ, List.getElem_cons_zero])
                go_simp <;> with_reducible rfl
              (try simp only [List.getElem_toArray, List.getElem_cons_succ, List.getElem_cons_zero])
              (try simp only [Act.put, List.setIfInBounds_toArray, List.set_cons_zero, List.set_cons_succ])
              refine wpAnyH_take (i := 8) (oi := _) (v := ?_) rfl (by kernel_rfl) (by kernel_rfl) (by kernel_rfl) (fun _ _ _ h => h) (Or.inl ⟨by rfl, ?_⟩) (by assumption) ?_
              rotate_left
              · intro w8 hSw
                (try dsimp only at hSw)
                (try simp only [List.getElem_toArray, List.getElem_cons_succ, List.getElem_cons_zero])
                go_simp <;> with_reducible rfl
              (try simp only [List.getElem_toArray, List.getElem_cons_succ, List.getElem_cons_zero])
              (try simp only [Act.put, List.setIfInBounds_toArray, List.set_cons_zero, List.set_cons_succ])
              refine wpAnyH_take (i := 9) (oi := _) (v := ?_) rfl (by kernel_rfl) (by kernel_rfl) (by kernel_rfl) (fun _ _ _ h => h) (Or.inl ⟨by rfl, ?_⟩) (by assumption) ?_
              rotate_left
              · intro w8 hSw
                (try dsimp only at hSw)
                (try simp only [List.getElem_toArray, List.getElem_cons_succ, List.getElem_cons_zero])
                go_simp <;> with_reducible rfl
              (try simp only [List.getElem_toArray, List.getElem_cons_succ, List.getElem_cons_zero])
              (try simp only [Act.put, List.setIfInBounds_toArray, List.set_cons_zero, List.set_cons_succ])
              refine wpAnyH_take (i := 10) (oi := _) (v := ?_) rfl (by kernel_rfl) (by kernel_rfl) (by kernel_rfl) (fun _ _ _ h => h) (Or.inl ⟨by rfl, ?_⟩) (by assumption) ?_
              rotate_left
              · intro w8 hSw
                (try dsimp only at hSw)
                (try simp only [List.getElem_toArray, List.getElem_cons_succ, List.getElem_cons_zero])
                go_simp <;> with_reducible rfl
              (try simp only [List.getElem_toArray, List.getElem_cons_succ, List.getElem_cons_zero])
              (try simp only [Act.put, List.setIfInBounds_toArray, List.set_cons_zero, List.set_cons_succ])
              refine wpAnyH_ready (rs := [12]) (by kernel_rfl) (by simp) ?_
              refine AllReadyH.cons (o := _) rfl (fun K hK => ?_) ?_
              · (try simp only [List.getElem_toArray, List.getElem_cons_succ, List.getElem_cons_zero])
                go_simp
                refine hK.out _ _ ?_ (fun hH6 => ?_)
                · (try dsimp only); (first | with_reducible exact ⟨set5_other p0 hBne2, set5_other p1 hBne2, set5_other p2 hBne2, set5_other p3 hBne2, set5_other p4 hBne2⟩ | go_keep)
                clear hK K hH5
                refine wpAnyH_take (i := 13) (oi := _) (v := ?_) rfl (by kernel_rfl) (by kernel_rfl) (by kernel_rfl) (fun _ _ _ h => h) (Or.inl ⟨by rfl, ?_⟩) (by assumption) ?_
                rotate_left
                · intro w8 hSw
                  (try dsimp only at hSw)
                  (try simp only [List.getElem_toArray, List.getElem_cons_succ, List.getElem_cons_zero])
                  go_simp <;> with_reducible rfl
                (try simp only [List.getElem_toArray, List.getElem_cons_succ, List.getElem_cons_zero])
                (try simp only [Act.put, List.setIfInBounds_toArray, List.set_cons_zero, List.set_cons_succ])
                refine wpAnyH_take (i := 14) (oi := _) (v := ?_) rfl (by kernel_rfl) (by kernel_rfl) (by kernel_rfl) (fun _ _ _ h => h) (Or.inl ⟨by rfl, ?_⟩) (by assumption) ?_
                rotate_left
                · intro w8 hSw
                  (try dsimp only at hSw)
                  (try simp only [List.getElem_toArray, List.getElem_cons_succ, List.getElem_cons_zero])
                  go_simp <;> with_reducible rfl
                (try simp only [List.getElem_toArray, List.getElem_cons_succ, List.getElem_cons_zero])
                (try simp only [Act.put, List.setIfInBounds_toArray, List.set_cons_zero, List.set_cons_succ])
                refine wpAnyH_done (by kernel_rfl) ?_ _
                go_wp2_with fail
                go_meet
                case rel => with_reducible exact ⟨rfl, HBX⟩
              exact AllReadyH.nil
            exact AllReadyH.nil
          exact AllReadyH.nil
        refine AllReadyH.cons (o := _) rfl (fun K hK => ?_) ?_
        · (try simp only [List.getElem_toArray, List.getElem_cons_succ, List.getElem_cons_zero])
          go_simp
          refine hK.out _ _ ?_ (fun hH3 => ?_)
          · (try dsimp only); (first | with_reducible exact ⟨k0, k1, k2, k3, k4⟩ | go_keep)
          clear hK K hH2
          refine wpAnyH_ready (rs := [5]) (by kernel_rfl) (by simp) ?_
          refine AllReadyH.cons (o := _) rfl (fun K hK => ?_) ?_
          · (try simp only [List.getElem_toArray, List.getElem_cons_succ, List.getElem_cons_zero])
            go_simp
            refine hK.out _ _ ?_ (fun hH4 => ?_)
            · (try dsimp only); (first | with_reducible exact ⟨k0, k1, k2, k3, k4⟩ | go_keep)
            clear hK K hH3
            refine wpAnyH_ready (rs := [6]) (by kernel_rfl) (by simp) ?_
            refine AllReadyH.cons (o := _) rfl (fun K hK => ?_) ?_
            · (try simp only [List.getElem_toArray, List.getElem_cons_succ, List.getElem_cons_zero])
              go_simp
              (go_at_call 18; (with_reducible refine (HCALL.out _ hbB).mono ?_); rintro ev w9 ⟨rfl, hb9⟩; have HB9 := Below.step hbB hb9; have p0 := (HB9.cell (p := ⟨B10, 0, none⟩) hB10u).trans k0; have p1 := (HB9.cell (p := ⟨B10, 1, none⟩) hB10u).trans k1; have p2 := (HB9.cell (p := ⟨B10, 2, none⟩) hB10u).trans k2; have p3 := (HB9.cell (p := ⟨B10, 3, none⟩) hB10u).trans k3; have p4 := (HB9.cell (p := ⟨B10, 4, none⟩) hB10u).trans k4; have hB9 := Nat.lt_of_lt_of_le hB10u HB9.size; obtain ⟨⟨e0, e1, e2, e3, e4⟩, f0, f1, f2, f3, f4⟩ := at5 HKB.out HFB.out HSB.out hb9; have hs9 : wu.heap.size + 1 < w9.heap.size := Nat.lt_of_lt_of_le HSB.out hb9.size; have HBX := Hid.mk (below_set5 (g := wu.heap.size + 1) HB9 (Nat.le_succ _) (.slice none 0 0) (.slice none 0 0) (.int .i64 0) (.slice none 0 0) (.slice none 0 0)))
              (try go_wp2_with fail)
              refine hK.out _ _ ?_ (fun hH5 => ?_)
              · (try dsimp only); (first | with_reducible exact ⟨p0, p1, p2, p3, p4⟩ | go_keep)
              clear hK K hH4
              refine wpAnyH_take (i := 7) (oi := _) (v := ?_) rfl (by kernel_rfl) (by kernel_rfl) (by kernel_rfl) (fun _ _ _ h => h) (Or.inl ⟨by rfl, ?_⟩) (by assumption) ?_
              rotate_left
              · intro w8 hSw
                (try dsimp only at hSw)
                (try simp only [List.getElem_toArray, List.getElem_cons_succ, List.getElem_cons_zero])
                go_simp <;> with_reducible rfl
              (try simp only [List.getElem_toArray, List.getElem_cons_succ, List.getElem_cons_zero])
              (try simp only [Act.put, List.setIfInBounds_toArray, List.set_cons_zero, List.set_cons_succ])
              refine wpAnyH_take (i := 8) (oi := _) (v := ?_) rfl (by kernel_rfl) (by kernel_rfl) (by kernel_rfl) (fun _ _ _ h => h) (Or.inl ⟨by rfl, ?_⟩) (by assumption) ?_
              rotate_left
              · intro w8 hSw
                (try dsimp only at hSw)
                (try simp only [List.getElem_toArray, List.getElem_cons_succ, List.getElem_cons_zero])
                go_simp <;> with_reducible rfl
              (try simp only [List.getElem_toArray, List.getElem_cons_succ, List.getElem_cons_zero])
              (try simp only [Act.put, List.setIfInBounds_toArray, List.set_cons_zero, List.set_cons_succ])
              refine wpAnyH_take (i := 9) (oi := _) (v := ?_) rfl (by kernel_rfl) (by kernel_rfl) (by kernel_rfl) (fun _ _ _ h => h) (Or.inl ⟨by rfl, ?_⟩) (by assumption) ?_
              rotate_left
              · intro w8 hSw
                (try dsimp only at hSw)
                (try simp only [List.getElem_toArray, List.getElem_cons_succ, List.getElem_cons_zero])
                go_simp <;> with_reducible rfl
              (try simp only [List.getElem_toArray, List.getElem_cons_succ, List.getElem_cons_zero])
              (try simp only [Act.put, List.setIfInBounds_toArray, List.set_cons_zero, List.set_cons_succ])
              refine wpAnyH_take (i := 10) (oi := _) (v := ?_) rfl (by kernel_rfl) (by kernel_rfl) (by kernel_rfl) (fun _ _ _ h => h) (Or.inl ⟨by rfl, ?_⟩) (by assumption) ?_
              rotate_left
              · intro w8 hSw
                (try dsimp only at hSw)
                (try simp only [List.getElem_toArray, List.getElem_cons_succ, List.getElem_cons_zero])
                go_simp <;> with_reducible rfl
              (try simp only [List.getElem_toArray, List.getElem_cons_succ, List.getElem_cons_zero])
              (try simp only [Act.put, List.setIfInBounds_toArray, List.set_cons_zero, List.set_cons_succ])
              refine wpAnyH_ready (rs := [12]) (by kernel_rfl) (by simp) ?_
              refine AllReadyH.cons (o := _) rfl (fun K hK => ?_) ?_
              · (try simp only [List.getElem_toArray, List.getElem_cons_succ, List.getElem_cons_zero])
                go_simp
                refine hK.out _ _ ?_ (fun hH6 => ?_)
                · (try dsimp only); (first | with_reducible exact ⟨set5_other p0 hBne2, set5_other p1 hBne2, set5_other p2 hBne2, set5_other p3 hBne2, set5_other p4 hBne2⟩ | go_keep)
                clear hK K hH5
                refine wpAnyH_take (i := 13) (oi := _) (v := ?_) rfl (by kernel_rfl) (by kernel_rfl) (by kernel_rfl) (fun _ _ _ h => h) (Or.inl ⟨by rfl, ?_⟩) (by assumption) ?_
                rotate_left
                · intro w8 hSw
                  (try dsimp only at hSw)
                  (try simp only [List.getElem_toArray, List.getElem_cons_succ, List.getElem_cons_zero])
                  go_simp <;> with_reducible rfl
                (try simp only [List.getElem_toArray, List.getElem_cons_succ, List.getElem_cons_zero])
                (try simp only [Act.put, List.setIfInBounds_toArray, List.set_cons_zero, List.set_cons_succ])
                refine wpAnyH_take (i := 14) (oi := _) (v := ?_) rfl (by kernel_rfl) (by kernel_rfl) (by kernel_rfl) (fun _ _ _ h => h) (Or.inl ⟨by rfl, ?_⟩) (by assumption) ?_
                rotate_left
                · intro w8 hSw
                  (try dsimp only at hSw)
                  (try simp only [List.getElem_toArray, List.getElem_cons_succ, List.getElem_cons_zero])
                  go_simp <;> with_reducible rfl
                (try simp only [List.getElem_toArray, List.getElem_cons_succ, List.getElem_cons_zero])
                (try simp only [Act.put, List.setIfInBounds_toArray, List.set_cons_zero, List.set_cons_succ])
                refine wpAnyH_done (by kernel_rfl) ?_ _
                go_wp2_with fail
                go_meet
                case rel => with_reducible exact ⟨rfl, HBX⟩
              exact AllReadyH.nil
            exact AllReadyH.nil
          exact AllReadyH.nil
        exact AllReadyH.nil
      refine AllReadyH.cons (o := _) rfl (fun K hK => ?_) ?_
      · (try simp only [List.getElem_toArray, List.getElem_cons_succ, List.getElem_cons_zero])
        go_simp
        refine hK.out _ _ ?_ (fun hH2 => ?_)
        · (try dsimp only); (first | with_reducible exact ⟨k0, k1, k2, k3, k4⟩ | go_keep)
        clear hK K hH1
        refine wpAnyH_ready (rs := [3]) (by kernel_rfl) (by simp) ?_
        refine AllReadyH.cons (o := _) rfl (fun K hK => ?_) ?_
        · (try simp only [List.getElem_toArray, List.getElem_cons_succ, List.getElem_cons_zero])
          go_simp
          (go_at_call 17; refine (HPK.out _).mono ?_; rintro ev _ ⟨rfl, rfl⟩)
          (try go_wp2_with fail)
          refine hK.out _ _ ?_ (fun hH3 => ?_)
          · (try dsimp only); (first | with_reducible exact ⟨k0, k1, k2, k3, k4⟩ | go_keep)
          clear hK K hH2
          refine wpAnyH_take (i := 4) (oi := _) (v := ?_) rfl (by kernel_rfl) (by kernel_rfl) (by kernel_rfl) (fun _ _ _ h => h) (Or.inl ⟨by rfl, ?_⟩) (by assumption) ?_
          rotate_left
          · intro w8 hSw
            (try dsimp only at hSw)
            (try simp only [List.getElem_toArray, List.getElem_cons_succ, List.getElem_cons_zero])
            go_simp <;> with_reducible rfl
          (try simp only [List.getElem_toArray, List.getElem_cons_succ, List.getElem_cons_zero])
          (try simp only [Act.put, List.setIfInBounds_toArray, List.set_cons_zero, List.set_cons_succ])
          refine wpAnyH_ready (rs := [5]) (by kernel_rfl) (by simp) ?_
          refine AllReadyH.cons (o := _) rfl (fun K hK => ?_) ?_
          · (try simp only [List.getElem_toArray, List.getElem_cons_succ, List.getElem_cons_zero])
            go_simp
            refine hK.out _ _ ?_ (fun hH4 => ?_)
            · (try dsimp only); (first | with_reducible exact ⟨k0, k1, k2, k3, k4⟩ | go_keep)
            clear hK K hH3
            refine wpAnyH_ready (rs := [6]) (by kernel_rfl) (by simp) ?_
            refine AllReadyH.cons (o := _) rfl (fun K hK => ?_) ?_
            · (try simp only [List.getElem_toArray, List.getElem_cons_succ, List.getElem_cons_zero])
              go_simp
              (go_at_call 18; (with_reducible refine (HCALL.out _ hbB).mono ?_); rintro ev w9 ⟨rfl, hb9⟩; have HB9 := Below.step hbB hb9; have p0 := (HB9.cell (p := ⟨B10, 0, none⟩) hB10u).trans k0; have p1 := (HB9.cell (p := ⟨B10, 1, none⟩) hB10u).trans k1; have p2 := (HB9.cell (p := ⟨B10, 2, none⟩) hB10u).trans k2; have p3 := (HB9.cell (p := ⟨B10, 3, none⟩) hB10u).trans k3; have p4 := (HB9.cell (p := ⟨B10, 4, none⟩) hB10u).trans k4; have hB9 := Nat.lt_of_lt_of_le hB10u HB9.size; obtain ⟨⟨e0, e1, e2, e3, e4⟩, f0, f1, f2, f3, f4⟩ := at5 HKB.out HFB.out HSB.out hb9; have hs9 : wu.heap.size + 1 < w9.heap.size := Nat.lt_of_lt_of_le HSB.out hb9.size; have HBX := Hid.mk (below_set5 (g := wu.heap.size + 1) HB9 (Nat.le_succ _) (.slice none 0 0) (.slice none 0 0) (.int .i64 0) (.slice none 0 0) (.slice none 0 0)))
              (try go_wp2_with fail)
              refine hK.out _ _ ?_ (fun hH5 => ?_)
              · (try dsimp only); (first | with_reducible exact ⟨p0, p1, p2, p3, p4⟩ | go_keep)
              clear hK K hH4
              refine wpAnyH_take (i := 7) (oi := _) (v := ?_) rfl (by kernel_rfl) (by kernel_rfl) (by kernel_rfl) (fun _ _ _ h => h) (Or.inl ⟨by rfl, ?_⟩) (by assumption) ?_
              rotate_left
              · intro w8 hSw
                (try dsimp only at hSw)
                (try simp only [List.getElem_toArray, List.getElem_cons_succ, List.getElem_cons_zero])
                go_simp <;> with_reducible rfl
              (try simp only [List.getElem_toArray, List.getElem_cons_succ, List.getElem_cons_zero])
              (try simp only [Act.put, List.setIfInBounds_toArray, List.set_cons_zero, List.set_cons_succ])
              refine wpAnyH_take (i := 8) (oi := _) (v := ?_) rfl (by kernel_rfl) (by kernel_rfl) (by kernel_rfl) (fun _ _ _ h => h) (Or.inl ⟨by rfl, ?_⟩) (by assumption) ?_
              rotate_left
              · intro w8 hSw
                (try dsimp only at hSw)
                (try simp only [List.getElem_toArray, List.getElem_cons_succ, List.getElem_cons_zero])
                go_simp <;> with_reducible rfl
              (try simp only [List.getElem_toArray, List.getElem_cons_succ, List.getElem_cons_zero])
              (try simp only [Act.put, List.setIfInBounds_toArray, List.set_cons_zero, List.set_cons_succ])
              refine wpAnyH_take (i := 9) (oi := _) (v := ?_) rfl (by kernel_rfl) (by kernel_rfl) (by kernel_rfl) (fun _ _ _ h => h) (Or.inl ⟨by rfl, ?_⟩) (by assumption) ?_
              rotate_left
              · intro w8 hSw
                (try dsimp only at hSw)
                (try simp only [List.getElem_toArray, List.getElem_cons_succ, List.getElem_cons_zero])
                go_simp <;> with_reducible rfl
              (try simp only [List.getElem_toArray, List.getElem_cons_succ, List.getElem_cons_zero])
              (try simp only [Act.put, List.setIfInBounds_toArray, List.set_cons_zero, List.set_cons_succ])
              refine wpAnyH_take (i := 10) (oi := _) (v := ?_) rfl (by kernel_rfl) (by kernel_rfl) (by kernel_rfl) (fun _ _ _ h => h) (Or.inl ⟨by rfl, ?_⟩) (by assumption) ?_
              rotate_left
              · intro w8 hSw
                (try dsimp only at hSw)
                (try simp only [List.getElem_toArray, List.getElem_cons_succ, List.getElem_cons_zero])
                go_simp <;> with_reducible rfl
              (try simp only [List.getElem_toArray, List.getElem_cons_succ, List.getElem_cons_zero])
              (try simp only [Act.put, List.setIfInBounds_toArray, List.set_cons_zero, List.set_cons_succ])
              refine wpAnyH_ready (rs := [12]) (by kernel_rfl) (by simp) ?_
              refine AllReadyH.cons (o := _) rfl (fun K hK => ?_) ?_
              · (try simp only [List.getElem_toArray, List.getElem_cons_succ, List.getElem_cons_zero])
                go_simp
                refine hK.out _ _ ?_ (fun hH6 => ?_)
                · (try dsimp only); (first | with_reducible exact ⟨set5_other p0 hBne2, set5_other p1 hBne2, set5_other p2 hBne2, set5_other p3 hBne2, set5_other p4 hBne2⟩ | go_keep)
                clear hK K hH5
                refine wpAnyH_take (i := 13) (oi := _) (v := ?_) rfl (by kernel_rfl) (by kernel_rfl) (by kernel_rfl) (fun _ _ _ h => h) (Or.inl ⟨by rfl, ?_⟩) (by assumption) ?_
                rotate_left
                · intro w8 hSw
                  (try dsimp only at hSw)
                  (try simp only [List.getElem_toArray, List.getElem_cons_succ, List.getElem_cons_zero])
                  go_simp <;> with_reducible rfl
                (try simp only [List.getElem_toArray, List.getElem_cons_succ, List.getElem_cons_zero])
                (try simp only [Act.put, List.setIfInBounds_toArray, List.set_cons_zero, List.set_cons_succ])
                refine wpAnyH_take (i := 14) (oi := _) (v := ?_) rfl (by kernel_rfl) (by kernel_rfl) (by kernel_rfl) (fun _ _ _ h => h) (Or.inl ⟨by rfl, ?_⟩) (by assumption) ?_
                rotate_left
                · intro w8 hSw
                  (try dsimp only at hSw)
                  (try simp only [List.getElem_toArray, List.getElem_cons_succ, List.getElem_cons_zero])
                  go_simp <;> with_reducible rfl
                (try simp only [List.getElem_toArray, List.getElem_cons_succ, List.getElem_cons_zero])
                (try simp only [Act.put, List.setIfInBounds_toArray, List.set_cons_zero, List.set_cons_succ])
                refine wpAnyH_done (by kernel_rfl) ?_ _
                go_wp2_with fail
                go_meet
                case rel => with_reducible exact ⟨rfl, HBX⟩
              exact AllReadyH.nil
            exact AllReadyH.nil
          exact AllReadyH.nil
        exact AllReadyH.nil
      exact AllReadyH.nil
    refine AllReadyH.cons (o := _) rfl (fun K hK => ?_) ?_
    · (try simp only [List.getElem_toArray, List.getElem_cons_succ, List.getElem_cons_zero])
      go_simp
      (go_at_call 17; refine (HPK.out _).mono ?_; rintro ev _ ⟨rfl, rfl⟩)
      (try go_wp2_with fail)
      refine hK.out _ _ ?_ (fun hH1 => ?_)
      · (try dsimp only); (first | with_reducible exact ⟨k0, k1, k2, k3, k4⟩ | go_keep)
      clear hK K hH0
      refine wpAnyH_ready (rs := [1, 11]) (by kernel_rfl) (by simp) ?_
      refine AllReadyH.cons (o := _) rfl (fun K hK => ?_) ?_
      · (try simp only [List.getElem_toArray, List.getElem_cons_succ, List.getElem_cons_zero])
        go_simp
        refine hK.out _ _ ?_ (fun hH2 => ?_)
        · (try dsimp only); (first | with_reducible exact ⟨k0, k1, k2, k3, k4⟩ | go_keep)
        clear hK K hH1
        refine wpAnyH_take (i := 4) (oi := _) (v := ?_) rfl (by kernel_rfl) (by kernel_rfl) (by kernel_rfl) (fun _ _ _ h => h) (Or.inl ⟨by rfl, ?_⟩) (by assumption) ?_
        rotate_left
        · intro w8 hSw
          (try dsimp only at hSw)
          (try simp only [List.getElem_toArray, List.getElem_cons_succ, List.getElem_cons_zero])
          go_simp <;> with_reducible rfl
        (try simp only [List.getElem_toArray, List.getElem_cons_succ, List.getElem_cons_zero])
        (try simp only [Act.put, List.setIfInBounds_toArray, List.set_cons_zero, List.set_cons_succ])
        refine wpAnyH_ready (rs := [5, 11]) (by kernel_rfl) (by simp) ?_
        refine AllReadyH.cons (o := _) rfl (fun K hK => ?_) ?_
        · (try simp only [List.getElem_toArray, List.getElem_cons_succ, List.getElem_cons_zero])
          go_simp
          refine hK.out _ _ ?_ (fun hH3 => ?_)
          · (try dsimp only); (first | with_reducible exact ⟨k0, k1, k2, k3, k4⟩ | go_keep)
          clear hK K hH2
          refine wpAnyH_ready (rs := [6, 11]) (by kernel_rfl) (by simp) ?_
          refine AllReadyH.cons (o := _) rfl (fun K hK => ?_) ?_
          · (try simp only [List.getElem_toArray, List.getElem_cons_succ, List.getElem_cons_zero])
            go_simp
            (go_at_call 18; (with_reducible refine (HCALL.out _ hbA).mono ?_); rintro ev w9 ⟨rfl, hb9⟩; have HB9 := Below.step hbA hb9; have p0 := (HB9.cell (p := ⟨B10, 0, none⟩) hB10u).trans k0; have p1 := (HB9.cell (p := ⟨B10, 1, none⟩) hB10u).trans k1; have p2 := (HB9.cell (p := ⟨B10, 2, none⟩) hB10u).trans k2; have p3 := (HB9.cell (p := ⟨B10, 3, none⟩) hB10u).trans k3; have p4 := (HB9.cell (p := ⟨B10, 4, none⟩) hB10u).trans k4; have hB9 := Nat.lt_of_lt_of_le hB10u HB9.size; have HBX := Hid.mk (Below.step HB9 (below_alloc w9 (.cells #[.slice none 0 0, .slice none 0 0, .int .i64 0, .slice none 0 0, .slice none 0 0] 34))))
            (try go_wp2_with fail)
            refine hK.out _ _ ?_ (fun hH4 => ?_)
            · (try dsimp only); (first | with_reducible exact ⟨p0, p1, p2, p3, p4⟩ | go_keep)
            clear hK K hH3
            refine wpAnyH_take (i := 7) (oi := _) (v := ?_) rfl (by kernel_rfl) (by kernel_rfl) (by kernel_rfl) (fun _ _ _ h => h) (Or.inl ⟨by rfl, ?_⟩) (by assumption) ?_
            rotate_left
            · intro w8 hSw
              (try dsimp only at hSw)
              (try simp only [List.getElem_toArray, List.getElem_cons_succ, List.getElem_cons_zero])
              go_simp <;> with_reducible rfl
            (try simp only [List.getElem_toArray, List.getElem_cons_succ, List.getElem_cons_zero])
            (try simp only [Act.put, List.setIfInBounds_toArray, List.set_cons_zero, List.set_cons_succ])
            refine wpAnyH_take (i := 8) (oi := _) (v := ?_) rfl (by kernel_rfl) (by kernel_rfl) (by kernel_rfl) (fun _ _ _ h => h) (Or.inl ⟨by rfl, ?_⟩) (by assumption) ?_
            rotate_left
            · intro w8 hSw
              (try dsimp only at hSw)
              (try simp only [List.getElem_toArray, List.getElem_cons_succ, List.getElem_cons_zero])
              go_simp <;> with_reducible rfl
            (try simp only [List.getElem_toArray, List.getElem_cons_succ, List.getElem_cons_zero])
            (try simp only [Act.put, List.setIfInBounds_toArray, List.set_cons_zero, List.set_cons_succ])
            refine wpAnyH_take (i := 9) (oi := _) (v := ?_) rfl (by kernel_rfl) (by kernel_rfl) (by kernel_rfl) (fun _ _ _ h => h) (Or.inl ⟨by rfl, ?_⟩) (by assumption) ?_
            rotate_left
            · intro w8 hSw
              (try dsimp only at hSw)
              (try simp only [List.getElem_toArray, List.getElem_cons_succ, List.getElem_cons_zero])
              go_simp <;> with_reducible rfl
            (try simp only [List.getElem_toArray, List.getElem_cons_succ, List.getElem_cons_zero])
            (try simp only [Act.put, List.setIfInBounds_toArray, List.set_cons_zero, List.set_cons_succ])
            refine wpAnyH_take (i := 10) (oi := _) (v := ?_) rfl (by kernel_rfl) (by kernel_rfl) (by kernel_rfl) (fun _ _ _ h => h) (Or.inl ⟨by rfl, ?_⟩) (by assumption) ?_
            rotate_left
            · intro w8 hSw
              (try dsimp only at hSw)
              (try simp only [List.getElem_toArray, List.getElem_cons_succ, List.getElem_cons_zero])
              go_simp <;> with_reducible rfl
            (try simp only [List.getElem_toArray, List.getElem_cons_succ, List.getElem_cons_zero])
            (try simp only [Act.put, List.setIfInBounds_toArray, List.set_cons_zero, List.set_cons_succ])
            refine wpAnyH_ready (rs := [11]) (by kernel_rfl) (by simp) ?_
            refine AllReadyH.cons (o := _) rfl (fun K hK => ?_) ?_
            · (try simp only [List.getElem_toArray, List.getElem_cons_succ, List.getElem_cons_zero])
              go_simp
              refine hK.out _ _ ?_ (fun hH5 => ?_)
              · (try dsimp only); (first | with_reducible exact ⟨p0, p1, p2, p3, p4⟩ | go_keep)
              clear hK K hH4
              refine wpAnyH_ready (rs := [12]) (by kernel_rfl) (by simp) ?_
              refine AllReadyH.cons (o := _) rfl (fun K hK => ?_) ?_
              · (try simp only [List.getElem_toArray, List.getElem_cons_succ, List.getElem_cons_zero])
                go_simp
                refine hK.out _ _ ?_ (fun hH6 => ?_)
                · (try dsimp only); (first | with_reducible exact ⟨p0, p1, p2, p3, p4⟩ | go_keep)
                clear hK K hH5
                refine wpAnyH_take (i := 13) (oi := _) (v := ?_) rfl (by kernel_rfl) (by kernel_rfl) (by kernel_rfl) (fun _ _ _ h => h) (Or.inl ⟨by rfl, ?_⟩) (by assumption) ?_
                rotate_left
                · intro w8 hSw
                  (try dsimp only at hSw)
                  (try simp only [List.getElem_toArray, List.getElem_cons_succ, List.getElem_cons_zero])
                  go_simp <;> with_reducible rfl
                (try simp only [List.getElem_toArray, List.getElem_cons_succ, List.getElem_cons_zero])
                (try simp only [Act.put, List.setIfInBounds_toArray, List.set_cons_zero, List.set_cons_succ])
                refine wpAnyH_take (i := 14) (oi := _) (v := ?_) rfl (by kernel_rfl) (by kernel_rfl) (by kernel_rfl) (fun _ _ _ h => h) (Or.inl ⟨by rfl, ?_⟩) (by assumption) ?_
                rotate_left
                · intro w8 hSw
                  (try dsimp only at hSw)
                  (try simp only [List.getElem_toArray, List.getElem_cons_succ, List.getElem_cons_zero])
                  go_simp <;> with_reducible rfl
                (try simp only [List.getElem_toArray, List.getElem_cons_succ, List.getElem_cons_zero])
                (try simp only [Act.put, List.setIfInBounds_toArray, List.set_cons_zero, List.set_cons_succ])
                refine wpAnyH_done (by kernel_rfl) ?_ _
                go_wp2_with fail
                go_meet
                case rel => with_reducible exact ⟨rfl, HBX⟩
              exact AllReadyH.nil
            exact AllReadyH.nil
          refine AllReadyH.cons (o := _) rfl (fun K hK => ?_) ?_
          · (try simp only [List.getElem_toArray, List.getElem_cons_succ, List.getElem_cons_zero])
            go_simp
            refine hK.out _ _ ?_ (fun hH4 => ?_)
            · (try dsimp only); (first | with_reducible exact ⟨k0, k1, k2, k3, k4⟩ | go_keep)
            clear hK K hH3
            refine wpAnyH_ready (rs := [6]) (by kernel_rfl) (by simp) ?_
            refine AllReadyH.cons (o := _) rfl (fun K hK => ?_) ?_
            · (try simp only [List.getElem_toArray, List.getElem_cons_succ, List.getElem_cons_zero])
              go_simp
              (go_at_call 18; (with_reducible refine (HCALL.out _ hbB).mono ?_); rintro ev w9 ⟨rfl, hb9⟩; have HB9 := Below.step hbB hb9; have p0 := (HB9.cell (p := ⟨B10, 0, none⟩) hB10u).trans k0; have p1 := (HB9.cell (p := ⟨B10, 1, none⟩) hB10u).trans k1; have p2 := (HB9.cell (p := ⟨B10, 2, none⟩) hB10u).trans k2; have p3 := (HB9.cell (p := ⟨B10, 3, none⟩) hB10u).trans k3; have p4 := (HB9.cell (p := ⟨B10, 4, none⟩) hB10u).trans k4; have hB9 := Nat.lt_of_lt_of_le hB10u HB9.size; obtain ⟨⟨e0, e1, e2, e3, e4⟩, f0, f1, f2, f3, f4⟩ := at5 HKB.out HFB.out HSB.out hb9; have hs9 : wu.heap.size + 1 < w9.heap.size := Nat.lt_of_lt_of_le HSB.out hb9.size; have HBX := Hid.mk (below_set5 (g := wu.heap.size + 1) HB9 (Nat.le_succ _) (.slice none 0 0) (.slice none 0 0) (.int .i64 0) (.slice none 0 0) (.slice none 0 0)))
              (try go_wp2_with fail)
              refine hK.out _ _ ?_ (fun hH5 => ?_)
              · (try dsimp only); (first | with_reducible exact ⟨p0, p1, p2, p3, p4⟩ | go_keep)
              clear hK K hH4
              refine wpAnyH_take (i := 7) (oi := _) (v := ?_) rfl (by kernel_rfl) (by kernel_rfl) (by kernel_rfl) (fun _ _ _ h => h) (Or.inl ⟨by rfl, ?_⟩) (by assumption) ?_
              rotate_left
              · intro w8 hSw
                (try dsimp only at hSw)
                (try simp only [List.getElem_toArray, List.getElem_cons_succ, List.getElem_cons_zero])
                go_simp <;> with_reducible rfl
              (try simp only [List.getElem_toArray, List.getElem_cons_succ, List.getElem_cons_zero])
              (try simp only [Act.put, List.setIfInBounds_toArray, List.set_cons_zero, List.set_cons_succ])
              refine wpAnyH_take (i := 8) (oi := _) (v := ?_) rfl (by kernel_rfl) (by kernel_rfl) (by kernel_rfl) (fun _ _ _ h => h) (Or.inl ⟨by rfl, ?_⟩) (by assumption) ?_
              rotate_left
              · intro w8 hSw
                (try dsimp only at hSw)
                (try simp only [List.getElem_toArray, List.getElem_cons_succ, List.getElem_cons_zero])
                go_simp <;> with_reducible rfl
              (try simp only [List.getElem_toArray, List.getElem_cons_succ, List.getElem_cons_zero])
              (try simp only [Act.put, List.setIfInBounds_toArray, List.set_cons_zero, List.set_cons_succ])
              refine wpAnyH_take (i := 9) (oi := _) (v := ?_) rfl (by kernel_rfl) (by kernel_rfl) (by kernel_rfl) (fun _ _ _ h => h) (Or.inl ⟨by rfl, ?_⟩) (by assumption) ?_
              rotate_left
              · intro w8 hSw
                (try dsimp only at hSw)
                (try simp only [List.getElem_toArray, List.getElem_cons_succ, List.getElem_cons_zero])
                go_simp <;> with_reducible rfl
              (try simp only [List.getElem_toArray, List.getElem_cons_succ, List.getElem_cons_zero])
              (try simp only [Act.put, List.setIfInBounds_toArray, List.set_cons_zero, List.set_cons_succ])
              refine wpAnyH_take (i := 10) (oi := _) (v := ?_) rfl (by kernel_rfl) (by kernel_rfl) (by kernel_rfl) (fun _ _ _ h => h) (Or.inl ⟨by rfl, ?_⟩) (by assumption) ?_
              rotate_left
              · intro w8 hSw
                (try dsimp only at hSw)
                (try simp only [List.getElem_toArray, List.getElem_cons_succ, List.getElem_cons_zero])
                go_simp <;> with_reducible rfl
              (try simp only [List.getElem_toArray, List.getElem_cons_succ, List.getElem_cons_zero])
              (try simp only [Act.put, List.setIfInBounds_toArray, List.set_cons_zero, List.set_cons_succ])
              refine wpAnyH_ready (rs := [12]) (by kernel_rfl) (by simp) ?_
              refine AllReadyH.cons (o := _) rfl (fun K hK => ?_) ?_
              · (try simp only [List.getElem_toArray, List.getElem_cons_succ, List.getElem_cons_zero])
                go_simp
                refine hK.out _ _ ?_ (fun hH6 => ?_)
                · (try dsimp only); (first | with_reducible exact ⟨set5_other p0 hBne2, set5_other p1 hBne2, set5_other p2 hBne2, set5_other p3 hBne2, set5_other p4 hBne2⟩ | go_keep)
                clear hK K hH5
                refine wpAnyH_take (i := 13) (oi := _) (v := ?_) rfl (by kernel_rfl) (by kernel_rfl) (by kernel_rfl) (fun _ _ _ h => h) (Or.inl ⟨by rfl, ?_⟩) (by assumption) ?_
                rotate_left
                · intro w8 hSw
                  (try dsimp only at hSw)
                  (try simp only [List.getElem_toArray, List.getElem_cons_succ, List.getElem_cons_zero])
                  go_simp <;> with_reducible rfl
                (try simp only [List.getElem_toArray, List.getElem_cons_succ, List.getElem_cons_zero])
                (try simp only [Act.put, List.setIfInBounds_toArray, List.set_cons_zero, List.set_cons_succ])
                refine wpAnyH_take (i := 14) (oi := _) (v := ?_) rfl (by kernel_rfl) (by kernel_rfl) (by kernel_rfl) (fun _ _ _ h => h) (Or.inl ⟨by rfl, ?_⟩) (by assumption) ?_
                rotate_left
                · intro w8 hSw
                  (try dsimp only at hSw)
                  (try simp only [List.getElem_toArray, List.getElem_cons_succ, List.getElem_cons_zero])
                  go_simp <;> with_reducible rfl
                (try simp only [List.getElem_toArray, List.getElem_cons_succ, List.getElem_cons_zero])
                (try simp only [Act.put, List.setIfInBounds_toArray, List.set_cons_zero, List.set_cons_succ])
                refine wpAnyH_done (by kernel_rfl) ?_ _
                go_wp2_with fail
                go_meet
                case rel => with_reducible exact ⟨rfl, HBX⟩
              exact AllReadyH.nil
            exact AllReadyH.nil
          exact AllReadyH.nil
        refine AllReadyH.cons (o := _) rfl (fun K hK => ?_) ?_
        · (try simp only [List.getElem_toArray, List.getElem_cons_succ, List.getElem_cons_zero])
          go_simp
          refine hK.out _ _ ?_ (fun hH3 => ?_)
          · (try dsimp only); (first | with_reducible exact ⟨k0, k1, k2, k3, k4⟩ | go_keep)
          clear hK K hH2
          refine wpAnyH_ready (rs := [5]) (by kernel_rfl) (by simp) ?_
          refine AllReadyH.cons (o := _) rfl (fun K hK => ?_) ?_
          · (try simp only [List.getElem_toArray, List.getElem_cons_succ, List.getElem_cons_zero])
            go_simp
            refine hK.out _ _ ?_ (fun hH4 => ?_)
            · (try dsimp only); (first | with_reducible exact ⟨k0, k1, k2, k3, k4⟩ | go_keep)
            clear hK K hH3
            refine wpAnyH_ready (rs := [6]) (by kernel_rfl) (by simp) ?_
            refine AllReadyH.cons (o := _) rfl (fun K hK => ?_) ?_
            · (try simp only [List.getElem_toArray, List.getElem_cons_succ, List.getElem_cons_zero])
              go_simp
              (go_at_call 18; (with_reducible refine (HCALL.out _ hbB).mono ?_); rintro ev w9 ⟨rfl, hb9⟩; have HB9 := Below.step hbB hb9; have p0 := (HB9.cell (p := ⟨B10, 0, none⟩) hB10u).trans k0; have p1 := (HB9.cell (p := ⟨B10, 1, none⟩) hB10u).trans k1; have p2 := (HB9.cell (p := ⟨B10, 2, none⟩) hB10u).trans k2; have p3 := (HB9.cell (p := ⟨B10, 3, none⟩) hB10u).trans k3; have p4 := (HB9.cell (p := ⟨B10, 4, none⟩) hB10u).trans k4; have hB9 := Nat.lt_of_lt_of_le hB10u HB9.size; obtain ⟨⟨e0, e1, e2, e3, e4⟩, f0, f1, f2, f3, f4⟩ := at5 HKB.out HFB.out HSB.out hb9; have hs9 : wu.heap.size + 1 < w9.heap.size := Nat.lt_of_lt_of_le HSB.out hb9.size; have HBX := Hid.mk (below_set5 (g := wu.heap.size + 1) HB9 (Nat.le_succ _) (.slice none 0 0) (.slice none 0 0) (.int .i64 0) (.slice none 0 0) (.slice none 0 0)))
              (try go_wp2_with fail)
              refine hK.out _ _ ?_ (fun hH5 => ?_)
              · (try dsimp only); (first | with_reducible exact ⟨p0, p1, p2, p3, p4⟩ | go_keep)
              clear hK K hH4
              refine wpAnyH_take (i := 7) (oi := _) (v := ?_) rfl (by kernel_rfl) (by kernel_rfl) (by kernel_rfl) (fun _ _ _ h => h) (Or.inl ⟨by rfl, ?_⟩) (by assumption) ?_
              rotate_left
              · intro w8 hSw
                (try dsimp only at hSw)
                (try simp only [List.getElem_toArray, List.getElem_cons_succ, List.getElem_cons_zero])
                go_simp <;> with_reducible rfl
              (try simp only [List.getElem_toArray, List.getElem_cons_succ, List.getElem_cons_zero])
              (try simp only [Act.put, List.setIfInBounds_toArray, List.set_cons_zero, List.set_cons_succ])
              refine wpAnyH_take (i := 8) (oi := _) (v := ?_) rfl (by kernel_rfl) (by kernel_rfl) (by kernel_rfl) (fun _ _ _ h => h) (Or.inl ⟨by rfl, ?_⟩) (by assumption) ?_
              rotate_left
              · intro w8 hSw
                (try dsimp only at hSw)
                (try simp only [List.getElem_toArray, List.getElem_cons_succ, List.getElem_cons_zero])
                go_simp <;> with_reducible rfl
              (try simp only [List.getElem_toArray, List.getElem_cons_succ, List.getElem_cons_zero])
              (try simp only [Act.put, List.setIfInBounds_toArray, List.set_cons_zero, List.set_cons_succ])
              refine wpAnyH_take (i := 9) (oi := _) (v := ?_) rfl (by kernel_rfl) (by kernel_rfl) (by kernel_rfl) (fun _ _ _ h => h) (Or.inl ⟨by rfl, ?_⟩) (by assumption) ?_
              rotate_left
              · intro w8 hSw
                (try dsimp only at hSw)
                (try simp only [List.getElem_toArray, List.getElem_cons_succ, List.getElem_cons_zero])
                go_simp <;> with_reducible rfl
              (try simp only [List.getElem_toArray, List.getElem_cons_succ, List.getElem_cons_zero])
              (try simp only [Act.put, List.setIfInBounds_toArray, List.set_cons_zero, List.set_cons_succ])
              refine wpAnyH_take (i := 10) (oi := _) (v := ?_) rfl (by kernel_rfl) (by kernel_rfl) (by kernel_rfl) (fun _ _ _ h => h) (Or.inl ⟨by rfl, ?_⟩) (by assumption) ?_
              rotate_left
              · intro w8 hSw
                (try dsimp only at hSw)
                (try simp only [List.getElem_toArray, List.getElem_cons_succ, List.getElem_cons_zero])
                go_simp <;> with_reducible rfl
              (try simp only [List.getElem_toArray, List.getElem_cons_succ, List.getElem_cons_zero])
              (try simp only [Act.put, List.setIfInBounds_toArray, List.set_cons_zero, List.set_cons_succ])
              refine wpAnyH_ready (rs := [12]) (by kernel_rfl) (by simp) ?_
              refine AllReadyH.cons (o := _) rfl (fun K hK => ?_) ?_
              · (try simp only [List.getElem_toArray, List.getElem_cons_succ, List.getElem_cons_zero])
                go_simp
                refine hK.out _ _ ?_ (fun hH6 => ?_)
                · (try dsimp only); (first | with_reducible exact ⟨set5_other p0 hBne2, set5_other p1 hBne2, set5_other p2 hBne2, set5_other p3 hBne2, set5_other p4 hBne2⟩ | go_keep)
                clear hK K hH5
                refine wpAnyH_take (i := 13) (oi := _) (v := ?_) rfl (by kernel_rfl) (by kernel_rfl) (by kernel_rfl) (fun _ _ _ h => h) (Or.inl ⟨by rfl, ?_⟩) (by assumption) ?_
                rotate_left
                · intro w8 hSw
                  (try dsimp only at hSw)
                  (try simp only [List.getElem_toArray, List.getElem_cons_succ, List.getElem_cons_zero])
                  go_simp <;> with_reducible rfl
                (try simp only [List.getElem_toArray, List.getElem_cons_succ, List.getElem_cons_zero])
                (try simp only [Act.put, List.setIfInBounds_toArray, List.set_cons_zero, List.set_cons_succ])
                refine wpAnyH_take (i := 14) (oi := _) (v := ?_) rfl (by kernel_rfl) (by kernel_rfl) (by kernel_rfl) (fun _ _ _ h => h) (Or.inl ⟨by rfl, ?_⟩) (by assumption) ?_
                rotate_left
                · intro w8 hSw
                  (try dsimp only at hSw)
                  (try simp only [List.getElem_toArray, List.getElem_cons_succ, List.getElem_cons_zero])
                  go_simp <;> with_reducible rfl
                (try simp only [List.getElem_toArray, List.getElem_cons_succ, List.getElem_cons_zero])
                (try simp only [Act.put, List.setIfInBounds_toArray, List.set_cons_zero, List.set_cons_succ])
                refine wpAnyH_done (by kernel_rfl) ?_ _
                go_wp2_with fail
                go_meet
                case rel => with_reducible exact ⟨rfl, HBX⟩
              exact AllReadyH.nil
            exact AllReadyH.nil
          exact AllReadyH.nil
        exact AllReadyH.nil
      refine AllReadyH.cons (o := _) rfl (fun K hK => ?_) ?_
      · (try simp only [List.getElem_toArray, List.getElem_cons_succ, List.getElem_cons_zero])
        go_simp
        refine hK.out _ _ ?_ (fun hH2 => ?_)
        · (try dsimp only); (first | with_reducible exact ⟨k0, k1, k2, k3, k4⟩ | go_keep)
        clear hK K hH1
        refine wpAnyH_ready (rs := [1]) (by kernel_rfl) (by simp) ?_
        refine AllReadyH.cons (o := _) rfl (fun K hK => ?_) ?_
        · (try simp only [List.getElem_toArray, List.getElem_cons_succ, List.getElem_cons_zero])
          go_simp
          refine hK.out _ _ ?_ (fun hH3 => ?_)
          · (try dsimp only); (first | with_reducible exact ⟨k0, k1, k2, k3, k4⟩ | go_keep)
          clear hK K hH2
          refine wpAnyH_take (i := 4) (oi := _) (v := ?_) rfl (by kernel_rfl) (by kernel_rfl) (by kernel_rfl) (fun _ _ _ h => h) (Or.inl ⟨by rfl, ?_⟩) (by assumption) ?_
          rotate_left
          · intro w8 hSw
            (try dsimp only at hSw)
            (try simp only [List.getElem_toArray, List.getElem_cons_succ, List.getElem_cons_zero])
            go_simp <;> with_reducible rfl
          (try simp only [List.getElem_toArray, List.getElem_cons_succ, List.getElem_cons_zero])
          (try simp only [Act.put, List.setIfInBounds_toArray, List.set_cons_zero, List.set_cons_succ])
          refine wpAnyH_ready (rs := [5]) (by kernel_rfl) (by simp) ?_
          refine AllReadyH.cons (o := _) rfl (fun K hK => ?_) ?_
          · (try simp only [List.getElem_toArray, List.getElem_cons_succ, List.getElem_cons_zero])
            go_simp
            refine hK.out _ _ ?_ (fun hH4 => ?_)
            · (try dsimp only); (first | with_reducible exact ⟨k0, k1, k2, k3, k4⟩ | go_keep)
            clear hK K hH3
            refine wpAnyH_ready (rs := [6]) (by kernel_rfl) (by simp) ?_
            refine AllReadyH.cons (o := _) rfl (fun K hK => ?_) ?_
            · (try simp only [List.getElem_toArray, List.getElem_cons_succ, List.getElem_cons_zero])
              go_simp
              (go_at_call 18; (with_reducible refine (HCALL.out _ hbC).mono ?_); rintro ev w9 ⟨rfl, hb9⟩; have HB9 := Below.step hbC hb9; have p0 := (HB9.cell (p := ⟨B10, 0, none⟩) hB10u).trans k0; have p1 := (HB9.cell (p := ⟨B10, 1, none⟩) hB10u).trans k1; have p2 := (HB9.cell (p := ⟨B10, 2, none⟩) hB10u).trans k2; have p3 := (HB9.cell (p := ⟨B10, 3, none⟩) hB10u).trans k3; have p4 := (HB9.cell (p := ⟨B10, 4, none⟩) hB10u).trans k4; have hB9 := Nat.lt_of_lt_of_le hB10u HB9.size; obtain ⟨⟨e0, e1, e2, e3, e4⟩, f0, f1, f2, f3, f4⟩ := at5 HKC.out HFC.out HSC.out hb9; have hs9 : wu.heap.size < w9.heap.size := Nat.lt_of_lt_of_le HSC.out hb9.size; have HBX := Hid.mk (below_set5 (g := wu.heap.size) HB9 (Nat.le_refl _) (.slice none 0 0) (.slice none 0 0) (.int .i64 0) (.slice none 0 0) (.slice none 0 0)))
              (try go_wp2_with fail)
              refine hK.out _ _ ?_ (fun hH5 => ?_)
              · (try dsimp only); (first | with_reducible exact ⟨p0, p1, p2, p3, p4⟩ | go_keep)
              clear hK K hH4
              refine wpAnyH_take (i := 7) (oi := _) (v := ?_) rfl (by kernel_rfl) (by kernel_rfl) (by kernel_rfl) (fun _ _ _ h => h) (Or.inl ⟨by rfl, ?_⟩) (by assumption) ?_
              rotate_left
              · intro w8 hSw
                (try dsimp only at hSw)
                (try simp only [List.getElem_toArray, List.getElem_cons_succ, List.getElem_cons_zero])
                go_simp <;> with_reducible rfl
              (try simp only [List.getElem_toArray, List.getElem_cons_succ, List.getElem_cons_zero])
              (try simp only [Act.put, List.setIfInBounds_toArray, List.set_cons_zero, List.set_cons_succ])
              refine wpAnyH_take (i := 8) (oi := _) (v := ?_) rfl (by kernel_rfl) (by kernel_rfl) (by kernel_rfl) (fun _ _ _ h => h) (Or.inl ⟨by rfl, ?_⟩) (by assumption) ?_
              rotate_left
              · intro w8 hSw
                (try dsimp only at hSw)
                (try simp only [List.getElem_toArray, List.getElem_cons_succ, List.getElem_cons_zero])
                go_simp <;> with_reducible rfl
              (try simp only [List.getElem_toArray, List.getElem_cons_succ, List.getElem_cons_zero])
              (try simp only [Act.put, List.setIfInBounds_toArray, List.set_cons_zero, List.set_cons_succ])
              refine wpAnyH_take (i := 9) (oi := _) (v := ?_) rfl (by kernel_rfl) (by kernel_rfl) (by kernel_rfl) (fun _ _ _ h => h) (Or.inl ⟨by rfl, ?_⟩) (by assumption) ?_
              rotate_left
              · intro w8 hSw
                (try dsimp only at hSw)
                (try simp only [List.getElem_toArray, List.getElem_cons_succ, List.getElem_cons_zero])
                go_simp <;> with_reducible rfl
              (try simp only [List.getElem_toArray, List.getElem_cons_succ, List.getElem_cons_zero])
              (try simp only [Act.put, List.setIfInBounds_toArray, List.set_cons_zero, List.set_cons_succ])
              refine wpAnyH_take (i := 10) (oi := _) (v := ?_) rfl (by kernel_rfl) (by kernel_rfl) (by kernel_rfl) (fun _ _ _ h => h) (Or.inl ⟨by rfl, ?_⟩) (by assumption) ?_
              rotate_left
              · intro w8 hSw
                (try dsimp only at hSw)
                (try simp only [List.getElem_toArray, List.getElem_cons_succ, List.getElem_cons_zero])
                go_simp <;> with_reducible rfl
              (try simp only [List.getElem_toArray, List.getElem_cons_succ, List.getElem_cons_zero])
              (try simp only [Act.put, List.setIfInBounds_toArray, List.set_cons_zero, List.set_cons_succ])
              refine wpAnyH_ready (rs := [12]) (by kernel_rfl) (by simp) ?_
              refine AllReadyH.cons (o := _) rfl (fun K hK => ?_) ?_
              · (try simp only [List.getElem_toArray, List.getElem_cons_succ, List.getElem_cons_zero])
                go_simp
                refine hK.out _ _ ?_ (fun hH6 => ?_)
                · (try dsimp only); (first | with_reducible exact ⟨set5_other p0 hBne, set5_other p1 hBne, set5_other p2 hBne, set5_other p3 hBne, set5_other p4 hBne⟩ | go_keep)
                clear hK K hH5
                refine wpAnyH_take (i := 13) (oi := _) (v := ?_) rfl (by kernel_rfl) (by kernel_rfl) (by kernel_rfl) (fun _ _ _ h => h) (Or.inl ⟨by rfl, ?_⟩) (by assumption) ?_
                rotate_left
                · intro w8 hSw
                  (try dsimp only at hSw)
                  (try simp only [List.getElem_toArray, List.getElem_cons_succ, List.getElem_cons_zero])
                  go_simp <;> with_reducible rfl
                (try simp only [List.getElem_toArray, List.getElem_cons_succ, List.getElem_cons_zero])
                (try simp only [Act.put, List.setIfInBounds_toArray, List.set_cons_zero, List.set_cons_succ])
                refine wpAnyH_take (i := 14) (oi := _) (v := ?_) rfl (by kernel_rfl) (by kernel_rfl) (by kernel_rfl) (fun _ _ _ h => h) (Or.inl ⟨by rfl, ?_⟩) (by assumption) ?_
                rotate_left
                · intro w8 hSw
                  (try dsimp only at hSw)
                  (try simp only [List.getElem_toArray, List.getElem_cons_succ, List.getElem_cons_zero])
                  go_simp <;> with_reducible rfl
                (try simp only [List.getElem_toArray, List.getElem_cons_succ, List.getElem_cons_zero])
                (try simp only [Act.put, List.setIfInBounds_toArray, List.set_cons_zero, List.set_cons_succ])
                refine wpAnyH_done (by kernel_rfl) ?_ _
                go_wp2_with fail
                go_meet
                case rel => with_reducible exact ⟨rfl, HBX⟩
              exact AllReadyH.nil
            exact AllReadyH.nil
          exact AllReadyH.nil
        exact AllReadyH.nil
      exact AllReadyH.nil
    refine AllReadyH.cons (o := _) rfl (fun K hK => ?_) ?_
    · (try simp only [List.getElem_toArray, List.getElem_cons_succ, List.getElem_cons_zero])
      go_simp
      refine hK.out _ _ ?_ (fun hH1 => ?_)
      · (try dsimp only); (first | with_reducible exact ⟨k0, k1, k2, k3, k4⟩ | go_keep)
      clear hK K hH0
      refine wpAnyH_ready (rs := [1, 3]) (by kernel_rfl) (by simp) ?_
      refine AllReadyH.cons (o := _) rfl (fun K hK => ?_) ?_
      · (try simp only [List.getElem_toArray, List.getElem_cons_succ, List.getElem_cons_zero])
        go_simp
        refine hK.out _ _ ?_ (fun hH2 => ?_)
        · (try dsimp only); (first | with_reducible exact ⟨k0, k1, k2, k3, k4⟩ | go_keep)
        clear hK K hH1
        refine wpAnyH_ready (rs := [3]) (by kernel_rfl) (by simp) ?_
        refine AllReadyH.cons (o := _) rfl (fun K hK => ?_) ?_
        · (try simp only [List.getElem_toArray, List.getElem_cons_succ, List.getElem_cons_zero])
          go_simp
          (go_at_call 17; refine (HPK.out _).mono ?_; rintro ev _ ⟨rfl, rfl⟩)
          (try go_wp2_with fail)
          refine hK.out _ _ ?_ (fun hH3 => ?_)
          · (try dsimp only); (first | with_reducible exact ⟨k0, k1, k2, k3, k4⟩ | go_keep)
          clear hK K hH2
          refine wpAnyH_take (i := 4) (oi := _) (v := ?_) rfl (by kernel_rfl) (by kernel_rfl) (by kernel_rfl) (fun _ _ _ h => h) (Or.inl ⟨by rfl, ?_⟩) (by assumption) ?_
          rotate_left
          · intro w8 hSw
            (try dsimp only at hSw)
            (try simp only [List.getElem_toArray, List.getElem_cons_succ, List.getElem_cons_zero])
            go_simp <;> with_reducible rfl
          (try simp only [List.getElem_toArray, List.getElem_cons_succ, List.getElem_cons_zero])
          (try simp only [Act.put, List.setIfInBounds_toArray, List.set_cons_zero, List.set_cons_succ])
          refine wpAnyH_ready (rs := [5]) (by kernel_rfl) (by simp) ?_
          refine AllReadyH.cons (o := _) rfl (fun K hK => ?_) ?_
          · (try simp only [List.getElem_toArray, List.getElem_cons_succ, List.getElem_cons_zero])
            go_simp
            refine hK.out _ _ ?_ (fun hH4 => ?_)
            · (try dsimp only); (first | with_reducible exact ⟨k0, k1, k2, k3, k4⟩ | go_keep)
            clear hK K hH3
            refine wpAnyH_ready (rs := [6]) (by kernel_rfl) (by simp) ?_
            refine AllReadyH.cons (o := _) rfl (fun K hK => ?_) ?_
            · (try simp only [List.getElem_toArray, List.getElem_cons_succ, List.getElem_cons_zero])
              go_simp
              (go_at_call 18; (with_reducible refine (HCALL.out _ hbC).mono ?_); rintro ev w9 ⟨rfl, hb9⟩; have HB9 := Below.step hbC hb9; have p0 := (HB9.cell (p := ⟨B10, 0, none⟩) hB10u).trans k0; have p1 := (HB9.cell (p := ⟨B10, 1, none⟩) hB10u).trans k1; have p2 := (HB9.cell (p := ⟨B10, 2, none⟩) hB10u).trans k2; have p3 := (HB9.cell (p := ⟨B10, 3, none⟩) hB10u).trans k3; have p4 := (HB9.cell (p := ⟨B10, 4, none⟩) hB10u).trans k4; have hB9 := Nat.lt_of_lt_of_le hB10u HB9.size; obtain ⟨⟨e0, e1, e2, e3, e4⟩, f0, f1, f2, f3, f4⟩ := at5 HKC.out HFC.out HSC.out hb9; have hs9 : wu.heap.size < w9.heap.size := Nat.lt_of_lt_of_le HSC.out hb9.size; have HBX := Hid.mk (below_set5 (g := wu.heap.size) HB9 (Nat.le_refl _) (.slice none 0 0) (.slice none 0 0) (.int .i64 0) (.slice none 0 0) (.slice none 0 0)))
              (try go_wp2_with fail)
              refine hK.out _ _ ?_ (fun hH5 => ?_)
              · (try dsimp only); (first | with_reducible exact ⟨p0, p1, p2, p3, p4⟩ | go_keep)
              clear hK K hH4
              refine wpAnyH_take (i := 7) (oi := _) (v := ?_) rfl (by kernel_rfl) (by kernel_rfl) (by kernel_rfl) (fun _ _ _ h => h) (Or.inl ⟨by rfl, ?_⟩) (by assumption) ?_
              rotate_left
              · intro w8 hSw
                (try dsimp only at hSw)
                (try simp only [List.getElem_toArray, List.getElem_cons_succ, List.getElem_cons_zero])
                go_simp <;> with_reducible rfl
              (try simp only [List.getElem_toArray, List.getElem_cons_succ, List.getElem_cons_zero])
              (try simp only [Act.put, List.setIfInBounds_toArray, List.set_cons_zero, List.set_cons_succ])
              refine wpAnyH_take (i := 8) (oi := _) (v := ?_) rfl (by kernel_rfl) (by kernel_rfl) (by kernel_rfl) (fun _ _ _ h => h) (Or.inl ⟨by rfl, ?_⟩) (by assumption) ?_
              rotate_left
              · intro w8 hSw
                (try dsimp only at hSw)
                (try simp only [List.getElem_toArray, List.getElem_cons_succ, List.getElem_cons_zero])
                go_simp <;> with_reducible rfl
              (try simp only [List.getElem_toArray, List.getElem_cons_succ, List.getElem_cons_zero])
              (try simp only [Act.put, List.setIfInBounds_toArray, List.set_cons_zero, List.set_cons_succ])
              refine wpAnyH_take (i := 9) (oi := _) (v := ?_) rfl (by kernel_rfl) (by kernel_rfl) (by kernel_rfl) (fun _ _ _ h => h) (Or.inl ⟨by rfl, ?_⟩) (by assumption) ?_
              rotate_left
              · intro w8 hSw
                (try dsimp only at hSw)
                (try simp only [List.getElem_toArray, List.getElem_cons_succ, List.getElem_cons_zero])
                go_simp <;> with_reducible rfl
              (try simp only [List.getElem_toArray, List.getElem_cons_succ, List.getElem_cons_zero])
              (try simp only [Act.put, List.setIfInBounds_toArray, List.set_cons_zero, List.set_cons_succ])
              refine wpAnyH_take (i := 10) (oi := _) (v := ?_) rfl (by kernel_rfl) (by kernel_rfl) (by kernel_rfl) (fun _ _ _ h => h) (Or.inl ⟨by rfl, ?_⟩) (by assumption) ?_
              rotate_left
              · intro w8 hSw
                (try dsimp only at hSw)
                (try simp only [List.getElem_toArray, List.getElem_cons_succ, List.getElem_cons_zero])
                go_simp <;> with_reducible rfl
              (try simp only [List.getElem_toArray, List.getElem_cons_succ, List.getElem_cons_zero])
              (try simp only [Act.put, List.setIfInBounds_toArray, List.set_cons_zero, List.set_cons_succ])
              refine wpAnyH_ready (rs := [12]) (by kernel_rfl) (by simp) ?_
              refine AllReadyH.cons (o := _) rfl (fun K hK => ?_) ?_
              · (try simp only [List.getElem_toArray, List.getElem_cons_succ, List.getElem_cons_zero])
                go_simp
                refine hK.out _ _ ?_ (fun hH6 => ?_)
                · (try dsimp only); (first | with_reducible exact ⟨set5_other p0 hBne, set5_other p1 hBne, set5_other p2 hBne, set5_other p3 hBne, set5_other p4 hBne⟩ | go_keep)
                clear hK K hH5
                refine wpAnyH_take (i := 13) (oi := _) (v := ?_) rfl (by kernel_rfl) (by kernel_rfl) (by kernel_rfl) (fun _ _ _ h => h) (Or.inl ⟨by rfl, ?_⟩) (by assumption) ?_
                rotate_left
                · intro w8 hSw
                  (try dsimp only at hSw)
                  (try simp only [List.getElem_toArray, List.getElem_cons_succ, List.getElem_cons_zero])
                  go_simp <;> with_reducible rfl
                (try simp only [List.getElem_toArray, List.getElem_cons_succ, List.getElem_cons_zero])
                (try simp only [Act.put, List.setIfInBounds_toArray, List.set_cons_zero, List.set_cons_succ])
                refine wpAnyH_take (i := 14) (oi := _) (v := ?_) rfl (by kernel_rfl) (by kernel_rfl) (by kernel_rfl) (fun _ _ _ h => h) (Or.inl ⟨by rfl, ?_⟩) (by assumption) ?_
                rotate_left
                · intro w8 hSw
                  (try dsimp only at hSw)
                  (try simp only [List.getElem_toArray, List.getElem_cons_succ, List.getElem_cons_zero])
                  go_simp <;> with_reducible rfl
                (try simp only [List.getElem_toArray, List.getElem_cons_succ, List.getElem_cons_zero])
                (try simp only [Act.put, List.setIfInBounds_toArray, List.set_cons_zero, List.set_cons_succ])
                refine wpAnyH_done (by kernel_rfl) ?_ _
                go_wp2_with fail
                go_meet
                case rel => with_reducible exact ⟨rfl, HBX⟩
              exact AllReadyH.nil
            exact AllReadyH.nil
          exact AllReadyH.nil
        exact AllReadyH.nil
      refine AllReadyH.cons (o := _) rfl (fun K hK => ?_) ?_
      · (try simp only [List.getElem_toArray, List.getElem_cons_succ, List.getElem_cons_zero])
        go_simp
        (go_at_call 17; refine (HPK.out _).mono ?_; rintro ev _ ⟨rfl, rfl⟩)
        (try go_wp2_with fail)
        refine hK.out _ _ ?_ (fun hH2 => ?_)
        · (try dsimp only); (first | with_reducible exact ⟨k0, k1, k2, k3, k4⟩ | go_keep)
        clear hK K hH1
        refine wpAnyH_ready (rs := [1]) (by kernel_rfl) (by simp) ?_
        refine AllReadyH.cons (o := _) rfl (fun K hK => ?_) ?_
        · (try simp only [List.getElem_toArray, List.getElem_cons_succ, List.getElem_cons_zero])
          go_simp
          refine hK.out _ _ ?_ (fun hH3 => ?_)
          · (try dsimp only); (first | with_reducible exact ⟨k0, k1, k2, k3, k4⟩ | go_keep)
          clear hK K hH2
          refine wpAnyH_take (i := 4) (oi := _) (v := ?_) rfl (by kernel_rfl) (by kernel_rfl) (by kernel_rfl) (fun _ _ _ h => h) (Or.inl ⟨by rfl, ?_⟩) (by assumption) ?_
          rotate_left
          · intro w8 hSw
            (try dsimp only at hSw)
            (try simp only [List.getElem_toArray, List.getElem_cons_succ, List.getElem_cons_zero])
            go_simp <;> with_reducible rfl
          (try simp only [List.getElem_toArray, List.getElem_cons_succ, List.getElem_cons_zero])
          (try simp only [Act.put, List.setIfInBounds_toArray, List.set_cons_zero, List.set_cons_succ])
          refine wpAnyH_ready (rs := [5]) (by kernel_rfl) (by simp) ?_
          refine AllReadyH.cons (o := _) rfl (fun K hK => ?_) ?_
          · (try simp only [List.getElem_toArray, List.getElem_cons_succ, List.getElem_cons_zero])
            go_simp
            refine hK.out _ _ ?_ (fun hH4 => ?_)
            · (try dsimp only); (first | with_reducible exact ⟨k0, k1, k2, k3, k4⟩ | go_keep)
            clear hK K hH3
            refine wpAnyH_ready (rs := [6]) (by kernel_rfl) (by simp) ?_
            refine AllReadyH.cons (o := _) rfl (fun K hK => ?_) ?_
            · (try simp only [List.getElem_toArray, List.getElem_cons_succ, List.getElem_cons_zero])
              go_simp
              (go_at_call 18; (with_reducible refine (HCALL.out _ hbC).mono ?_); rintro ev w9 ⟨rfl, hb9⟩; have HB9 := Below.step hbC hb9; have p0 := (HB9.cell (p := ⟨B10, 0, none⟩) hB10u).trans k0; have p1 := (HB9.cell (p := ⟨B10, 1, none⟩) hB10u).trans k1; have p2 := (HB9.cell (p := ⟨B10, 2, none⟩) hB10u).trans k2; have p3 := (HB9.cell (p := ⟨B10, 3, none⟩) hB10u).trans k3; have p4 := (HB9.cell (p := ⟨B10, 4, none⟩) hB10u).trans k4; have hB9 := Nat.lt_of_lt_of_le hB10u HB9.size; obtain ⟨⟨e0, e1, e2, e3, e4⟩, f0, f1, f2, f3, f4⟩ := at5 HKC.out HFC.out HSC.out hb9; have hs9 : wu.heap.size < w9.heap.size := Nat.lt_of_lt_of_le HSC.out hb9.size; have HBX := Hid.mk (below_set5 (g := wu.heap.size) HB9 (Nat.le_refl _) (.slice none 0 0) (.slice none 0 0) (.int .i64 0) (.slice none 0 0) (.slice none 0 0)))
              (try go_wp2_with fail)
              refine hK.out _ _ ?_ (fun hH5 => ?_)
              · (try dsimp only); (first | with_reducible exact ⟨p0, p1, p2, p3, p4⟩ | go_keep)
              clear hK K hH4
              refine wpAnyH_take (i := 7) (oi := _) (v := ?_) rfl (by kernel_rfl) (by kernel_rfl) (by kernel_rfl) (fun _ _ _ h => h) (Or.inl ⟨by rfl, ?_⟩) (by assumption) ?_
              rotate_left
              · intro w8 hSw
                (try dsimp only at hSw)
                (try simp only [List.getElem_toArray, List.getElem_cons_succ, List.getElem_cons_zero])
                go_simp <;> with_reducible rfl
              (try simp only [List.getElem_toArray, List.getElem_cons_succ, List.getElem_cons_zero])
              (try simp only [Act.put, List.setIfInBounds_toArray, List.set_cons_zero, List.set_cons_succ])
              refine wpAnyH_take (i := 8) (oi := _) (v := ?_) rfl (by kernel_rfl) (by kernel_rfl) (by kernel_rfl) (fun _ _ _ h => h) (Or.inl ⟨by rfl, ?_⟩) (by assumption) ?_
              rotate_left
              · intro w8 hSw
                (try dsimp only at hSw)
                (try simp only [List.getElem_toArray, List.getElem_cons_succ, List.getElem_cons_zero])
                go_simp <;> with_reducible rfl
              (try simp only [List.getElem_toArray, List.getElem_cons_succ, List.getElem_cons_zero])
              (try simp only [Act.put, List.setIfInBounds_toArray, List.set_cons_zero, List.set_cons_succ])
              refine wpAnyH_take (i := 9) (oi := _) (v := ?_) rfl (by kernel_rfl) (by kernel_rfl) (by kernel_rfl) (fun _ _ _ h => h) (Or.inl ⟨by rfl, ?_⟩) (by assumption) ?_
              rotate_left
              · intro w8 hSw
                (try dsimp only at hSw)
                (try simp only [List.getElem_toArray, List.getElem_cons_succ, List.getElem_cons_zero])
                go_simp <;> with_reducible rfl
              (try simp only [List.getElem_toArray, List.getElem_cons_succ, List.getElem_cons_zero])
              (try simp only [Act.put, List.setIfInBounds_toArray, List.set_cons_zero, List.set_cons_succ])
              refine wpAnyH_take (i := 10) (oi := _) (v := ?_) rfl (by kernel_rfl) (by kernel_rfl) (by kernel_rfl) (fun _ _ _ h => h) (Or.inl ⟨by rfl, ?_⟩) (by assumption) ?_
              rotate_left
              · intro w8 hSw
                (try dsimp only at hSw)
                (try simp only [List.getElem_toArray, List.getElem_cons_succ, List.getElem_cons_zero])
                go_simp <;> with_reducible rfl
              (try simp only [List.getElem_toArray, List.getElem_cons_succ, List.getElem_cons_zero])
              (try simp only [Act.put, List.setIfInBounds_toArray, List.set_cons_zero, List.set_cons_succ])
              refine wpAnyH_ready (rs := [12]) (by kernel_rfl) (by simp) ?_
              refine AllReadyH.cons (o := _) rfl (fun K hK => ?_) ?_
              · (try simp only [List.getElem_toArray, List.getElem_cons_succ, List.getElem_cons_zero])
                go_simp
                refine hK.out _ _ ?_ (fun hH6 => ?_)
                · (try dsimp only); (first | with_reducible exact ⟨set5_other p0 hBne, set5_other p1 hBne, set5_other p2 hBne, set5_other p3 hBne, set5_other p4 hBne⟩ | go_keep)
                clear hK K hH5
                refine wpAnyH_take (i := 13) (oi := _) (v := ?_) rfl (by kernel_rfl) (by kernel_rfl) (by kernel_rfl) (fun _ _ _ h => h) (Or.inl ⟨by rfl, ?_⟩) (by assumption) ?_
                rotate_left
                · intro w8 hSw
                  (try dsimp only at hSw)
                  (try simp only [List.getElem_toArray, List.getElem_cons_succ, List.getElem_cons_zero])
                  go_simp <;> with_reducible rfl
                (try simp only [List.getElem_toArray, List.getElem_cons_succ, List.getElem_cons_zero])
                (try simp only [Act.put, List.setIfInBounds_toArray, List.set_cons_zero, List.set_cons_succ])
                refine wpAnyH_take (i := 14) (oi := _) (v := ?_) rfl (by kernel_rfl) (by kernel_rfl) (by kernel_rfl) (fun _ _ _ h => h) (Or.inl ⟨by rfl, ?_⟩) (by assumption) ?_
                rotate_left
                · intro w8 hSw
                  (try dsimp only at hSw)
                  (try simp only [List.getElem_toArray, List.getElem_cons_succ, List.getElem_cons_zero])
                  go_simp <;> with_reducible rfl
                (try simp only [List.getElem_toArray, List.getElem_cons_succ, List.getElem_cons_zero])
                (try simp only [Act.put, List.setIfInBounds_toArray, List.set_cons_zero, List.set_cons_succ])
                refine wpAnyH_done (by kernel_rfl) ?_ _
                go_wp2_with fail
                go_meet
                case rel => with_reducible exact ⟨rfl, HBX⟩
              exact AllReadyH.nil
            exact AllReadyH.nil
          exact AllReadyH.nil
        exact AllReadyH.nil
      exact AllReadyH.nil
    exact AllReadyH.nil

  case rest =>
    obtain ⟨rfl, HBX⟩ := hcut
    have hb9 := HBX.out
    have K10c := box_step HKb.out hs10b hb9
    have hs10c := Nat.lt_of_lt_of_le hs10b hb9.size
    have HHc := Hid.mk (HHb.out.below hb9)
    have HRWc := Hid.mk (HRWb.out.below hb9)
    have HBc := Hid.mk (Below.step HBb.out hb9)
    clear k0 k1 k2 k3 k4 hFe HKb hs10b HHb HRWb HBb HBX hb9 HPK HCALL hB10u hbA hbB hbC HKB HFB HSB HKC HFC HSC hBne hBne2
    obtain ⟨p, hp256, hpe⟩ := pk_nat v 256 (by decide)
    rw [show ((256 : Nat) : Int) = 256 from rfl] at hpe
    have hany := has_same HPI.out p
    have hfit : ∀ b ∈ away, b.a ≤ 1000 := fun b hb => by
      have hkm : keyB b ∈ h.live.map keyB := HPI.out.lv.mem_iff.1 (List.mem_map_of_mem hb)
      obtain ⟨b9, hb9, e9⟩ := List.mem_map.1 hkm
      simp only [keyB, Prod.mk.injEq] at e9
      have := (HPI.out.ok.lv b9 hb9).1.2.2.1
      omega
    have HEN : Hid (∀ args w, (callFunc 27 args).run Tryd.prog w = .ok (.enter 27 args) w) := enters_of Tryd.func27 (by kernel_rfl) rfl
    go_wp2_with fail
    refine (picked_any v 256 _ hbv.1 hbv.2 (by omega) (by omega)).mono ?_
    rintro ev _ ⟨rfl, rfl⟩
    rw [hpe]
    clear hpe
    go_upto_region 7 with fail
    have hb10 := below_alloc wc (.cells #[.int .i64 (p : Int)] 3)
    have K24 := box_new wc #[.int .i64 (p : Int)] 3
    have hs24 := box_lt wc (.cells #[.int .i64 (p : Int)] 3)
    have K10d := box_step K10c hs10c hb10
    have hs10d := Nat.lt_of_lt_of_le hs10c hb10.size
    have HHd := Hid.mk (HHc.out.below hb10)
    have HRWd := Hid.mk (HRWc.out.below hb10)
    have HBd := Hid.mk (Below.step HBc.out hb10)
    clear hb10 K10c hs10c HHc HRWc HBc
    generalize wc.alloc (.cells #[.int .i64 (p : Int)] 3) = wd at *
    obtain ⟨G24, hG⟩ : ∃ G, wc.heap.size = G := ⟨_, rfl⟩
    rw [hG] at K24 hs24 ⊢
    clear hG
    have v0 := K10d 0
    have v1 := K10d 1
    have v2 := K10d 2
    have v3 := K10d 3
    have v4 := K10d 4
    simp only [List.getElem?_toArray, List.getElem?_cons_zero, List.getElem?_cons_succ] at v0 v1 v2 v3 v4
    have g0 := K24 0
    simp only [List.getElem?_toArray, List.getElem?_cons_zero, List.getElem?_cons_succ] at g0
    go_wp2_with fail
    refine (free_any _ _ _ _ _ _ _ _ _ _ _ _ _ h p wd HHd.out HPI.out.ok hnll hnvl (by omega)).mono ?_
    rintro ev we ⟨hbe, x0, x1, x3, x4, r0, t0, r1, t1, r3, t3, r4, t4, kc, rfl⟩
    clear v0 v1 v2 v3 v4 g0
    go_upto_region 8 with fail
    have hb11 := Below.step hbe (below_alloc we (.cells #[.slice x0 r0 t0, .slice x1 r1 t1, .int .i64 kc, .slice x3 r3 t3, .slice x4 r4 t4] 34))
    have K10e := box_step K10d hs10d hb11
    have hs10e := Nat.lt_of_lt_of_le hs10d hb11.size
    have HHe := Hid.mk (HHd.out.below hb11)
    have HRWe := Hid.mk (HRWd.out.below hb11)
    have HBe := Hid.mk (Below.step HBd.out hb11)
    have K24e := box_step K24 hs24 hb11
    have hs24e := Nat.lt_of_lt_of_le hs24 hb11.size
    clear hb11 hbe K10d hs10d HHd HRWd HBd K24 hs24
    generalize we.alloc (.cells #[.slice x0 r0 t0, .slice x1 r1 t1, .int .i64 kc, .slice x3 r3 t3, .slice x4 r4 t4] 34) = wf at *
    generalize we.heap.size = G25 at *
    have v0 := K10e 0
    have v1 := K10e 1
    have v2 := K10e 2
    have v3 := K10e 3
    have v4 := K10e 4
    simp only [List.getElem?_toArray, List.getElem?_cons_zero, List.getElem?_cons_succ] at v0 v1 v2 v3 v4
    have g0 := K24e 0
    simp only [List.getElem?_toArray, List.getElem?_cons_zero, List.getElem?_cons_succ] at g0
    cases hth : hasB h.live p with
    | true =>
      rw [hth] at hany
      have hcont := containsFuncBk aw away.length ca away 27 #[.pointer (some ⟨G24, 0, none⟩)] (fun b => decide (b.a = p)) wf rfl (by omega) HRWe.out HEN.out (fun W hW b hb => thisPage b p G24 W (hfit b hb) (by omega) (Nat.lt_of_lt_of_le hs24e hW.size) ((hW.cell (p := ⟨G24, 0, none⟩) hs24e).trans g0))
      rw [hany] at hcont
      have HC := Hid.mk hcont
      clear hcont hfit HEN
      go_wp2_with (go_at_call 20; refine HC.out.mono ?_; rintro ev wg ⟨rfl, hbg⟩; have v0g := (hbg.cell (p := ⟨B10, 0, none⟩) hs10e).trans v0; have v1g := (hbg.cell (p := ⟨B10, 1, none⟩) hs10e).trans v1; have v2g := (hbg.cell (p := ⟨B10, 2, none⟩) hs10e).trans v2; have v3g := (hbg.cell (p := ⟨B10, 3, none⟩) hs10e).trans v3; have v4g := (hbg.cell (p := ⟨B10, 4, none⟩) hs10e).trans v4; have g0g := (hbg.cell (p := ⟨G24, 0, none⟩) hs24e).trans g0)
      refine (free_cpu _ _ _ _ _ _ _ _ _ _ _ _ _ h p wg (HHe.out.below hbg) HPI.out.ok hnll hnvl).mono ?_
      rintro ev wh ⟨rfl, hbh⟩
      have HBE := Hid.mk (Below.step (Below.step (Below.step HBe.out hbg) hbh) (below_alloc wh (.cells #[.slice none 0 0, .slice none 0 0, .int .i64 0, .slice none 0 0, .slice none 0 0] 34)))
      clear v0 v1 v2 v3 v4 v0g v1g v2g v3g v4g g0 g0g
      go_wp2
      go_ret
      exact ⟨rfl, HBE.out⟩
    | false =>
      rw [hth] at hany
      have hcont := containsFuncBk aw away.length ca away 27 #[.pointer (some ⟨G24, 0, none⟩)] (fun b => decide (b.a = p)) wf rfl (by omega) HRWe.out HEN.out (fun W hW b hb => thisPage b p G24 W (hfit b hb) (by omega) (Nat.lt_of_lt_of_le hs24e hW.size) ((hW.cell (p := ⟨G24, 0, none⟩) hs24e).trans g0))
      rw [hany] at hcont
      have HC := Hid.mk hcont
      clear hcont hfit HEN
      go_wp2_with (go_at_call 20; refine HC.out.mono ?_; rintro ev wg ⟨rfl, hbg⟩; have v0g := (hbg.cell (p := ⟨B10, 0, none⟩) hs10e).trans v0; have v1g := (hbg.cell (p := ⟨B10, 1, none⟩) hs10e).trans v1; have v2g := (hbg.cell (p := ⟨B10, 2, none⟩) hs10e).trans v2; have v3g := (hbg.cell (p := ⟨B10, 3, none⟩) hs10e).trans v3; have v4g := (hbg.cell (p := ⟨B10, 4, none⟩) hs10e).trans v4; have g0g := (hbg.cell (p := ⟨G24, 0, none⟩) hs24e).trans g0)
      refine (free_cpu _ _ _ _ _ _ _ _ _ _ _ _ _ h p wg (HHe.out.below hbg) HPI.out.ok hnll hnvl).mono ?_
      rintro ev wh ⟨rfl, hbh⟩
      have HBE := Hid.mk (Below.step (Below.step (Below.step HBe.out hbg) hbh) (below_alloc wh (.cells #[.slice none 0 0, .slice none 0 0, .int .i64 0, .slice none 0 0, .slice none 0 0] 34)))
      clear v0 v1 v2 v3 v4 v0g v1g v2g v3g v4g g0 g0g
      go_wp2
      go_ret
      exact ⟨rfl, HBE.out⟩
end Go.Proofs.YtjljcifpcljlaaaDoor
