/- Pp9: texts of this claim, joined. -/
import Derived.Test.YtkcaheebaicinaaGreatDoorSN27
import Derived.Test.YtkcaheebaicinaaGreatDoorSN30
/- Contract of package pages: take, on the heap behind a pointer. -/
namespace Go.Proofs.YtkcaheebaicinaaGreatDoor
open Go.RowKit
set_option linter.unusedVariables false

theorem Oth.safe {w w' : World} {X : Nat → Prop} (h : Oth w) (hs : Safe X w w') (h0 : X 1) : Oth w' :=
  ⟨Nat.lt_of_lt_of_le h.sz hs.size, fun i v hv => (hs.cell (p := ⟨1, i, none⟩) h.sz h0).trans (h.c i v hv)⟩
theorem Oth.below {w w' : World} (h : Oth w) (hb : Below w.heap.size w w') : Oth w' := h.mono hb (Nat.le_refl _)

theorem sumB_szB (l : List Bk) : sumB l = szB l := by
  induction l with
  | nil => rfl
  | cons b l ih => rw [sumB, szB, ih]
theorem held_le {h : Hp} (hk : HOk h) (i : Nat) (u lo : Bool) : h.held i u lo ≤ 1000 := by
  have h0 := hk.m0
  have h1 := hk.m1
  have h2 := hk.e1
  have h3 : h.min i ≤ 256 := by unfold Hp.min; split <;> omega
  unfold Hp.held
  split <;> split <;> omega
theorem take_bounds {z z' : Zn} {order t a : Nat} (h : z.ok) (ho : order ≤ 4) (ht : t < 3) (he : z.take order t = some (z', a)) : z'.f = z.f ∧ z'.e = z.e := by
  by_cases hb : ∃ b ∈ z.l, order ≤ b.o
  · obtain ⟨z1, a1, h1, h2⟩ := Zn.take_some h ho ht hb
    rw [h1] at he
    obtain ⟨rfl, rfl⟩ : z1 = z' ∧ a1 = a := by simpa using he
    exact ⟨h2.f, h2.e⟩
  · rw [Zn.take_none hb] at he
    cases he
set_option maxHeartbeats 4000000 in
set_option maxRecDepth 100000 in
theorem take_pg (G i order t flags : Nat) (X : Nat → Prop) (h : Hp) (c : Hc) (w : World) (hs : HS w G X h c) (hk : HOk h) (hi : i < 2) (hor : order ≤ 4) (ht : t < 3) (hf : flags ≤ 15) (ho : Oth w) :
    Calls Tryz.prog 113 #[.pointer (some ⟨G, 0, none⟩), .int .i64 i, .int .i64 order, .int .i64 t, .int .i64 flags] w fun ev w' =>
      (h.takeZ i order t (h.held i (decide (flags / 8 % 2 = 1)) (decide (flags % 2 = 1))) = none ∧ ev = .returned (.tuple #[.int .i64 0, .bool false]) ∧ HS w' G X h c ∧ Safe X w w') ∨
      (∃ h' a y0 y1, h.takeZ i order t (h.held i (decide (flags / 8 % 2 = 1)) (decide (flags % 2 = 1))) = some (h', a) ∧ ev = .returned (.tuple #[.int .i64 (a : Nat), .bool true]) ∧ HS w' G X h' { c with y0 := y0, y1 := y1 } ∧ Safe X w w') := by
  obtain ⟨g, hg, hgs, hgG, hgX, hgf⟩ := hs.r.zblock
  obtain ⟨k0, k1, k2, k3, k4⟩ := hs.words
  rw [hg] at k0
  obtain ⟨z0, z1, z2, z3⟩ := hs.r.zcells hg hi
  have hGs := hs.r.gs
  have HS0 := Hid.mk hs
  have HZ := Hid.mk (hk.zone i)
  have HK := Hid.mk hk
  have HG := Hid.mk hg
  have HAT := Hid.mk (hs.r.zat hi)
  have HO := Hid.mk ho
  have hi2 : (i : Int) < 2 := by omega
  have hS : szB (h.zone i).l ≤ 256 := szB_le HZ.out
  have hsh := shl_bk hor
  have hpw := pow_bk hor
  obtain ⟨D, hD⟩ : ∃ D, h.held i (decide (flags / 8 % 2 = 1)) (decide (flags % 2 = 1)) = D := ⟨_, rfl⟩
  have hDb : D ≤ 1000 := by rw [← hD]; exact held_le hk _ _ _
  have HTZ : Hid (h.takeZ i order t D = if szB (h.zone i).l < D + 2 ^ order then none else match (h.zone i).take order t with
    | some (z', a) => some (h.setZ i z', a)
    | none => none) := rfl
  rw [hD]
  have HD := Hid.mk hD
  clear hs ho hk hg hgf hD
  have HZE0 : Hid (∃ z, h.zone i = z) := ⟨_, rfl⟩
  obtain ⟨z, hze⟩ := HZE0.out
  have HZE := Hid.mk hze
  rw [hze] at z0 z1 HAT HZ hS HTZ
  clear hze HZE0
  go_enter Tryz.func113, Tryz.ntmps113
  go_wp2_with fail
  refine (pages_ok _ _ _ _ _ _ z _ HAT.out HZ.out).mono ?_
  rintro ev w1 ⟨rfl, hb1⟩
  rw [sumB_szB]
  have HS1 := Hid.mk (HS0.out.below hb1)
  have HSF := Hid.mk (Safe.ofBelow (X := X) hb1)
  have HO1 := Hid.mk (HO.out.below hb1)
  have hGs1 : G < w1.heap.size := Nat.lt_of_lt_of_le hGs hb1.size
  clear k0 k1 k2 k3 k4 z0 z1 z2 z3 HS0 HAT HO hb1 hGs hgs
  obtain ⟨k0, k1, k2, k3, k4⟩ := HS1.out.words
  generalize szB z.l = n at *
  have hn1 : n ≤ 256 := hS
  have hSn : (2 ^ order : Nat) ≤ 16 := hpw.2
  obtain ⟨s, hs⟩ : ∃ s, 2 ^ order = s := ⟨_, rfl⟩
  rw [hs] at hpw hSn HTZ
  have hsh2 : wrap64 (2 ^ order) = (s : Int) := by rw [hsh, hs]
  clear hsh hs
  have hsub : IntKind.i64.wrap ((n : Int) - s) = (n : Int) - s := IntWalk.i64_in _ (by omega)
  have HHD : Hid (∀ W, Below w1.heap.size w1 W → Calls Tryz.prog 133 #[.agg #[.slice c.az 2 c.cz, .slice c.am 2 c.cm, .int .i64 h.cpus, .slice c.al c.lc.length c.cl, .slice c.av h.live.length c.cv], .int .i64 i, .int .i64 flags] W fun ev w' => ev = .returned (.int .i64 (D : Nat)) ∧ Below W.heap.size W w') := fun W hW => by
    have h1 := held_pg _ _ _ _ c.cz c.cm c.cl c.cv _ _ _ _ _ h i flags W (HS1.out.r.at.below hW) HK.out hi hf
    rw [HD.out] at h1
    exact h1
  by_cases hlt : n < D + s
  · have d1 : decide ((n : Int) - s < D) = true := decide_eq_true (by omega)
    go_wp2_with fail
    refine wp_region_ext_lit (by kernel_rfl) (by kernel_rfl) ?_
    repeat (go_big_quiet_step ((go_at_call 133; exact Calls.ext_of (HHD.out _ (ext_below w1 _)))))
    refine wpQuiet_nil ?_
    rintro _ ⟨wx, rfl⟩
    have HS2 := Hid.mk (HS1.out.below (ext_below w1 wx))
    have HSF2 := Hid.mk (HSF.out.then (ext_below w1 wx))
    generalize ext w1 wx = w2 at *
    go_wp2
    go_ret2
    exact .inl ⟨by rw [HTZ.out, if_pos hlt], rfl, HS2.out, HSF2.out⟩
  · have d1 : decide ((n : Int) - s < D) = false := decide_eq_false (by omega)
    go_wp2_with fail
    refine wp_region_ext_lit (by kernel_rfl) (by kernel_rfl) ?_
    repeat (go_big_quiet_step ((go_at_call 133; exact Calls.ext_of (HHD.out _ (ext_below w1 _)))))
    refine wpQuiet_nil ?_
    rintro _ ⟨wx, rfl⟩
    have HS2 := Hid.mk (HS1.out.below (ext_below w1 wx))
    have HSF2 := Hid.mk (HSF.out.then (ext_below w1 wx))
    have HO2 := Hid.mk (HO1.out.below (ext_below w1 wx))
    have hGs2 : G < (ext w1 wx).heap.size := Nat.lt_of_lt_of_le hGs1 (ext_below w1 wx).size
    clear k0 k1 k2 k3 k4 HHD HS1 HSF HO1
    generalize ext w1 wx = w2 at *
    obtain ⟨k0, k1, k2, k3, k4⟩ := HS2.out.words
    rw [HG.out] at k0
    obtain ⟨z0, z1, z2, z3⟩ := HS2.out.r.zcells HG.out hi
    have HAT := HS2.out.r.zat hi
    rw [HZE.out] at z0 z1 HAT
    go_wp2_with fail
    refine (take_ok _ _ _ _ _ _ z order t w2 HAT HZ.out hor ht HO2.out).mono ?_
    rintro ev w3 (⟨hno, rfl, hb3⟩ | ⟨z', at_, a1', a2', n1', c1', c2', hso, rfl, hz3, hb3⟩)
    · have HS3 := Hid.mk (HS2.out.below hb3)
      have HSF3 := Hid.mk (HSF2.out.then hb3)
      have HNO := Hid.mk hno
      clear k0 k1 k2 k3 k4 z0 z1 z2 z3 HAT hno
      have hnew := below_alloc w3 (.cells #[.int .i64 0, .int .i64 0, .slice none 0 0, .slice none 0 0] 110)
      have HS4 := Hid.mk (HS3.out.below hnew)
      have HSF4 := Hid.mk (HSF3.out.then hnew)
      go_wp2
      go_ret2
      exact .inl ⟨by rw [HTZ.out, if_neg hlt, HNO.out], rfl, HS4.out, HSF4.out⟩
    · have HSO := Hid.mk hso
      obtain ⟨K5, F5, hsz5, hbw5⟩ := boxes1 w3 #[.int .i64 (z.f : Int), .int .i64 (z.e : Int), .slice a1' n1' c1', .slice a2' (c.zone i).n2 c2'] 110
      have HB4 := Hid.mk (Below.step hb3 hbw5)
      have HZ4 := Hid.mk (hz3.below hbw5)
      have HS4 := Hid.mk (HS2.out.below HB4.out)
      obtain ⟨z4f, z4e⟩ : z'.f = z.f ∧ z'.e = z.e := take_bounds HZ.out hor ht hso
      clear k0 k1 k2 k3 k4 z0 z1 z2 z3 HAT hso hbw5 hb3 hz3
      obtain ⟨k0, k1, k2, k3, k4⟩ := HS4.out.words
      rw [HG.out] at k0
      have b0 := K5 0
      have b1 := K5 1
      have b2 := K5 2
      have b3 := K5 3
      simp only [List.getElem?_toArray, List.getElem?_cons_zero, List.getElem?_cons_succ] at b0 b1 b2 b3
      clear K5 F5
      go_wp2_with fail
      generalize w3.alloc (.cells #[.int .i64 (z.f : Int), .int .i64 (z.e : Int), .slice a1' n1' c1', .slice a2' (c.zone i).n2 c2'] 110) = w4 at *
      generalize w3.heap.size = B4 at *
      go_still_tail 7, (by kernel_rfl)
      change wpList _ _ _ _ _ w4.drew
      have HB5 := Hid.mk (HB4.out.drew)
      have HZ5 := Hid.mk (HZ4.out.below ((Below.refl w4.heap.size w4).drew))
      have HS5 := Hid.mk (HS4.out.below ((Below.refl w4.heap.size w4).drew))
      clear k0 k1 k2 k3 k4 b0 b1 b2 b3 HB4 HZ4 HS4
      generalize w4.drew = w5 at *
      obtain ⟨x0, x1, x2, x3⟩ := HS5.out.r.zcells HG.out hi
      obtain ⟨f0, f1, f2, f3⟩ := HS5.out.r.zfrz HG.out hi
      obtain ⟨hs6, sf6⟩ := HS2.out.putZ HB5.out hi HZ5.out HG.out
      obtain ⟨y0, y1, ey⟩ := setY_eq c i ⟨z', a1', a2', n1', (c.zone i).n2, c1', c2'⟩
      rw [ey] at hs6
      rw [z4f, z4e] at hs6 sf6
      have HS6 := Hid.mk hs6
      have SF6 := Hid.mk (HSF2.out.trans sf6)
      clear hs6 sf6 ey
      go_wp2
      go_ret2
      exact .inr ⟨h.setZ i z', at_, y0, y1, by rw [HTZ.out, if_neg hlt, HSO.out], rfl, HS6.out, SF6.out⟩
end Go.Proofs.YtkcaheebaicinaaGreatDoor
