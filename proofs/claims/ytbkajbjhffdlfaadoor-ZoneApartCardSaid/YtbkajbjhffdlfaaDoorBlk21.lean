/- Contract of paddockkeep.zoned. -/
import Derived.Test.YtbkajbjhffdlfaaDoorBlk20
import Derived.Deep.RegionHeld3
namespace Go.Proofs.YtbkajbjhffdlfaaDoor
open Go.RowKit
set_option linter.unusedVariables false

/-- a number as 'picked' gives it -/
theorem pk_nat (n : Int) (m : Nat) (hm : 0 < m) : ∃ k : Nat, k < m ∧ pk n m = k := by
  have h1 := pk_nonneg n m (by omega)
  have h2 := pk_lt n m (by omega)
  exact ⟨(pk n m).toNat, by omega, by omega⟩

theorem set4_other {W : World} {b G o : Nat} {v u0 u1 u2 u3 : Value} (h : W.cell? ⟨b, o, none⟩ = some v) (hne : b ≠ G) : ((((W.setCell ⟨G, 0, none⟩ u0).setCell ⟨G, 1, none⟩ u1).setCell ⟨G, 2, none⟩ u2).setCell ⟨G, 3, none⟩ u3).cell? ⟨b, o, none⟩ = some v := by
  have key : ∀ (W : World) (i : Nat) (u : Value), W.cell? ⟨b, o, none⟩ = some v → (W.setCell ⟨G, i, none⟩ u).cell? ⟨b, o, none⟩ = some v := fun W i u h => by
    have hx : (⟨G, i, none⟩ : Addr) ≠ ⟨b, o, none⟩ := fun e => hne (by simpa using (congrArg Addr.block e).symm)
    exact (World.cell?_setCell_other _ _ _ _ hx).trans h
  exact key _ _ _ (key _ _ _ (key _ _ _ (key _ _ _ h)))

structure ZDone (w w' : World) (ev : Ending) (l : List Rw) (ok : Bool) (z : Zn) (away : List Bk) : Prop where
  ex : ∃ a1 a2 n1 n2 c1 c2 aw na ca, ev = .returned (.tuple #[.agg #[.int .i64 z.f, .int .i64 z.e, .slice a1 n1 c1, .slice a2 n2 c2], .slice aw na ca, .bool ok]) ∧ ZOwn w' w.heap.size a1 a2 n1 n2 c1 c2 z ∧ w'.ownsRow w.heap.size 36 3 (.slice aw na ca) na (flat encBk away)
  inv : ZInv 18 108 z away
  f : z.f = 16
  e : z.e = 112
  len : away.length ≤ 60
  nil : l = [] → z = zone1 ∧ away = []
  bw : Below w.heap.size w w'

set_option maxHeartbeats 40000000 in
set_option maxRecDepth 100000 in
theorem zoned_ok (a : Option Addr) (n c : Nat) (l : List Rw) (most : Nat) (w : World) (hl : l.length = n) (hnc : n ≤ c) (hcm : c ≤ maxLen) (hr : Row w a (flat encRw l)) (hwf : ∀ r ∈ l, r.wf) (hmost : most ≤ 60) (hoth : Oth w) :
    Calls Tryd.prog 9 #[.slice a n c, .int .i64 most] w fun ev w' => ∃ z away, ZDone w w' ev l true z away := by
  obtain ⟨K4, F4, hsz, hbw⟩ := boxes1 w #[.int .i64 0, .int .i64 0, .slice none 0 0, .slice none 0 0] 26
  have hn63 : n ≤ 9223372036854775807 := by unfold maxLen at hcm; omega
  have HOT := Hid.mk hoth
  have HR := Hid.mk hr
  clear hoth hr
  go_enter Tryd.func9, Tryd.ntmps9
  go_wp2_with fail
  generalize w.alloc (.cells #[.int .i64 0, .int .i64 0, .slice none 0 0, .slice none 0 0] 26) = w0 at *
  refine (new_ok 16 112 12 _ (by omega) (by omega) (by omega) (by omega) (by omega)).mono ?_
  rintro ev w1 ⟨a2, c2, rfl, hown, hb1⟩
  have K4b := box_step K4 hsz hb1
  have F4b := frz_step F4 hsz hb1
  have hsz1 := hb1.size
  have hbw1 := Below.step hbw hb1
  have hb2 := below_alloc w1 (.cells #[.int .i64 16, .int .i64 112, .slice none 0 0, .slice a2 12 c2] 26)
  have K4c := box_step K4b (by omega) hb2
  have F4c := frz_step F4b (by omega) hb2
  have K7 := box_new w1 #[.int .i64 16, .int .i64 112, .slice none 0 0, .slice a2 12 c2] 26
  have F7 := box_frz w1 #[.int .i64 16, .int .i64 112, .slice none 0 0, .slice a2 12 c2] 26
  have hown2 := hown.below hb2
  have hbw2 := Below.step hbw1 hb2
  have hB : w.heap.size < w1.heap.size := by omega
  have hs2 : w1.heap.size < (w1.alloc (.cells #[.int .i64 16, .int .i64 112, .slice none 0 0, .slice a2 12 c2] 26)).heap.size := by simp
  clear K4 F4 K4b F4b hown hbw hbw1 hb1 hb2 hsz
  go_wp2_with fail
  generalize w1.alloc (.cells #[.int .i64 16, .int .i64 112, .slice none 0 0, .slice a2 12 c2] 26) = w2 at *
  generalize w1.heap.size = B at *
  have hgive : Calls Tryd.prog 26 #[.agg #[.int .i64 16, .int .i64 112, .slice none 0 0, .slice a2 12 c2], .int .i64 18, .int .i64 90] w2 fun ev w' => ∃ a1' a2' n1' c1' c2', ev = .returned (.tuple #[.agg #[.int .i64 16, .int .i64 112, .slice a1' n1' c1', .slice a2' 12 c2'], .int .i64 0]) ∧ ZOwn w' w2.heap.size a1' a2' n1' 12 c1' c2' zone1 ∧ Below w2.heap.size w2 w' := give_ok none a2 0 12 0 c2 zone0 18 90 _ hown2.at zone0_ok rfl (by decide) (by decide)
  refine hgive.mono ?_
  rintro ev w3 ⟨a3, a4, n3, c3, c4, rfl, hown3, hb3⟩
  have K4d := box_step K4c (by omega) hb3
  have F4d := frz_step F4c (by omega) hb3
  have K7d := box_step K7 hs2 hb3
  have F7d := frz_step F7 hs2 hb3
  have hs3 := hb3.size
  have hbw3 := Below.step hbw2 hb3
  have hown4 : ZOwn w3 (B + 1) a3 a4 n3 12 c3 c4 zone1 := hown3.base (by omega)
  have nn := hown4.ne (g := B) (.inl (by omega))
  have HI : Hid (ZS w ((((w3.setCell ⟨B, 0, none⟩ (.int .i64 16)).setCell ⟨B, 1, none⟩ (.int .i64 112)).setCell ⟨B, 2, none⟩ (.slice a3 n3 c3)).setCell ⟨B, 3, none⟩ (.slice a4 12 c4)) B a3 a4 n3 12 c3 c4 zone1 none 0 0 []) :=
    ⟨box_set_other (box_set_other (box_set_other (box_set_other K4d (by omega) _ _) (by omega) _ _) (by omega) _ _) (by omega) _ _, frz_set (frz_set (frz_set (frz_set F4d _ _) _ _) _ _) _ _, box_set (box_set (box_set (box_set K7d 0 _) 1 _) 2 _) 3 _, frz_set (frz_set (frz_set (frz_set F7d _ _) _ _) _ _) _ _, ((((hown4.set nn _ _).set nn _ _).set nn _ _).set nn _ _), World.ownsRow_nil _ _ _ _, (fun k hk => by simp [Value.ownBlock] at hk), hB, by simp only [World.size_setCell]; omega, Below.setCell (Below.setCell (Below.setCell (Below.setCell hbw3 (by simp only; omega) _) (by simp only; omega) _) (by simp only; omega) _) (by simp only; omega) _⟩
  clear hgive K4c F4c K7 F7 hown2 hbw2 K4d F4d hbw3 hown3 hown4 nn hb3
  go_wp2
  clear K7d F7d
  generalize (((w3.setCell ⟨B, 0, none⟩ (.int .i64 16)).setCell ⟨B, 1, none⟩ (.int .i64 112)).setCell ⟨B, 2, none⟩ (.slice a3 n3 c3)).setCell ⟨B, 3, none⟩ (.slice a4 12 c4) = w4 at *
  go_loopw [10, 11] (fun s10 s11 wr => ∃ (i : Nat) (z : Zn) (away : List Bk) (b1 b2 : Option Addr) (m1 d1 d2 : Nat) (aw : Option Addr) (na ca : Nat), i ≤ n ∧ i ≤ most ∧ s10 = .slice aw na ca ∧ s11 = .int .i64 (i : Int) ∧ Hid (ZS w wr B b1 b2 m1 12 d1 d2 z aw na ca away) ∧ Hid (ZInv 18 108 z away) ∧ Hid (z.f = 16 ∧ z.e = 112) ∧ Hid (away.length ≤ i) ∧ Hid (i = 0 → z = zone1 ∧ away = [])) (fun _ s11 _ => n - (intOf s11).toNat)
  case atStart => exact ⟨0, zone1, [], a3, a4, n3, c3, c4, none, 0, 0, Nat.zero_le _, Nat.zero_le _, rfl, rfl, HI, zinv1, by rw [zone1_is]; exact ⟨rfl, rfl⟩, Nat.le_refl _, fun _ => ⟨rfl, rfl⟩⟩
  case round =>
    obtain ⟨i, z, away, b1, b2, m1, d1, d2, aw, na, ca, hin, him, rfl, rfl, HZ, HV, HFE, HLE, HN⟩ := hrel
    clear HI
    have hHi := HZ.out.hi
    have hLo := HZ.out.lo
    have hla := own_flat_len encBk_length (by decide) HZ.out.oa
    have hna60 : na ≤ 60 := by have := HLE.out; omega
    by_cases hlt : i < n
    · by_cases hlm : i < most
      · have dm : decide ((i : Int) < most) = true := decide_eq_true (by omega)
        have dm2 : decide (i < most) = true := decide_eq_true (by omega)
        obtain ⟨rb, roff, hra, hrb, hrc⟩ := row_elem encRw_length (by decide) (HR.out.below HZ.out.bw) (show i < l.length by omega)
        obtain rfl := hra
        obtain ⟨hc0, hc1, hc2, hc3⟩ := encRw_cells hrc
        have hwfr := hwf _ (List.getElem_mem (show i < l.length by omega))
        obtain ⟨q1, q2, q3, q4⟩ := hwfr
        generalize l[i] = r at *
        clear hrc
        go_wp2_with fail
        have hbn := below_alloc wr (.cells #[.int .i64 r.k, .int .i64 r.a, .int .i64 r.b, .int .i64 r.c] 55)
        have HZ1 := Hid.mk (HZ.out.below hbn)
        have K12 := box_new wr #[.int .i64 r.k, .int .i64 r.a, .int .i64 r.b, .int .i64 r.c] 55
        have hG12 : wr.heap.size < (wr.alloc (.cells #[.int .i64 r.k, .int .i64 r.a, .int .i64 r.b, .int .i64 r.c] 55)).heap.size := by simp
        have k120 := K12 0
        have k121 := K12 1
        have k122 := K12 2
        simp only [List.getElem?_toArray, List.getElem?_cons_zero, List.getElem?_cons_succ] at k120 k121 k122
        clear hc0 hc1 hc2 hc3 hbn K12 hrb
        generalize wr.alloc (.cells #[.int .i64 r.k, .int .i64 r.a, .int .i64 r.b, .int .i64 r.c] 55) = wv at *
        generalize wr.heap.size = G12 at *
        refine (picked_any r.k 3 _ q1.1 q1.2 (by omega) (by omega)).mono ?_
        rintro ev _ ⟨rfl, rfl⟩
        dsimp only
        by_cases hk0 : pk r.k 3 = 0
        · rw [hk0]
          by_cases hna : 0 < na
          · have dna : (0 : Int) < na := by omega
            obtain ⟨k, hkn, hkp⟩ := pk_nat r.a na hna
            have hkl : k < away.length := by omega
            obtain ⟨g, off, eg, hgb, hcx⟩ := row_elem encBk_length (by decide) (own_row HZ1.out.oa) hkl
            obtain rfl := eg
            obtain ⟨x0, x1, x2⟩ := encBk_cells hcx
            have hxm : away[k] ∈ away := List.getElem_mem hkl
            have HFX := Hid.mk (HV.out.fits _ hxm)
            have HAX := Hid.mk (HV.out.apart _ hxm)
            have HVB := Hid.mk (HV.out.back hkl)
            generalize away[k] = x at *
            clear hcx hxm
            have hkn2 : (k : Int) < na := by omega
            go_wp2_with fail
            refine (picked_any r.a na _ q2.1 q2.2 (by omega) (by omega)).mono ?_
            rintro ev _ ⟨rfl, rfl⟩
            rw [hkp]
            dsimp only
            have k70 := HZ1.out.k7 0
            have k71 := HZ1.out.k7 1
            have k72 := HZ1.out.k7 2
            have k73 := HZ1.out.k7 3
            have hHi1 := HZ1.out.hi
            have hLo1 := HZ1.out.lo
            have hatv := (HZ1.out.own.at).below ((Below.refl _ _).drew)
            simp only [List.getElem?_toArray, List.getElem?_cons_zero, List.getElem?_cons_succ] at k70 k71 k72 k73
            go_wp2_with fail
            have hgne : g ≠ wv.heap.size := by omega
            have hBne : B ≠ wv.heap.size := by omega
            have hzok := HV.out.ok
            have hba := below_alloc wv (.cells #[.int .i64 0, .int .i64 0, .slice none 0 0, .slice none 0 0] 26)
            have hsa : wv.heap.size < (wv.alloc (.cells #[.int .i64 0, .int .i64 0, .slice none 0 0, .slice none 0 0] 26)).heap.size := by simp
            have hatw := (HZ1.out.own.at).below (Below.step hba ((Below.refl _ _).drew))
            go_region_held3 (fun w' => w'.cell? ⟨B, 0, none⟩ = some (.int .i64 (z.f : Int)) ∧ w'.cell? ⟨B, 1, none⟩ = some (.int .i64 (z.e : Int)) ∧ w'.cell? ⟨B, 2, none⟩ = some (.slice b1 m1 d1) ∧ w'.cell? ⟨B, 3, none⟩ = some (.slice b2 12 d2) ∧ w'.cell? ⟨g, off + k * 3, none⟩ = some (.int .i64 (x.a : Int)) ∧ w'.cell? ⟨g, off + k * 3 + 1, none⟩ = some (.int .i64 (x.o : Int))) (first | with_reducible exact ⟨k70, k71, k72, k73, x0, x1⟩ | with_reducible exact ⟨p0, p1, p2, p3, p4, p5⟩ | with_reducible exact ⟨set4_other p0 hBne, set4_other p1 hBne, set4_other p2 hBne, set4_other p3 hBne, set4_other p4 hgne, set4_other p5 hgne⟩ | go_keep) (first | (go_at_call 20; with_reducible refine (back_ok b1 b2 m1 12 d1 d2 z x.a x.o _ hatv hzok HFX.out HAX.out).mono ?_; rintro ev wk ⟨e1, e2, s1, t1, t2, rfl, hob, hbk⟩; have hbA := Below.step ((Below.refl wv.heap.size wv).drew) hbk; have p0 := (hbA.cell (p := ⟨B, 0, none⟩) hHi1).trans k70; have p1 := (hbA.cell (p := ⟨B, 1, none⟩) hHi1).trans k71; have p2 := (hbA.cell (p := ⟨B, 2, none⟩) hHi1).trans k72; have p3 := (hbA.cell (p := ⟨B, 3, none⟩) hHi1).trans k73; have p4 := (hbA.cell (p := ⟨g, off + k * 3, none⟩) hgb).trans x0; have p5 := (hbA.cell (p := ⟨g, off + k * 3 + 1, none⟩) hgb).trans x1; have hBk : B < wk.heap.size := Nat.lt_of_lt_of_le hHi1 hbA.size; have hgk : g < wk.heap.size := Nat.lt_of_lt_of_le hgb hbA.size) | (go_at_call 20; with_reducible refine (back_ok b1 b2 m1 12 d1 d2 z x.a x.o _ hatw hzok HFX.out HAX.out).mono ?_; rintro ev wk ⟨e1, e2, s1, t1, t2, rfl, hob, hbk⟩; have hbD := Below.step ((Below.refl _ _).drew) hbk; have hbB := Below.step hba hbD; have p0 := (hbB.cell (p := ⟨B, 0, none⟩) hHi1).trans k70; have p1 := (hbB.cell (p := ⟨B, 1, none⟩) hHi1).trans k71; have p2 := (hbB.cell (p := ⟨B, 2, none⟩) hHi1).trans k72; have p3 := (hbB.cell (p := ⟨B, 3, none⟩) hHi1).trans k73; have p4 := (hbB.cell (p := ⟨g, off + k * 3, none⟩) hgb).trans x0; have p5 := (hbB.cell (p := ⟨g, off + k * 3 + 1, none⟩) hgb).trans x1; have hBk : B < wk.heap.size := Nat.lt_of_lt_of_le hHi1 hbB.size; have hgk : g < wk.heap.size := Nat.lt_of_lt_of_le hgb hbB.size; have K14 := box_step (box_new wv #[.int .i64 0, .int .i64 0, .slice none 0 0, .slice none 0 0] 26) hsa hbD; have F14 := frz_step (box_frz wv #[.int .i64 0, .int .i64 0, .slice none 0 0, .slice none 0 0] 26) hsa hbD; have hGk := Nat.lt_of_lt_of_le hsa hbD.size))
            all_goals rename_i hHeld
            all_goals clear hHeld
            · have HZT : Hid (ZS w (wk.alloc (.cells #[.int .i64 (z.f : Int), .int .i64 (z.e : Int), .slice e1 s1 t1, .slice e2 12 t2] 26)) B b1 b2 m1 12 d1 d2 z (some ⟨g, off, none⟩) na ca away) := (HZ1.out.below hbA).below (below_alloc wk _)
              have K14 := box_new wk #[.int .i64 (z.f : Int), .int .i64 (z.e : Int), .slice e1 s1 t1, .slice e2 12 t2] 26
              have hGt : wk.heap.size < (wk.alloc (.cells #[.int .i64 (z.f : Int), .int .i64 (z.e : Int), .slice e1 s1 t1, .slice e2 12 t2] 26)).heap.size := by simp
              have hob2 : ZOwn (wk.alloc (.cells #[.int .i64 (z.f : Int), .int .i64 (z.e : Int), .slice e1 s1 t1, .slice e2 12 t2] 26)) wv.heap.size e1 e2 s1 12 t1 t2 (z.back x.a x.o) := ZOwn.below hob (below_alloc wk _)
              have hbs1 : B + 1 ≤ wv.heap.size := hHi1
              have hbs2 : ∀ k, (Value.slice (some ⟨g, off, none⟩) na ca).ownBlock = some k → k < wv.heap.size := fun k hk => (HZ1.out.oa.lt k hk).2
              clear p0 p1 p2 p3 p4 p5 hbA hbk hba hatw hatv HZ1 k70 k71 k72 k73 x0 x1 x2 hob hgk hBk
              generalize wk.heap.size = G at *
              generalize (wk.alloc (.cells #[.int .i64 (z.f : Int), .int .i64 (z.e : Int), .slice e1 s1 t1, .slice e2 12 t2] 26)) = wt at *
              -- the block is back; the zone is stored, the block is no longer away
              have u0 := K14 0
              have u1 := K14 1
              have u2 := K14 2
              have u3 := K14 3
              have v7 := HZT.out.k7
              have vf := HZT.out.f7
              have hHt := HZT.out.hi
              have HZ5 : Hid (ZS w ((((wt.setCell ⟨B, 0, none⟩ (.int .i64 z.f)).setCell ⟨B, 1, none⟩ (.int .i64 z.e)).setCell ⟨B, 2, none⟩ (.slice e1 s1 t1)).setCell ⟨B, 3, none⟩ (.slice e2 12 t2)) B e1 e2 s1 12 t1 t2 (z.back x.a x.o) (some ⟨g, off, none⟩) na ca away) := HZT.out.put hob2 hbs1 hbs2
              have v70 := v7 0
              have v71 := v7 1
              have v72 := v7 2
              have v73 := v7 3
              simp only [List.getElem?_toArray, List.getElem?_cons_zero, List.getElem?_cons_succ] at u0 u1 u2 u3 v70 v71 v72 v73
              clear K14 v7
              go_wp2_with fail
              clear HZT vf v70 v71 v72 v73 u0 u1 u2 u3 hob2
              generalize (((wt.setCell ⟨B, 0, none⟩ (.int .i64 z.f)).setCell ⟨B, 1, none⟩ (.int .i64 z.e)).setCell ⟨B, 2, none⟩ (.slice e1 s1 t1)).setCell ⟨B, 3, none⟩ (.slice e2 12 t2) = w7 at *
              have hhi7 := HZ5.out.hi
              refine (delete_bk (B + 1) _ _ _ away k _ HZ5.out.oa hkn (by omega) (by omega)).mono ?_
              rintro ev w8 ⟨rfl, hownd, hgd⟩
              have HZ6 := Hid.mk (HZ5.out.grown hgd hownd (fun k hk => .inl (by simpa [Value.ownBlock] using hk)))
              clear hownd hgd HZ5
              go_wp2
              go_roundw
              case rel => exact ⟨i + 1, z.back x.a x.o, away.eraseIdx k, e1, e2, s1, t1, t2, _, na - 1, ca, by omega, by omega, rfl, by go_num, HZ6, HVB.out, HFE.out, by unfold Hid; rw [List.length_eraseIdx_of_lt hkl]; have := HLE.out; omega, fun h => by omega⟩
              case measure => simp [intOf]; omega

            · have hnoG := HZ1.out.own.ne (g := wv.heap.size) (.inr (Nat.le_refl _))
              have hnoA := own_ne HZ1.out.oa (b := wv.heap.size) (.inr (Nat.le_refl _))
              have HZT : Hid (ZS w ((((wk.setCell ⟨wv.heap.size, 0, none⟩ (.int .i64 z.f)).setCell ⟨wv.heap.size, 1, none⟩ (.int .i64 z.e)).setCell ⟨wv.heap.size, 2, none⟩ (.slice e1 s1 t1)).setCell ⟨wv.heap.size, 3, none⟩ (.slice e2 12 t2)) B b1 b2 m1 12 d1 d2 z (some ⟨g, off, none⟩) na ca away) := ((((HZ1.out.below hbB).putFar hHi1 hnoG hnoA _ _).putFar hHi1 hnoG hnoA _ _).putFar hHi1 hnoG hnoA _ _).putFar hHi1 hnoG hnoA _ _
              have K14 : ∀ o, ((((wk.setCell ⟨wv.heap.size, 0, none⟩ (.int .i64 z.f)).setCell ⟨wv.heap.size, 1, none⟩ (.int .i64 z.e)).setCell ⟨wv.heap.size, 2, none⟩ (.slice e1 s1 t1)).setCell ⟨wv.heap.size, 3, none⟩ (.slice e2 12 t2)).cell? ⟨wv.heap.size, o, none⟩ = (#[.int .i64 (z.f : Int), .int .i64 (z.e : Int), .slice e1 s1 t1, .slice e2 12 t2] : Array Value)[o]? := box_set (box_set (box_set (box_set K14 0 _) 1 _) 2 _) 3 _
              have hGt : wv.heap.size < ((((wk.setCell ⟨wv.heap.size, 0, none⟩ (.int .i64 z.f)).setCell ⟨wv.heap.size, 1, none⟩ (.int .i64 z.e)).setCell ⟨wv.heap.size, 2, none⟩ (.slice e1 s1 t1)).setCell ⟨wv.heap.size, 3, none⟩ (.slice e2 12 t2)).heap.size := by simpa using hGk
              have hnb := ZOwn.ne hob (g := wv.heap.size) (.inl hsa)
              have hob2 : ZOwn ((((wk.setCell ⟨wv.heap.size, 0, none⟩ (.int .i64 z.f)).setCell ⟨wv.heap.size, 1, none⟩ (.int .i64 z.e)).setCell ⟨wv.heap.size, 2, none⟩ (.slice e1 s1 t1)).setCell ⟨wv.heap.size, 3, none⟩ (.slice e2 12 t2)) (wv.heap.size + 1) e1 e2 s1 12 t1 t2 (z.back x.a x.o) := ((((ZOwn.base hob (by simp)).set hnb _ _).set hnb _ _).set hnb _ _).set hnb _ _
              have hbs1 : B + 1 ≤ wv.heap.size + 1 := by omega
              have hbs2 : ∀ k, (Value.slice (some ⟨g, off, none⟩) na ca).ownBlock = some k → k < wv.heap.size + 1 := fun k hk => Nat.lt_succ_of_lt (HZ1.out.oa.lt k hk).2
              clear p0 p1 p2 p3 p4 p5 hbB hbD hbk hba hatw hatv HZ1 k70 k71 k72 k73 x0 x1 x2 hob hgk hBk F14 hnb hnoG hnoA hGk
              generalize ((((wk.setCell ⟨wv.heap.size, 0, none⟩ (.int .i64 z.f)).setCell ⟨wv.heap.size, 1, none⟩ (.int .i64 z.e)).setCell ⟨wv.heap.size, 2, none⟩ (.slice e1 s1 t1)).setCell ⟨wv.heap.size, 3, none⟩ (.slice e2 12 t2)) = wt at *
              generalize wv.heap.size = G at *
              -- the block is back; the zone is stored, the block is no longer away
              have u0 := K14 0
              have u1 := K14 1
              have u2 := K14 2
              have u3 := K14 3
              have v7 := HZT.out.k7
              have vf := HZT.out.f7
              have hHt := HZT.out.hi
              have HZ5 : Hid (ZS w ((((wt.setCell ⟨B, 0, none⟩ (.int .i64 z.f)).setCell ⟨B, 1, none⟩ (.int .i64 z.e)).setCell ⟨B, 2, none⟩ (.slice e1 s1 t1)).setCell ⟨B, 3, none⟩ (.slice e2 12 t2)) B e1 e2 s1 12 t1 t2 (z.back x.a x.o) (some ⟨g, off, none⟩) na ca away) := HZT.out.put hob2 hbs1 hbs2
              have v70 := v7 0
              have v71 := v7 1
              have v72 := v7 2
              have v73 := v7 3
              simp only [List.getElem?_toArray, List.getElem?_cons_zero, List.getElem?_cons_succ] at u0 u1 u2 u3 v70 v71 v72 v73
              clear K14 v7
              go_wp2_with fail
              clear HZT vf v70 v71 v72 v73 u0 u1 u2 u3 hob2
              generalize (((wt.setCell ⟨B, 0, none⟩ (.int .i64 z.f)).setCell ⟨B, 1, none⟩ (.int .i64 z.e)).setCell ⟨B, 2, none⟩ (.slice e1 s1 t1)).setCell ⟨B, 3, none⟩ (.slice e2 12 t2) = w7 at *
              have hhi7 := HZ5.out.hi
              refine (delete_bk (B + 1) _ _ _ away k _ HZ5.out.oa hkn (by omega) (by omega)).mono ?_
              rintro ev w8 ⟨rfl, hownd, hgd⟩
              have HZ6 := Hid.mk (HZ5.out.grown hgd hownd (fun k hk => .inl (by simpa [Value.ownBlock] using hk)))
              clear hownd hgd HZ5
              go_wp2
              go_roundw
              case rel => exact ⟨i + 1, z.back x.a x.o, away.eraseIdx k, e1, e2, s1, t1, t2, _, na - 1, ca, by omega, by omega, rfl, by go_num, HZ6, HVB.out, HFE.out, by unfold Hid; rw [List.length_eraseIdx_of_lt hkl]; have := HLE.out; omega, fun h => by omega⟩
              case measure => simp [intOf]; omega


          · have dna : decide ((0 : Int) < na) = false := decide_eq_false (by omega)
            have dna2 : decide (0 < na) = false := decide_eq_false (by omega)
            -- a block is asked for
            obtain ⟨o, ho5, hop'⟩ := pk_nat r.a 5 (by omega)
            obtain ⟨t, ht3, htp'⟩ := pk_nat r.b 3 (by omega)
            have hop : pk r.a 5 = (o : Int) := hop'
            have htp : pk r.b 3 = (t : Int) := htp'
            clear hop' htp'
            have hpick : ∀ W, Calls Tryd.prog 13 #[.int .i64 r.b, .int .i64 3] W fun ev w' => ev = .returned (.int .i64 (t : Int)) ∧ W = w' := fun W => by
              have := picked_any r.b 3 W q3.1 q3.2 (by omega) (by omega)
              rw [htp] at this
              exact this
            go_wp2_with fail
            refine (picked_any r.a 5 _ q2.1 q2.2 (by omega) (by omega)).mono ?_
            rintro ev _ ⟨rfl, rfl⟩
            rw [hop]
            dsimp only
            have k70 := HZ1.out.k7 0
            have k71 := HZ1.out.k7 1
            have k72 := HZ1.out.k7 2
            have k73 := HZ1.out.k7 3
            have hHi1 := HZ1.out.hi
            have hLo1 := HZ1.out.lo
            simp only [List.getElem?_toArray, List.getElem?_cons_zero, List.getElem?_cons_succ] at k70 k71 k72 k73
            go_wp2_with fail
            have hba := below_alloc wv (.cells #[.int .i64 0, .int .i64 0, .slice none 0 0, .slice none 0 0] 26)
            have hsa : wv.heap.size < (wv.alloc (.cells #[.int .i64 0, .int .i64 0, .slice none 0 0, .slice none 0 0] 26)).heap.size := by simp
            have hatv := (HZ1.out.own.at).below ((Below.refl _ _).drew)
            have hatw := (HZ1.out.own.at).below (Below.step hba ((Below.refl _ _).drew))
            have hotv := (HOT.out.mono HZ1.out.bw (Nat.le_refl _)).mono ((Below.refl wv.heap.size wv).drew) (Nat.le_refl _)
            have hotw := (HOT.out.mono HZ1.out.bw (Nat.le_refl _)).mono (Below.step hba ((Below.refl _ _).drew)) (Nat.le_refl _)
            have hgne : G12 ≠ wv.heap.size := by omega
            have hBne : B ≠ wv.heap.size := by omega
            have hzok := HV.out.ok
            cases htake : z.take o t with
            | none =>
              have hTk : ∀ W, ZAt W b1 b2 m1 12 z → Oth W → Calls Tryd.prog 14 #[.agg #[.int .i64 z.f, .int .i64 z.e, .slice b1 m1 d1, .slice b2 12 d2], .int .i64 o, .int .i64 t] W fun ev w' => ev = .returned (.tuple #[.agg #[.int .i64 0, .int .i64 0, .slice none 0 0, .slice none 0 0], .int .i64 0, .int .i64 6]) ∧ Below W.heap.size W w' := fun W h1 h2 =>
                (take_ok b1 b2 m1 12 d1 d2 z o t W h1 hzok (by omega) ht3 h2).mono fun ev w' h => by
                  rcases h with ⟨_, h1, h2⟩ | ⟨_, _, _, _, _, _, _, h, _⟩
                  · exact ⟨h1, h2⟩
                  · rw [htake] at h; cases h
              go_region_held3 (fun w' => w'.cell? ⟨B, 0, none⟩ = some (.int .i64 (z.f : Int)) ∧ w'.cell? ⟨B, 1, none⟩ = some (.int .i64 (z.e : Int)) ∧ w'.cell? ⟨B, 2, none⟩ = some (.slice b1 m1 d1) ∧ w'.cell? ⟨B, 3, none⟩ = some (.slice b2 12 d2) ∧ w'.cell? ⟨G12, 2, none⟩ = some (.int .i64 r.b)) (first | with_reducible exact ⟨k70, k71, k72, k73, k122⟩ | with_reducible exact ⟨p0, p1, p2, p3, p4⟩ | with_reducible exact ⟨set4_other p0 hBne, set4_other p1 hBne, set4_other p2 hBne, set4_other p3 hBne, set4_other p4 hgne⟩ | go_keep) (first | (go_at_call 13; refine (hpick _).mono ?_; rintro ev _ ⟨rfl, rfl⟩) | (go_at_call 14; with_reducible refine (hTk _ hatv hotv).mono ?_; rintro ev wk ⟨rfl, hbk⟩; have hbA := Below.step ((Below.refl wv.heap.size wv).drew) hbk; have p0 := (hbA.cell (p := ⟨B, 0, none⟩) hHi1).trans k70; have p1 := (hbA.cell (p := ⟨B, 1, none⟩) hHi1).trans k71; have p2 := (hbA.cell (p := ⟨B, 2, none⟩) hHi1).trans k72; have p3 := (hbA.cell (p := ⟨B, 3, none⟩) hHi1).trans k73; have p4 := (hbA.cell (p := ⟨G12, 2, none⟩) hG12).trans k122; have hBk : B < wk.heap.size := Nat.lt_of_lt_of_le hHi1 hbA.size; have hgk : G12 < wk.heap.size := Nat.lt_of_lt_of_le hG12 hbA.size) | (go_at_call 14; with_reducible refine (hTk _ hatw hotw).mono ?_; rintro ev wk ⟨rfl, hbk⟩; have hbD := Below.step ((Below.refl _ _).drew) hbk; have hbB := Below.step hba hbD; have p0 := (hbB.cell (p := ⟨B, 0, none⟩) hHi1).trans k70; have p1 := (hbB.cell (p := ⟨B, 1, none⟩) hHi1).trans k71; have p2 := (hbB.cell (p := ⟨B, 2, none⟩) hHi1).trans k72; have p3 := (hbB.cell (p := ⟨B, 3, none⟩) hHi1).trans k73; have p4 := (hbB.cell (p := ⟨G12, 2, none⟩) hG12).trans k122; have hBk : B < wk.heap.size := Nat.lt_of_lt_of_le hHi1 hbB.size; have hgk : G12 < wk.heap.size := Nat.lt_of_lt_of_le hG12 hbB.size; have K14 := box_step (box_new wv #[.int .i64 0, .int .i64 0, .slice none 0 0, .slice none 0 0] 26) hsa hbD; have F14 := frz_step (box_frz wv #[.int .i64 0, .int .i64 0, .slice none 0 0, .slice none 0 0] 26) hsa hbD; have hGk := Nat.lt_of_lt_of_le hsa hbD.size))
              all_goals rename_i hHeld
              all_goals clear hHeld
              · have HZT : Hid (ZS w (wk.alloc (.cells #[.int .i64 0, .int .i64 0, (.slice none 0 0), (.slice none 0 0)] 26)) B b1 b2 m1 12 d1 d2 z aw na ca away) := (HZ1.out.below hbA).below (below_alloc wk _)
                clear p0 p1 p2 p3 p4 hbA hbk hba hatw hatv hotv hotw HZ1 k70 k71 k72 k73 hgk hBk
                generalize wk.heap.size = G at *
                generalize (wk.alloc (.cells #[.int .i64 0, .int .i64 0, (.slice none 0 0), (.slice none 0 0)] 26)) = wt at *
                go_wp2
                go_roundw
                case rel => exact ⟨i + 1, z, away, b1, b2, m1, d1, d2, aw, na, ca, by omega, by omega, rfl, by go_num, HZT, HV, HFE, Nat.le_succ_of_le HLE.out, fun h => by omega⟩
                case measure => simp [intOf]; omega

              all_goals
                have hnoG := HZ1.out.own.ne (g := wv.heap.size) (.inr (Nat.le_refl _))
                have hnoA := own_ne HZ1.out.oa (b := wv.heap.size) (.inr (Nat.le_refl _))
                have HZT : Hid (ZS w ((((wk.setCell ⟨wv.heap.size, 0, none⟩ (.int .i64 0)).setCell ⟨wv.heap.size, 1, none⟩ (.int .i64 0)).setCell ⟨wv.heap.size, 2, none⟩ (.slice none 0 0)).setCell ⟨wv.heap.size, 3, none⟩ (.slice none 0 0)) B b1 b2 m1 12 d1 d2 z aw na ca away) := ((((HZ1.out.below hbB).putFar hHi1 hnoG hnoA _ _).putFar hHi1 hnoG hnoA _ _).putFar hHi1 hnoG hnoA _ _).putFar hHi1 hnoG hnoA _ _
                clear p0 p1 p2 p3 p4 hbB hbD hbk hba hatw hatv hotv hotw HZ1 k70 k71 k72 k73 hgk hBk K14 F14 hnoG hnoA hGk
                generalize ((((wk.setCell ⟨wv.heap.size, 0, none⟩ (.int .i64 0)).setCell ⟨wv.heap.size, 1, none⟩ (.int .i64 0)).setCell ⟨wv.heap.size, 2, none⟩ (.slice none 0 0)).setCell ⟨wv.heap.size, 3, none⟩ (.slice none 0 0)) = wt at *
                generalize wv.heap.size = G at *
                go_wp2
                go_roundw
                case rel => exact ⟨i + 1, z, away, b1, b2, m1, d1, d2, aw, na, ca, by omega, by omega, rfl, by go_num, HZT, HV, HFE, Nat.le_succ_of_le HLE.out, fun h => by omega⟩
                case measure => simp [intOf]; omega

            | some res =>
              obtain ⟨z', at_⟩ := res
              have hTk : ∀ W, ZAt W b1 b2 m1 12 z → Oth W → Calls Tryd.prog 14 #[.agg #[.int .i64 z.f, .int .i64 z.e, .slice b1 m1 d1, .slice b2 12 d2], .int .i64 o, .int .i64 t] W fun ev w' => ∃ e1 e2 s1 t1 t2, ev = .returned (.tuple #[.agg #[.int .i64 z.f, .int .i64 z.e, .slice e1 s1 t1, .slice e2 12 t2], .int .i64 at_, .int .i64 0]) ∧ ZOwn w' W.heap.size e1 e2 s1 12 t1 t2 z' ∧ Below W.heap.size W w' := fun W h1 h2 =>
                (take_ok b1 b2 m1 12 d1 d2 z o t W h1 hzok (by omega) ht3 h2).mono fun ev w' h => by
                  rcases h with ⟨h, _⟩ | ⟨z2, at2, e1, e2, s1, t1, t2, h, h3, h4, h5⟩
                  · rw [htake] at h; cases h
                  · rw [htake] at h
                    simp only [Option.some.injEq, Prod.mk.injEq] at h
                    obtain ⟨rfl, rfl⟩ := h
                    exact ⟨e1, e2, s1, t1, t2, h3, h4, h5⟩
              have HTAK : Hid (Taken z o z' at_) := by
                have hex : ∃ b ∈ z.l, o ≤ b.o := Classical.byContradiction fun h => by
                  have := Zn.take_none (t := t) h
                  rw [htake] at this; cases this
                obtain ⟨z2, at2, h1, h2⟩ := Zn.take_some hzok (t := t) (by omega) ht3 hex
                rw [htake] at h1
                simp only [Option.some.injEq, Prod.mk.injEq] at h1
                obtain ⟨rfl, rfl⟩ := h1
                exact h2
              have HVT := Hid.mk (HV.out.take HTAK.out 0)
              clear htake
              go_region_held3 (fun w' => w'.cell? ⟨B, 0, none⟩ = some (.int .i64 (z.f : Int)) ∧ w'.cell? ⟨B, 1, none⟩ = some (.int .i64 (z.e : Int)) ∧ w'.cell? ⟨B, 2, none⟩ = some (.slice b1 m1 d1) ∧ w'.cell? ⟨B, 3, none⟩ = some (.slice b2 12 d2) ∧ w'.cell? ⟨G12, 2, none⟩ = some (.int .i64 r.b)) (first | with_reducible exact ⟨k70, k71, k72, k73, k122⟩ | with_reducible exact ⟨p0, p1, p2, p3, p4⟩ | with_reducible exact ⟨set4_other p0 hBne, set4_other p1 hBne, set4_other p2 hBne, set4_other p3 hBne, set4_other p4 hgne⟩ | go_keep) (first | (go_at_call 13; refine (hpick _).mono ?_; rintro ev _ ⟨rfl, rfl⟩) | (go_at_call 14; with_reducible refine (hTk _ hatv hotv).mono ?_; rintro ev wk ⟨e1, e2, s1, t1, t2, rfl, hob, hbk⟩; have hbA := Below.step ((Below.refl wv.heap.size wv).drew) hbk; have p0 := (hbA.cell (p := ⟨B, 0, none⟩) hHi1).trans k70; have p1 := (hbA.cell (p := ⟨B, 1, none⟩) hHi1).trans k71; have p2 := (hbA.cell (p := ⟨B, 2, none⟩) hHi1).trans k72; have p3 := (hbA.cell (p := ⟨B, 3, none⟩) hHi1).trans k73; have p4 := (hbA.cell (p := ⟨G12, 2, none⟩) hG12).trans k122; have hBk : B < wk.heap.size := Nat.lt_of_lt_of_le hHi1 hbA.size; have hgk : G12 < wk.heap.size := Nat.lt_of_lt_of_le hG12 hbA.size) | (go_at_call 14; with_reducible refine (hTk _ hatw hotw).mono ?_; rintro ev wk ⟨e1, e2, s1, t1, t2, rfl, hob, hbk⟩; have hbD := Below.step ((Below.refl _ _).drew) hbk; have hbB := Below.step hba hbD; have p0 := (hbB.cell (p := ⟨B, 0, none⟩) hHi1).trans k70; have p1 := (hbB.cell (p := ⟨B, 1, none⟩) hHi1).trans k71; have p2 := (hbB.cell (p := ⟨B, 2, none⟩) hHi1).trans k72; have p3 := (hbB.cell (p := ⟨B, 3, none⟩) hHi1).trans k73; have p4 := (hbB.cell (p := ⟨G12, 2, none⟩) hG12).trans k122; have hBk : B < wk.heap.size := Nat.lt_of_lt_of_le hHi1 hbB.size; have hgk : G12 < wk.heap.size := Nat.lt_of_lt_of_le hG12 hbB.size; have K14 := box_step (box_new wv #[.int .i64 0, .int .i64 0, .slice none 0 0, .slice none 0 0] 26) hsa hbD; have F14 := frz_step (box_frz wv #[.int .i64 0, .int .i64 0, .slice none 0 0, .slice none 0 0] 26) hsa hbD; have hGk := Nat.lt_of_lt_of_le hsa hbD.size))
              all_goals rename_i hHeld
              all_goals clear hHeld
              · have HZT : Hid (ZS w (wk.alloc (.cells #[.int .i64 (z.f : Int), .int .i64 (z.e : Int), (.slice e1 s1 t1), (.slice e2 12 t2)] 26)) B b1 b2 m1 12 d1 d2 z aw na ca away) := (HZ1.out.below hbA).below (below_alloc wk _)
                have K14 := box_new wk #[.int .i64 (z.f : Int), .int .i64 (z.e : Int), .slice e1 s1 t1, .slice e2 12 t2] 26
                have hGt : wk.heap.size < (wk.alloc (.cells #[.int .i64 (z.f : Int), .int .i64 (z.e : Int), (.slice e1 s1 t1), (.slice e2 12 t2)] 26)).heap.size := by simp
                have hob2 : ZOwn (wk.alloc (.cells #[.int .i64 (z.f : Int), .int .i64 (z.e : Int), (.slice e1 s1 t1), (.slice e2 12 t2)] 26)) wv.heap.size e1 e2 s1 12 t1 t2 z' := ZOwn.below hob (below_alloc wk _)
                have hbs1 : B + 1 ≤ wv.heap.size := hHi1
                have hbs2 : ∀ k, (Value.slice aw na ca).ownBlock = some k → k < wv.heap.size := fun k hk => (HZ1.out.oa.lt k hk).2
                clear p0 p1 p2 p3 p4 hbA hbk hba hatw hatv hotv hotw HZ1 k70 k71 k72 k73 hob hgk hBk
                generalize wk.heap.size = G at *
                generalize (wk.alloc (.cells #[.int .i64 (z.f : Int), .int .i64 (z.e : Int), (.slice e1 s1 t1), (.slice e2 12 t2)] 26)) = wt at *
                have u0 := K14 0
                have u1 := K14 1
                have u2 := K14 2
                have u3 := K14 3
                have v7 := HZT.out.k7
                have vf := HZT.out.f7
                have hHt := HZT.out.hi
                have HZ5 : Hid (ZS w ((((wt.setCell ⟨B, 0, none⟩ (.int .i64 z.f)).setCell ⟨B, 1, none⟩ (.int .i64 z.e)).setCell ⟨B, 2, none⟩ (.slice e1 s1 t1)).setCell ⟨B, 3, none⟩ (.slice e2 12 t2)) B e1 e2 s1 12 t1 t2 z' aw na ca away) := by
                  have h5 := HZT.out.put hob2 hbs1 hbs2
                  rw [HTAK.out.f, HTAK.out.e] at h5
                  exact h5
                have v70 := v7 0
                have v71 := v7 1
                have v72 := v7 2
                have v73 := v7 3
                simp only [List.getElem?_toArray, List.getElem?_cons_zero, List.getElem?_cons_succ] at u0 u1 u2 u3 v70 v71 v72 v73
                clear K14 v7
                have hbn7 := below_alloc ((((wt.setCell ⟨B, 0, none⟩ (.int .i64 z.f)).setCell ⟨B, 1, none⟩ (.int .i64 z.e)).setCell ⟨B, 2, none⟩ (.slice e1 s1 t1)).setCell ⟨B, 3, none⟩ (.slice e2 12 t2)) (.cells #[.int .i64 (at_ : Int), .int .i64 (o : Int), .int .i64 0] 36)
                have HZ6 := Hid.mk (HZ5.out.below hbn7)
                have hnew := heap_alloc_new ((((wt.setCell ⟨B, 0, none⟩ (.int .i64 z.f)).setCell ⟨B, 1, none⟩ (.int .i64 z.e)).setCell ⟨B, 2, none⟩ (.slice e1 s1 t1)).setCell ⟨B, 3, none⟩ (.slice e2 12 t2)) (.cells #[.int .i64 (at_ : Int), .int .i64 (o : Int), .int .i64 0] 36)
                have hhi6 := HZ6.out.hi
                obtain ⟨ib, hib, hibz, hibs, hibb⟩ := info_parts info_bk
                have hsz5 : ((((wt.setCell ⟨B, 0, none⟩ (.int .i64 z.f)).setCell ⟨B, 1, none⟩ (.int .i64 z.e)).setCell ⟨B, 2, none⟩ (.slice e1 s1 t1)).setCell ⟨B, 3, none⟩ (.slice e2 12 t2)).heap.size = wt.heap.size := by simp only [World.size_setCell]
                rw [hsz5] at hnew
                have HNW := Hid.mk (World.news_of_block hnew)
                clear HZT hob2 hbn7 HZ5 hnew hsz5
                go_wp2_with (at_builtin; refine wpList_append_lies _ rfl _ _ 23 rfl (B + 1) 36 ib (.agg #[.int .i64 0, .int .i64 0, .int .i64 0]) 3 24 Tryd.underlying23 hib hibz hibs hibb rfl (by decide) (.slice aw na ca) na _ rfl HZ6.out.oa ⟨wt.heap.size, 0, none⟩ 1 1 (encBk ⟨at_, o, 0⟩) rfl rfl HNW.out (by simp [encBk, vI, Value.oneCell']) (by decide) (by unfold maxLen; omega) (by omega) (by omega) _ rfl ?_)
                intro g9 cap9 w9 hown9 hg9 hat9 hlt9
                rw [show flat encBk away ++ encBk ⟨at_, o, 0⟩ = flat encBk (away ++ [⟨at_, o, 0⟩]) from by rw [flat_append, flat_one]] at hown9
                have HZ7 := Hid.mk (HZ6.out.grown hg9 hown9 (fun k hk => by
                  have hk2 : g9 = k := by simpa [Value.ownBlock] using hk
                  rcases hat9 with h | h
                  · exact .inl (hk2 ▸ h)
                  · exact .inr (by rw [← hk2, h]; simp)))
                clear hown9 hg9 hat9 HZ6 HNW vf v70 v71 v72 v73 u0 u1 u2 u3
                go_wp2
                go_roundw
                case rel => exact ⟨i + 1, z', away ++ [⟨at_, o, 0⟩], e1, e2, s1, t1, t2, _, na + 1, cap9, by omega, by omega, rfl, by go_num, HZ7, HVT, ⟨HTAK.out.f.trans HFE.out.1, HTAK.out.e.trans HFE.out.2⟩, by unfold Hid; rw [List.length_append]; have := HLE.out; simp only [List.length_cons, List.length_nil]; omega, fun h => by omega⟩
                case measure => simp [intOf]; omega

              all_goals
                have hnoG := HZ1.out.own.ne (g := wv.heap.size) (.inr (Nat.le_refl _))
                have hnoA := own_ne HZ1.out.oa (b := wv.heap.size) (.inr (Nat.le_refl _))
                have HZT : Hid (ZS w ((((wk.setCell ⟨wv.heap.size, 0, none⟩ (.int .i64 (z.f : Int))).setCell ⟨wv.heap.size, 1, none⟩ (.int .i64 (z.e : Int))).setCell ⟨wv.heap.size, 2, none⟩ (.slice e1 s1 t1)).setCell ⟨wv.heap.size, 3, none⟩ (.slice e2 12 t2)) B b1 b2 m1 12 d1 d2 z aw na ca away) := ((((HZ1.out.below hbB).putFar hHi1 hnoG hnoA _ _).putFar hHi1 hnoG hnoA _ _).putFar hHi1 hnoG hnoA _ _).putFar hHi1 hnoG hnoA _ _
                have K14 : ∀ o, ((((wk.setCell ⟨wv.heap.size, 0, none⟩ (.int .i64 (z.f : Int))).setCell ⟨wv.heap.size, 1, none⟩ (.int .i64 (z.e : Int))).setCell ⟨wv.heap.size, 2, none⟩ (.slice e1 s1 t1)).setCell ⟨wv.heap.size, 3, none⟩ (.slice e2 12 t2)).cell? ⟨wv.heap.size, o, none⟩ = (#[.int .i64 (z.f : Int), .int .i64 (z.e : Int), .slice e1 s1 t1, .slice e2 12 t2] : Array Value)[o]? := box_set (box_set (box_set (box_set K14 0 _) 1 _) 2 _) 3 _
                have hGt : wv.heap.size < ((((wk.setCell ⟨wv.heap.size, 0, none⟩ (.int .i64 (z.f : Int))).setCell ⟨wv.heap.size, 1, none⟩ (.int .i64 (z.e : Int))).setCell ⟨wv.heap.size, 2, none⟩ (.slice e1 s1 t1)).setCell ⟨wv.heap.size, 3, none⟩ (.slice e2 12 t2)).heap.size := by simpa using hGk
                have hnb := ZOwn.ne hob (g := wv.heap.size) (.inl hsa)
                have hob2 : ZOwn ((((wk.setCell ⟨wv.heap.size, 0, none⟩ (.int .i64 (z.f : Int))).setCell ⟨wv.heap.size, 1, none⟩ (.int .i64 (z.e : Int))).setCell ⟨wv.heap.size, 2, none⟩ (.slice e1 s1 t1)).setCell ⟨wv.heap.size, 3, none⟩ (.slice e2 12 t2)) (wv.heap.size + 1) e1 e2 s1 12 t1 t2 z' := ((((ZOwn.base hob (by simp)).set hnb _ _).set hnb _ _).set hnb _ _).set hnb _ _
                have hbs1 : B + 1 ≤ wv.heap.size + 1 := by omega
                have hbs2 : ∀ k, (Value.slice aw na ca).ownBlock = some k → k < wv.heap.size + 1 := fun k hk => Nat.lt_succ_of_lt (HZ1.out.oa.lt k hk).2
                clear p0 p1 p2 p3 p4 hbB hbD hbk hba hatw hatv hotv hotw HZ1 k70 k71 k72 k73 hob hgk hBk F14 hnb hnoG hnoA hGk
                generalize ((((wk.setCell ⟨wv.heap.size, 0, none⟩ (.int .i64 (z.f : Int))).setCell ⟨wv.heap.size, 1, none⟩ (.int .i64 (z.e : Int))).setCell ⟨wv.heap.size, 2, none⟩ (.slice e1 s1 t1)).setCell ⟨wv.heap.size, 3, none⟩ (.slice e2 12 t2)) = wt at *
                generalize wv.heap.size = G at *
                have u0 := K14 0
                have u1 := K14 1
                have u2 := K14 2
                have u3 := K14 3
                have v7 := HZT.out.k7
                have vf := HZT.out.f7
                have hHt := HZT.out.hi
                have HZ5 : Hid (ZS w ((((wt.setCell ⟨B, 0, none⟩ (.int .i64 z.f)).setCell ⟨B, 1, none⟩ (.int .i64 z.e)).setCell ⟨B, 2, none⟩ (.slice e1 s1 t1)).setCell ⟨B, 3, none⟩ (.slice e2 12 t2)) B e1 e2 s1 12 t1 t2 z' aw na ca away) := by
                  have h5 := HZT.out.put hob2 hbs1 hbs2
                  rw [HTAK.out.f, HTAK.out.e] at h5
                  exact h5
                have v70 := v7 0
                have v71 := v7 1
                have v72 := v7 2
                have v73 := v7 3
                simp only [List.getElem?_toArray, List.getElem?_cons_zero, List.getElem?_cons_succ] at u0 u1 u2 u3 v70 v71 v72 v73
                clear K14 v7
                have hbn7 := below_alloc ((((wt.setCell ⟨B, 0, none⟩ (.int .i64 z.f)).setCell ⟨B, 1, none⟩ (.int .i64 z.e)).setCell ⟨B, 2, none⟩ (.slice e1 s1 t1)).setCell ⟨B, 3, none⟩ (.slice e2 12 t2)) (.cells #[.int .i64 (at_ : Int), .int .i64 (o : Int), .int .i64 0] 36)
                have HZ6 := Hid.mk (HZ5.out.below hbn7)
                have hnew := heap_alloc_new ((((wt.setCell ⟨B, 0, none⟩ (.int .i64 z.f)).setCell ⟨B, 1, none⟩ (.int .i64 z.e)).setCell ⟨B, 2, none⟩ (.slice e1 s1 t1)).setCell ⟨B, 3, none⟩ (.slice e2 12 t2)) (.cells #[.int .i64 (at_ : Int), .int .i64 (o : Int), .int .i64 0] 36)
                have hhi6 := HZ6.out.hi
                obtain ⟨ib, hib, hibz, hibs, hibb⟩ := info_parts info_bk
                have hsz5 : ((((wt.setCell ⟨B, 0, none⟩ (.int .i64 z.f)).setCell ⟨B, 1, none⟩ (.int .i64 z.e)).setCell ⟨B, 2, none⟩ (.slice e1 s1 t1)).setCell ⟨B, 3, none⟩ (.slice e2 12 t2)).heap.size = wt.heap.size := by simp only [World.size_setCell]
                rw [hsz5] at hnew
                have HNW := Hid.mk (World.news_of_block hnew)
                clear HZT hob2 hbn7 HZ5 hnew hsz5
                go_wp2_with (at_builtin; refine wpList_append_lies _ rfl _ _ 23 rfl (B + 1) 36 ib (.agg #[.int .i64 0, .int .i64 0, .int .i64 0]) 3 24 Tryd.underlying23 hib hibz hibs hibb rfl (by decide) (.slice aw na ca) na _ rfl HZ6.out.oa ⟨wt.heap.size, 0, none⟩ 1 1 (encBk ⟨at_, o, 0⟩) rfl rfl HNW.out (by simp [encBk, vI, Value.oneCell']) (by decide) (by unfold maxLen; omega) (by omega) (by omega) _ rfl ?_)
                intro g9 cap9 w9 hown9 hg9 hat9 hlt9
                rw [show flat encBk away ++ encBk ⟨at_, o, 0⟩ = flat encBk (away ++ [⟨at_, o, 0⟩]) from by rw [flat_append, flat_one]] at hown9
                have HZ7 := Hid.mk (HZ6.out.grown hg9 hown9 (fun k hk => by
                  have hk2 : g9 = k := by simpa [Value.ownBlock] using hk
                  rcases hat9 with h | h
                  · exact .inl (hk2 ▸ h)
                  · exact .inr (by rw [← hk2, h]; simp)))
                clear hown9 hg9 hat9 HZ6 HNW vf v70 v71 v72 v73 u0 u1 u2 u3
                go_wp2
                go_roundw
                case rel => exact ⟨i + 1, z', away ++ [⟨at_, o, 0⟩], e1, e2, s1, t1, t2, _, na + 1, cap9, by omega, by omega, rfl, by go_num, HZ7, HVT, ⟨HTAK.out.f.trans HFE.out.1, HTAK.out.e.trans HFE.out.2⟩, by unfold Hid; rw [List.length_append]; have := HLE.out; simp only [List.length_cons, List.length_nil]; omega, fun h => by omega⟩
                case measure => simp [intOf]; omega


        · have hk02 : (pk r.k 3 == 0) = false := by rw [beq_eq_false_iff_ne]; exact hk0
          -- a block is asked for
          obtain ⟨o, ho5, hop'⟩ := pk_nat r.a 5 (by omega)
          obtain ⟨t, ht3, htp'⟩ := pk_nat r.b 3 (by omega)
          have hop : pk r.a 5 = (o : Int) := hop'
          have htp : pk r.b 3 = (t : Int) := htp'
          clear hop' htp'
          have hpick : ∀ W, Calls Tryd.prog 13 #[.int .i64 r.b, .int .i64 3] W fun ev w' => ev = .returned (.int .i64 (t : Int)) ∧ W = w' := fun W => by
            have := picked_any r.b 3 W q3.1 q3.2 (by omega) (by omega)
            rw [htp] at this
            exact this
          go_wp2_with fail
          refine (picked_any r.a 5 _ q2.1 q2.2 (by omega) (by omega)).mono ?_
          rintro ev _ ⟨rfl, rfl⟩
          rw [hop]
          dsimp only
          have k70 := HZ1.out.k7 0
          have k71 := HZ1.out.k7 1
          have k72 := HZ1.out.k7 2
          have k73 := HZ1.out.k7 3
          have hHi1 := HZ1.out.hi
          have hLo1 := HZ1.out.lo
          simp only [List.getElem?_toArray, List.getElem?_cons_zero, List.getElem?_cons_succ] at k70 k71 k72 k73
          go_wp2_with fail
          have hba := below_alloc wv (.cells #[.int .i64 0, .int .i64 0, .slice none 0 0, .slice none 0 0] 26)
          have hsa : wv.heap.size < (wv.alloc (.cells #[.int .i64 0, .int .i64 0, .slice none 0 0, .slice none 0 0] 26)).heap.size := by simp
          have hatv := (HZ1.out.own.at).below ((Below.refl _ _).drew)
          have hatw := (HZ1.out.own.at).below (Below.step hba ((Below.refl _ _).drew))
          have hotv := (HOT.out.mono HZ1.out.bw (Nat.le_refl _)).mono ((Below.refl wv.heap.size wv).drew) (Nat.le_refl _)
          have hotw := (HOT.out.mono HZ1.out.bw (Nat.le_refl _)).mono (Below.step hba ((Below.refl _ _).drew)) (Nat.le_refl _)
          have hgne : G12 ≠ wv.heap.size := by omega
          have hBne : B ≠ wv.heap.size := by omega
          have hzok := HV.out.ok
          cases htake : z.take o t with
          | none =>
            have hTk : ∀ W, ZAt W b1 b2 m1 12 z → Oth W → Calls Tryd.prog 14 #[.agg #[.int .i64 z.f, .int .i64 z.e, .slice b1 m1 d1, .slice b2 12 d2], .int .i64 o, .int .i64 t] W fun ev w' => ev = .returned (.tuple #[.agg #[.int .i64 0, .int .i64 0, .slice none 0 0, .slice none 0 0], .int .i64 0, .int .i64 6]) ∧ Below W.heap.size W w' := fun W h1 h2 =>
              (take_ok b1 b2 m1 12 d1 d2 z o t W h1 hzok (by omega) ht3 h2).mono fun ev w' h => by
                rcases h with ⟨_, h1, h2⟩ | ⟨_, _, _, _, _, _, _, h, _⟩
                · exact ⟨h1, h2⟩
                · rw [htake] at h; cases h
            go_region_held3 (fun w' => w'.cell? ⟨B, 0, none⟩ = some (.int .i64 (z.f : Int)) ∧ w'.cell? ⟨B, 1, none⟩ = some (.int .i64 (z.e : Int)) ∧ w'.cell? ⟨B, 2, none⟩ = some (.slice b1 m1 d1) ∧ w'.cell? ⟨B, 3, none⟩ = some (.slice b2 12 d2) ∧ w'.cell? ⟨G12, 2, none⟩ = some (.int .i64 r.b)) (first | with_reducible exact ⟨k70, k71, k72, k73, k122⟩ | with_reducible exact ⟨p0, p1, p2, p3, p4⟩ | with_reducible exact ⟨set4_other p0 hBne, set4_other p1 hBne, set4_other p2 hBne, set4_other p3 hBne, set4_other p4 hgne⟩ | go_keep) (first | (go_at_call 13; refine (hpick _).mono ?_; rintro ev _ ⟨rfl, rfl⟩) | (go_at_call 14; with_reducible refine (hTk _ hatv hotv).mono ?_; rintro ev wk ⟨rfl, hbk⟩; have hbA := Below.step ((Below.refl wv.heap.size wv).drew) hbk; have p0 := (hbA.cell (p := ⟨B, 0, none⟩) hHi1).trans k70; have p1 := (hbA.cell (p := ⟨B, 1, none⟩) hHi1).trans k71; have p2 := (hbA.cell (p := ⟨B, 2, none⟩) hHi1).trans k72; have p3 := (hbA.cell (p := ⟨B, 3, none⟩) hHi1).trans k73; have p4 := (hbA.cell (p := ⟨G12, 2, none⟩) hG12).trans k122; have hBk : B < wk.heap.size := Nat.lt_of_lt_of_le hHi1 hbA.size; have hgk : G12 < wk.heap.size := Nat.lt_of_lt_of_le hG12 hbA.size) | (go_at_call 14; with_reducible refine (hTk _ hatw hotw).mono ?_; rintro ev wk ⟨rfl, hbk⟩; have hbD := Below.step ((Below.refl _ _).drew) hbk; have hbB := Below.step hba hbD; have p0 := (hbB.cell (p := ⟨B, 0, none⟩) hHi1).trans k70; have p1 := (hbB.cell (p := ⟨B, 1, none⟩) hHi1).trans k71; have p2 := (hbB.cell (p := ⟨B, 2, none⟩) hHi1).trans k72; have p3 := (hbB.cell (p := ⟨B, 3, none⟩) hHi1).trans k73; have p4 := (hbB.cell (p := ⟨G12, 2, none⟩) hG12).trans k122; have hBk : B < wk.heap.size := Nat.lt_of_lt_of_le hHi1 hbB.size; have hgk : G12 < wk.heap.size := Nat.lt_of_lt_of_le hG12 hbB.size; have K14 := box_step (box_new wv #[.int .i64 0, .int .i64 0, .slice none 0 0, .slice none 0 0] 26) hsa hbD; have F14 := frz_step (box_frz wv #[.int .i64 0, .int .i64 0, .slice none 0 0, .slice none 0 0] 26) hsa hbD; have hGk := Nat.lt_of_lt_of_le hsa hbD.size))
            all_goals rename_i hHeld
            all_goals clear hHeld
            · have HZT : Hid (ZS w (wk.alloc (.cells #[.int .i64 0, .int .i64 0, (.slice none 0 0), (.slice none 0 0)] 26)) B b1 b2 m1 12 d1 d2 z aw na ca away) := (HZ1.out.below hbA).below (below_alloc wk _)
              clear p0 p1 p2 p3 p4 hbA hbk hba hatw hatv hotv hotw HZ1 k70 k71 k72 k73 hgk hBk
              generalize wk.heap.size = G at *
              generalize (wk.alloc (.cells #[.int .i64 0, .int .i64 0, (.slice none 0 0), (.slice none 0 0)] 26)) = wt at *
              go_wp2
              go_roundw
              case rel => exact ⟨i + 1, z, away, b1, b2, m1, d1, d2, aw, na, ca, by omega, by omega, rfl, by go_num, HZT, HV, HFE, Nat.le_succ_of_le HLE.out, fun h => by omega⟩
              case measure => simp [intOf]; omega

            all_goals
              have hnoG := HZ1.out.own.ne (g := wv.heap.size) (.inr (Nat.le_refl _))
              have hnoA := own_ne HZ1.out.oa (b := wv.heap.size) (.inr (Nat.le_refl _))
              have HZT : Hid (ZS w ((((wk.setCell ⟨wv.heap.size, 0, none⟩ (.int .i64 0)).setCell ⟨wv.heap.size, 1, none⟩ (.int .i64 0)).setCell ⟨wv.heap.size, 2, none⟩ (.slice none 0 0)).setCell ⟨wv.heap.size, 3, none⟩ (.slice none 0 0)) B b1 b2 m1 12 d1 d2 z aw na ca away) := ((((HZ1.out.below hbB).putFar hHi1 hnoG hnoA _ _).putFar hHi1 hnoG hnoA _ _).putFar hHi1 hnoG hnoA _ _).putFar hHi1 hnoG hnoA _ _
              clear p0 p1 p2 p3 p4 hbB hbD hbk hba hatw hatv hotv hotw HZ1 k70 k71 k72 k73 hgk hBk K14 F14 hnoG hnoA hGk
              generalize ((((wk.setCell ⟨wv.heap.size, 0, none⟩ (.int .i64 0)).setCell ⟨wv.heap.size, 1, none⟩ (.int .i64 0)).setCell ⟨wv.heap.size, 2, none⟩ (.slice none 0 0)).setCell ⟨wv.heap.size, 3, none⟩ (.slice none 0 0)) = wt at *
              generalize wv.heap.size = G at *
              go_wp2
              go_roundw
              case rel => exact ⟨i + 1, z, away, b1, b2, m1, d1, d2, aw, na, ca, by omega, by omega, rfl, by go_num, HZT, HV, HFE, Nat.le_succ_of_le HLE.out, fun h => by omega⟩
              case measure => simp [intOf]; omega

          | some res =>
            obtain ⟨z', at_⟩ := res
            have hTk : ∀ W, ZAt W b1 b2 m1 12 z → Oth W → Calls Tryd.prog 14 #[.agg #[.int .i64 z.f, .int .i64 z.e, .slice b1 m1 d1, .slice b2 12 d2], .int .i64 o, .int .i64 t] W fun ev w' => ∃ e1 e2 s1 t1 t2, ev = .returned (.tuple #[.agg #[.int .i64 z.f, .int .i64 z.e, .slice e1 s1 t1, .slice e2 12 t2], .int .i64 at_, .int .i64 0]) ∧ ZOwn w' W.heap.size e1 e2 s1 12 t1 t2 z' ∧ Below W.heap.size W w' := fun W h1 h2 =>
              (take_ok b1 b2 m1 12 d1 d2 z o t W h1 hzok (by omega) ht3 h2).mono fun ev w' h => by
                rcases h with ⟨h, _⟩ | ⟨z2, at2, e1, e2, s1, t1, t2, h, h3, h4, h5⟩
                · rw [htake] at h; cases h
                · rw [htake] at h
                  simp only [Option.some.injEq, Prod.mk.injEq] at h
                  obtain ⟨rfl, rfl⟩ := h
                  exact ⟨e1, e2, s1, t1, t2, h3, h4, h5⟩
            have HTAK : Hid (Taken z o z' at_) := by
              have hex : ∃ b ∈ z.l, o ≤ b.o := Classical.byContradiction fun h => by
                have := Zn.take_none (t := t) h
                rw [htake] at this; cases this
              obtain ⟨z2, at2, h1, h2⟩ := Zn.take_some hzok (t := t) (by omega) ht3 hex
              rw [htake] at h1
              simp only [Option.some.injEq, Prod.mk.injEq] at h1
              obtain ⟨rfl, rfl⟩ := h1
              exact h2
            have HVT := Hid.mk (HV.out.take HTAK.out 0)
            clear htake
            go_region_held3 (fun w' => w'.cell? ⟨B, 0, none⟩ = some (.int .i64 (z.f : Int)) ∧ w'.cell? ⟨B, 1, none⟩ = some (.int .i64 (z.e : Int)) ∧ w'.cell? ⟨B, 2, none⟩ = some (.slice b1 m1 d1) ∧ w'.cell? ⟨B, 3, none⟩ = some (.slice b2 12 d2) ∧ w'.cell? ⟨G12, 2, none⟩ = some (.int .i64 r.b)) (first | with_reducible exact ⟨k70, k71, k72, k73, k122⟩ | with_reducible exact ⟨p0, p1, p2, p3, p4⟩ | with_reducible exact ⟨set4_other p0 hBne, set4_other p1 hBne, set4_other p2 hBne, set4_other p3 hBne, set4_other p4 hgne⟩ | go_keep) (first | (go_at_call 13; refine (hpick _).mono ?_; rintro ev _ ⟨rfl, rfl⟩) | (go_at_call 14; with_reducible refine (hTk _ hatv hotv).mono ?_; rintro ev wk ⟨e1, e2, s1, t1, t2, rfl, hob, hbk⟩; have hbA := Below.step ((Below.refl wv.heap.size wv).drew) hbk; have p0 := (hbA.cell (p := ⟨B, 0, none⟩) hHi1).trans k70; have p1 := (hbA.cell (p := ⟨B, 1, none⟩) hHi1).trans k71; have p2 := (hbA.cell (p := ⟨B, 2, none⟩) hHi1).trans k72; have p3 := (hbA.cell (p := ⟨B, 3, none⟩) hHi1).trans k73; have p4 := (hbA.cell (p := ⟨G12, 2, none⟩) hG12).trans k122; have hBk : B < wk.heap.size := Nat.lt_of_lt_of_le hHi1 hbA.size; have hgk : G12 < wk.heap.size := Nat.lt_of_lt_of_le hG12 hbA.size) | (go_at_call 14; with_reducible refine (hTk _ hatw hotw).mono ?_; rintro ev wk ⟨e1, e2, s1, t1, t2, rfl, hob, hbk⟩; have hbD := Below.step ((Below.refl _ _).drew) hbk; have hbB := Below.step hba hbD; have p0 := (hbB.cell (p := ⟨B, 0, none⟩) hHi1).trans k70; have p1 := (hbB.cell (p := ⟨B, 1, none⟩) hHi1).trans k71; have p2 := (hbB.cell (p := ⟨B, 2, none⟩) hHi1).trans k72; have p3 := (hbB.cell (p := ⟨B, 3, none⟩) hHi1).trans k73; have p4 := (hbB.cell (p := ⟨G12, 2, none⟩) hG12).trans k122; have hBk : B < wk.heap.size := Nat.lt_of_lt_of_le hHi1 hbB.size; have hgk : G12 < wk.heap.size := Nat.lt_of_lt_of_le hG12 hbB.size; have K14 := box_step (box_new wv #[.int .i64 0, .int .i64 0, .slice none 0 0, .slice none 0 0] 26) hsa hbD; have F14 := frz_step (box_frz wv #[.int .i64 0, .int .i64 0, .slice none 0 0, .slice none 0 0] 26) hsa hbD; have hGk := Nat.lt_of_lt_of_le hsa hbD.size))
            all_goals rename_i hHeld
            all_goals clear hHeld
            · have HZT : Hid (ZS w (wk.alloc (.cells #[.int .i64 (z.f : Int), .int .i64 (z.e : Int), (.slice e1 s1 t1), (.slice e2 12 t2)] 26)) B b1 b2 m1 12 d1 d2 z aw na ca away) := (HZ1.out.below hbA).below (below_alloc wk _)
              have K14 := box_new wk #[.int .i64 (z.f : Int), .int .i64 (z.e : Int), .slice e1 s1 t1, .slice e2 12 t2] 26
              have hGt : wk.heap.size < (wk.alloc (.cells #[.int .i64 (z.f : Int), .int .i64 (z.e : Int), (.slice e1 s1 t1), (.slice e2 12 t2)] 26)).heap.size := by simp
              have hob2 : ZOwn (wk.alloc (.cells #[.int .i64 (z.f : Int), .int .i64 (z.e : Int), (.slice e1 s1 t1), (.slice e2 12 t2)] 26)) wv.heap.size e1 e2 s1 12 t1 t2 z' := ZOwn.below hob (below_alloc wk _)
              have hbs1 : B + 1 ≤ wv.heap.size := hHi1
              have hbs2 : ∀ k, (Value.slice aw na ca).ownBlock = some k → k < wv.heap.size := fun k hk => (HZ1.out.oa.lt k hk).2
              clear p0 p1 p2 p3 p4 hbA hbk hba hatw hatv hotv hotw HZ1 k70 k71 k72 k73 hob hgk hBk
              generalize wk.heap.size = G at *
              generalize (wk.alloc (.cells #[.int .i64 (z.f : Int), .int .i64 (z.e : Int), (.slice e1 s1 t1), (.slice e2 12 t2)] 26)) = wt at *
              have u0 := K14 0
              have u1 := K14 1
              have u2 := K14 2
              have u3 := K14 3
              have v7 := HZT.out.k7
              have vf := HZT.out.f7
              have hHt := HZT.out.hi
              have HZ5 : Hid (ZS w ((((wt.setCell ⟨B, 0, none⟩ (.int .i64 z.f)).setCell ⟨B, 1, none⟩ (.int .i64 z.e)).setCell ⟨B, 2, none⟩ (.slice e1 s1 t1)).setCell ⟨B, 3, none⟩ (.slice e2 12 t2)) B e1 e2 s1 12 t1 t2 z' aw na ca away) := by
                have h5 := HZT.out.put hob2 hbs1 hbs2
                rw [HTAK.out.f, HTAK.out.e] at h5
                exact h5
              have v70 := v7 0
              have v71 := v7 1
              have v72 := v7 2
              have v73 := v7 3
              simp only [List.getElem?_toArray, List.getElem?_cons_zero, List.getElem?_cons_succ] at u0 u1 u2 u3 v70 v71 v72 v73
              clear K14 v7
              have hbn7 := below_alloc ((((wt.setCell ⟨B, 0, none⟩ (.int .i64 z.f)).setCell ⟨B, 1, none⟩ (.int .i64 z.e)).setCell ⟨B, 2, none⟩ (.slice e1 s1 t1)).setCell ⟨B, 3, none⟩ (.slice e2 12 t2)) (.cells #[.int .i64 (at_ : Int), .int .i64 (o : Int), .int .i64 0] 36)
              have HZ6 := Hid.mk (HZ5.out.below hbn7)
              have hnew := heap_alloc_new ((((wt.setCell ⟨B, 0, none⟩ (.int .i64 z.f)).setCell ⟨B, 1, none⟩ (.int .i64 z.e)).setCell ⟨B, 2, none⟩ (.slice e1 s1 t1)).setCell ⟨B, 3, none⟩ (.slice e2 12 t2)) (.cells #[.int .i64 (at_ : Int), .int .i64 (o : Int), .int .i64 0] 36)
              have hhi6 := HZ6.out.hi
              obtain ⟨ib, hib, hibz, hibs, hibb⟩ := info_parts info_bk
              have hsz5 : ((((wt.setCell ⟨B, 0, none⟩ (.int .i64 z.f)).setCell ⟨B, 1, none⟩ (.int .i64 z.e)).setCell ⟨B, 2, none⟩ (.slice e1 s1 t1)).setCell ⟨B, 3, none⟩ (.slice e2 12 t2)).heap.size = wt.heap.size := by simp only [World.size_setCell]
              rw [hsz5] at hnew
              have HNW := Hid.mk (World.news_of_block hnew)
              clear HZT hob2 hbn7 HZ5 hnew hsz5
              go_wp2_with (at_builtin; refine wpList_append_lies _ rfl _ _ 23 rfl (B + 1) 36 ib (.agg #[.int .i64 0, .int .i64 0, .int .i64 0]) 3 24 Tryd.underlying23 hib hibz hibs hibb rfl (by decide) (.slice aw na ca) na _ rfl HZ6.out.oa ⟨wt.heap.size, 0, none⟩ 1 1 (encBk ⟨at_, o, 0⟩) rfl rfl HNW.out (by simp [encBk, vI, Value.oneCell']) (by decide) (by unfold maxLen; omega) (by omega) (by omega) _ rfl ?_)
              intro g9 cap9 w9 hown9 hg9 hat9 hlt9
              rw [show flat encBk away ++ encBk ⟨at_, o, 0⟩ = flat encBk (away ++ [⟨at_, o, 0⟩]) from by rw [flat_append, flat_one]] at hown9
              have HZ7 := Hid.mk (HZ6.out.grown hg9 hown9 (fun k hk => by
                have hk2 : g9 = k := by simpa [Value.ownBlock] using hk
                rcases hat9 with h | h
                · exact .inl (hk2 ▸ h)
                · exact .inr (by rw [← hk2, h]; simp)))
              clear hown9 hg9 hat9 HZ6 HNW vf v70 v71 v72 v73 u0 u1 u2 u3
              go_wp2
              go_roundw
              case rel => exact ⟨i + 1, z', away ++ [⟨at_, o, 0⟩], e1, e2, s1, t1, t2, _, na + 1, cap9, by omega, by omega, rfl, by go_num, HZ7, HVT, ⟨HTAK.out.f.trans HFE.out.1, HTAK.out.e.trans HFE.out.2⟩, by unfold Hid; rw [List.length_append]; have := HLE.out; simp only [List.length_cons, List.length_nil]; omega, fun h => by omega⟩
              case measure => simp [intOf]; omega

            all_goals
              have hnoG := HZ1.out.own.ne (g := wv.heap.size) (.inr (Nat.le_refl _))
              have hnoA := own_ne HZ1.out.oa (b := wv.heap.size) (.inr (Nat.le_refl _))
              have HZT : Hid (ZS w ((((wk.setCell ⟨wv.heap.size, 0, none⟩ (.int .i64 (z.f : Int))).setCell ⟨wv.heap.size, 1, none⟩ (.int .i64 (z.e : Int))).setCell ⟨wv.heap.size, 2, none⟩ (.slice e1 s1 t1)).setCell ⟨wv.heap.size, 3, none⟩ (.slice e2 12 t2)) B b1 b2 m1 12 d1 d2 z aw na ca away) := ((((HZ1.out.below hbB).putFar hHi1 hnoG hnoA _ _).putFar hHi1 hnoG hnoA _ _).putFar hHi1 hnoG hnoA _ _).putFar hHi1 hnoG hnoA _ _
              have K14 : ∀ o, ((((wk.setCell ⟨wv.heap.size, 0, none⟩ (.int .i64 (z.f : Int))).setCell ⟨wv.heap.size, 1, none⟩ (.int .i64 (z.e : Int))).setCell ⟨wv.heap.size, 2, none⟩ (.slice e1 s1 t1)).setCell ⟨wv.heap.size, 3, none⟩ (.slice e2 12 t2)).cell? ⟨wv.heap.size, o, none⟩ = (#[.int .i64 (z.f : Int), .int .i64 (z.e : Int), .slice e1 s1 t1, .slice e2 12 t2] : Array Value)[o]? := box_set (box_set (box_set (box_set K14 0 _) 1 _) 2 _) 3 _
              have hGt : wv.heap.size < ((((wk.setCell ⟨wv.heap.size, 0, none⟩ (.int .i64 (z.f : Int))).setCell ⟨wv.heap.size, 1, none⟩ (.int .i64 (z.e : Int))).setCell ⟨wv.heap.size, 2, none⟩ (.slice e1 s1 t1)).setCell ⟨wv.heap.size, 3, none⟩ (.slice e2 12 t2)).heap.size := by simpa using hGk
              have hnb := ZOwn.ne hob (g := wv.heap.size) (.inl hsa)
              have hob2 : ZOwn ((((wk.setCell ⟨wv.heap.size, 0, none⟩ (.int .i64 (z.f : Int))).setCell ⟨wv.heap.size, 1, none⟩ (.int .i64 (z.e : Int))).setCell ⟨wv.heap.size, 2, none⟩ (.slice e1 s1 t1)).setCell ⟨wv.heap.size, 3, none⟩ (.slice e2 12 t2)) (wv.heap.size + 1) e1 e2 s1 12 t1 t2 z' := ((((ZOwn.base hob (by simp)).set hnb _ _).set hnb _ _).set hnb _ _).set hnb _ _
              have hbs1 : B + 1 ≤ wv.heap.size + 1 := by omega
              have hbs2 : ∀ k, (Value.slice aw na ca).ownBlock = some k → k < wv.heap.size + 1 := fun k hk => Nat.lt_succ_of_lt (HZ1.out.oa.lt k hk).2
              clear p0 p1 p2 p3 p4 hbB hbD hbk hba hatw hatv hotv hotw HZ1 k70 k71 k72 k73 hob hgk hBk F14 hnb hnoG hnoA hGk
              generalize ((((wk.setCell ⟨wv.heap.size, 0, none⟩ (.int .i64 (z.f : Int))).setCell ⟨wv.heap.size, 1, none⟩ (.int .i64 (z.e : Int))).setCell ⟨wv.heap.size, 2, none⟩ (.slice e1 s1 t1)).setCell ⟨wv.heap.size, 3, none⟩ (.slice e2 12 t2)) = wt at *
              generalize wv.heap.size = G at *
              have u0 := K14 0
              have u1 := K14 1
              have u2 := K14 2
              have u3 := K14 3
              have v7 := HZT.out.k7
              have vf := HZT.out.f7
              have hHt := HZT.out.hi
              have HZ5 : Hid (ZS w ((((wt.setCell ⟨B, 0, none⟩ (.int .i64 z.f)).setCell ⟨B, 1, none⟩ (.int .i64 z.e)).setCell ⟨B, 2, none⟩ (.slice e1 s1 t1)).setCell ⟨B, 3, none⟩ (.slice e2 12 t2)) B e1 e2 s1 12 t1 t2 z' aw na ca away) := by
                have h5 := HZT.out.put hob2 hbs1 hbs2
                rw [HTAK.out.f, HTAK.out.e] at h5
                exact h5
              have v70 := v7 0
              have v71 := v7 1
              have v72 := v7 2
              have v73 := v7 3
              simp only [List.getElem?_toArray, List.getElem?_cons_zero, List.getElem?_cons_succ] at u0 u1 u2 u3 v70 v71 v72 v73
              clear K14 v7
              have hbn7 := below_alloc ((((wt.setCell ⟨B, 0, none⟩ (.int .i64 z.f)).setCell ⟨B, 1, none⟩ (.int .i64 z.e)).setCell ⟨B, 2, none⟩ (.slice e1 s1 t1)).setCell ⟨B, 3, none⟩ (.slice e2 12 t2)) (.cells #[.int .i64 (at_ : Int), .int .i64 (o : Int), .int .i64 0] 36)
              have HZ6 := Hid.mk (HZ5.out.below hbn7)
              have hnew := heap_alloc_new ((((wt.setCell ⟨B, 0, none⟩ (.int .i64 z.f)).setCell ⟨B, 1, none⟩ (.int .i64 z.e)).setCell ⟨B, 2, none⟩ (.slice e1 s1 t1)).setCell ⟨B, 3, none⟩ (.slice e2 12 t2)) (.cells #[.int .i64 (at_ : Int), .int .i64 (o : Int), .int .i64 0] 36)
              have hhi6 := HZ6.out.hi
              obtain ⟨ib, hib, hibz, hibs, hibb⟩ := info_parts info_bk
              have hsz5 : ((((wt.setCell ⟨B, 0, none⟩ (.int .i64 z.f)).setCell ⟨B, 1, none⟩ (.int .i64 z.e)).setCell ⟨B, 2, none⟩ (.slice e1 s1 t1)).setCell ⟨B, 3, none⟩ (.slice e2 12 t2)).heap.size = wt.heap.size := by simp only [World.size_setCell]
              rw [hsz5] at hnew
              have HNW := Hid.mk (World.news_of_block hnew)
              clear HZT hob2 hbn7 HZ5 hnew hsz5
              go_wp2_with (at_builtin; refine wpList_append_lies _ rfl _ _ 23 rfl (B + 1) 36 ib (.agg #[.int .i64 0, .int .i64 0, .int .i64 0]) 3 24 Tryd.underlying23 hib hibz hibs hibb rfl (by decide) (.slice aw na ca) na _ rfl HZ6.out.oa ⟨wt.heap.size, 0, none⟩ 1 1 (encBk ⟨at_, o, 0⟩) rfl rfl HNW.out (by simp [encBk, vI, Value.oneCell']) (by decide) (by unfold maxLen; omega) (by omega) (by omega) _ rfl ?_)
              intro g9 cap9 w9 hown9 hg9 hat9 hlt9
              rw [show flat encBk away ++ encBk ⟨at_, o, 0⟩ = flat encBk (away ++ [⟨at_, o, 0⟩]) from by rw [flat_append, flat_one]] at hown9
              have HZ7 := Hid.mk (HZ6.out.grown hg9 hown9 (fun k hk => by
                have hk2 : g9 = k := by simpa [Value.ownBlock] using hk
                rcases hat9 with h | h
                · exact .inl (hk2 ▸ h)
                · exact .inr (by rw [← hk2, h]; simp)))
              clear hown9 hg9 hat9 HZ6 HNW vf v70 v71 v72 v73 u0 u1 u2 u3
              go_wp2
              go_roundw
              case rel => exact ⟨i + 1, z', away ++ [⟨at_, o, 0⟩], e1, e2, s1, t1, t2, _, na + 1, cap9, by omega, by omega, rfl, by go_num, HZ7, HVT, ⟨HTAK.out.f.trans HFE.out.1, HTAK.out.e.trans HFE.out.2⟩, by unfold Hid; rw [List.length_append]; have := HLE.out; simp only [List.length_cons, List.length_nil]; omega, fun h => by omega⟩
              case measure => simp [intOf]; omega


      · have dm : decide ((i : Int) < most) = false := decide_eq_false (by omega)
        have dm2 : decide (i < most) = false := decide_eq_false (by omega)
        have k70 := HZ.out.k7 0
        have k71 := HZ.out.k7 1
        have k72 := HZ.out.k7 2
        have k73 := HZ.out.k7 3
        have k4 := HZ.out.k4
        have f4 := HZ.out.f4
        simp only [List.getElem?_toArray, List.getElem?_cons_zero, List.getElem?_cons_succ] at k70 k71 k72 k73
        go_wp2
        refine bodyPost_ret (v := .tuple #[.agg #[.int .i64 z.f, .int .i64 z.e, .slice b1 m1 d1, .slice b2 12 d2], .slice aw na ca, .bool true]) (by simp [results, Tryd.results9, go_sem, k4]) rfl ⟨z, away, ⟨b1, b2, m1, 12, d1, d2, aw, na, ca, rfl, ?_, ?_⟩, HV.out, HFE.out.1, HFE.out.2, by have := HLE.out; omega, fun h => HN.out (by rw [h] at hl; simp only [List.length_nil] at hl; omega), ?_⟩
        · have no := HZ.out.own.ne (g := w.heap.size) (.inl (by omega))
          exact ((((HZ.out.own.set no _ _).set no _ _).set no _ _).set no _ _).base (by omega)
        · have no := own_ne HZ.out.oa (b := w.heap.size) (.inl (by omega))
          exact own_base (own_set (own_set (own_set (own_set HZ.out.oa no _) no _) no _) no _) (by omega)
        · exact Below.setCell (Below.setCell (Below.setCell (Below.setCell HZ.out.bw (by simp only; omega) _) (by simp only; omega) _) (by simp only; omega) _) (by simp only; omega) _

    · obtain rfl : i = n := by omega
      have dm : decide ((i : Int) < i) = false := decide_eq_false (by omega)
      have k70 := HZ.out.k7 0
      have k71 := HZ.out.k7 1
      have k72 := HZ.out.k7 2
      have k73 := HZ.out.k7 3
      have k4 := HZ.out.k4
      have f4 := HZ.out.f4
      simp only [List.getElem?_toArray, List.getElem?_cons_zero, List.getElem?_cons_succ] at k70 k71 k72 k73
      go_wp2
      refine bodyPost_ret (v := .tuple #[.agg #[.int .i64 z.f, .int .i64 z.e, .slice b1 m1 d1, .slice b2 12 d2], .slice aw na ca, .bool true]) (by simp [results, Tryd.results9, go_sem, k4]) rfl ⟨z, away, ⟨b1, b2, m1, 12, d1, d2, aw, na, ca, rfl, ?_, ?_⟩, HV.out, HFE.out.1, HFE.out.2, by have := HLE.out; omega, fun h => HN.out (by rw [h] at hl; simp only [List.length_nil] at hl; omega), ?_⟩
      · have no := HZ.out.own.ne (g := w.heap.size) (.inl (by omega))
        exact ((((HZ.out.own.set no _ _).set no _ _).set no _ _).set no _ _).base (by omega)
      · have no := own_ne HZ.out.oa (b := w.heap.size) (.inl (by omega))
        exact own_base (own_set (own_set (own_set (own_set HZ.out.oa no _) no _) no _) no _) (by omega)
      · exact Below.setCell (Below.setCell (Below.setCell (Below.setCell HZ.out.bw (by simp only; omega) _) (by simp only; omega) _) (by simp only; omega) _) (by simp only; omega) _

end Go.Proofs.YtbkajbjhffdlfaaDoor
