/- Pg1: texts of this claim, joined. -/
import Derived.Test.YtjljcifpcljlaaaDoorPM10
import Derived.Test.YtjljcifpcljlaaaDoorPM12
import Derived.Test.YtjljcifpcljlaaaDoorPM13
import Derived.Test.YtjljcifpcljlaaaDoorPM4
import Derived.Test.YtjljcifpcljlaaaDoorPM6
import Derived.Test.YtjljcifpcljlaaaDoorPM9
/- paged, up to its loop. -/
namespace Go.Proofs.YtjljcifpcljlaaaDoor
open Go.RowKit
set_option linter.unusedVariables false

theorem pk_nat (n : Int) (m : Nat) (hm : 0 < m) : ∃ k : Nat, k < m ∧ pk n m = k := by
  have h1 := pk_nonneg n m (by omega)
  have h2 := pk_lt n m (by omega)
  exact ⟨(pk n m).toNat, by omega, by omega⟩
theorem HOk.new_at {l : List Rg} {split least cpus : Nat} : (newH l split least cpus).ls = [] ∧ (newH l split least cpus).live = [] ∧ (newH l split least cpus).cpus = cpus ∧ (newH l split least cpus).m0 = least ∧ (newH l split least cpus).m1 = least := ⟨rfl, rfl, rfl, rfl, rfl⟩
theorem set5_other {W : World} {b G o : Nat} {v u0 u1 u2 u3 u4 : Value} (h : W.cell? ⟨b, o, none⟩ = some v) (hne : b ≠ G) : (((((W.setCell ⟨G, 0, none⟩ u0).setCell ⟨G, 1, none⟩ u1).setCell ⟨G, 2, none⟩ u2).setCell ⟨G, 3, none⟩ u3).setCell ⟨G, 4, none⟩ u4).cell? ⟨b, o, none⟩ = some v := by
  have key : ∀ (W : World) (i : Nat) (u : Value), W.cell? ⟨b, o, none⟩ = some v → (W.setCell ⟨G, i, none⟩ u).cell? ⟨b, o, none⟩ = some v := fun W i u h => by
    have hx : (⟨G, i, none⟩ : Addr) ≠ ⟨b, o, none⟩ := fun e => hne (by simpa using (congrArg Addr.block e).symm)
    exact (World.cell?_setCell_other _ _ _ _ hx).trans h
  exact key _ _ _ (key _ _ _ (key _ _ _ (key _ _ _ (key _ _ _ h))))
theorem ord_at (w : World) (k : Nat) (hk : k < 7) : (w.alloc (.cells #[.int .i64 0, .int .i64 0, .int .i64 0, .int .i64 1, .int .i64 2, .int .i64 3, .int .i64 4] 3)).cell? ⟨w.heap.size, k, none⟩ = some (.int .i64 ((k - 2 : Nat) : Int)) := by
  rw [box_new]
  rcases (show k = 0 ∨ k = 1 ∨ k = 2 ∨ k = 3 ∨ k = 4 ∨ k = 5 ∨ k = 6 by omega) with rfl | rfl | rfl | rfl | rfl | rfl | rfl <;> rfl
def flN (k : Nat) : Nat := if k = 0 then 0 else if k = 1 then 2 else if k = 2 then 4 else if k = 3 then 1 else 8
theorem fl_at (k : Nat) (hk : k < 5) : (#[.int .i64 0, .int .i64 2, .int .i64 4, .int .i64 1, .int .i64 8] : Array Value)[k]? = some (.int .i64 (flN k : Int)) := by
  rcases (show k = 0 ∨ k = 1 ∨ k = 2 ∨ k = 3 ∨ k = 4 by omega) with rfl | rfl | rfl | rfl | rfl <;> rfl
theorem fl_get (k : Nat) (hk : k < 5) (h : k < ([Value.int .i64 0, Value.int .i64 2, Value.int .i64 4, Value.int .i64 1, Value.int .i64 8] : List Value).length) : ([Value.int .i64 0, Value.int .i64 2, Value.int .i64 4, Value.int .i64 1, Value.int .i64 8] : List Value)[k]'h = .int .i64 (flN k : Int) := by
  rcases (show k = 0 ∨ k = 1 ∨ k = 2 ∨ k = 3 ∨ k = 4 by omega) with rfl | rfl | rfl | rfl | rfl <;> rfl
theorem below_set5 {B : Nat} {a w : World} (h : Below B a w) {g : Nat} (hg : B ≤ g) (u0 u1 u2 u3 u4 : Value) : Below B a (((((w.setCell ⟨g, 0, none⟩ u0).setCell ⟨g, 1, none⟩ u1).setCell ⟨g, 2, none⟩ u2).setCell ⟨g, 3, none⟩ u3).setCell ⟨g, 4, none⟩ u4) :=
  Below.setCell (Below.setCell (Below.setCell (Below.setCell (Below.setCell h hg u0) hg u1) hg u2) hg u3) hg u4
theorem HNew.set5 {W : World} {M : Nat} {h : Hp} {c : Hc} (hs : HNew W M h c) {g : Nat} (hg : g < M) (u0 u1 u2 u3 u4 : Value) : HNew (((((W.setCell ⟨g, 0, none⟩ u0).setCell ⟨g, 1, none⟩ u1).setCell ⟨g, 2, none⟩ u2).setCell ⟨g, 3, none⟩ u3).setCell ⟨g, 4, none⟩ u4) M h c :=
  ((((HR.far hs hg 0 u0).far hg 1 u1).far hg 2 u2).far hg 3 u3).far hg 4 u4
theorem box_set5 {w : World} {g : Nat} {a0 a1 a2 a3 a4 : Value} (h : ∀ o, w.cell? ⟨g, o, none⟩ = (#[a0, a1, a2, a3, a4] : Array Value)[o]?) (u0 u1 u2 u3 u4 : Value) : ∀ o, (((((w.setCell ⟨g, 0, none⟩ u0).setCell ⟨g, 1, none⟩ u1).setCell ⟨g, 2, none⟩ u2).setCell ⟨g, 3, none⟩ u3).setCell ⟨g, 4, none⟩ u4).cell? ⟨g, o, none⟩ = (#[u0, u1, u2, u3, u4] : Array Value)[o]? :=
  box_set (box_set (box_set (box_set (box_set h 0 u0) 1 u1) 2 u2) 3 u3) 4 u4
theorem at5 {w1 w2 : World} {b : Nat} {a0 a1 a2 a3 a4 : Value} (h : ∀ o, w1.cell? ⟨b, o, none⟩ = (#[a0, a1, a2, a3, a4] : Array Value)[o]?) (f : ∀ o, w1.frozen? ⟨b, o, none⟩ = false) (hlt : b < w1.heap.size) (hb : Below w1.heap.size w1 w2) :
    (w2.cell? ⟨b, 0, none⟩ = some a0 ∧ w2.cell? ⟨b, 1, none⟩ = some a1 ∧ w2.cell? ⟨b, 2, none⟩ = some a2 ∧ w2.cell? ⟨b, 3, none⟩ = some a3 ∧ w2.cell? ⟨b, 4, none⟩ = some a4) ∧ w2.frozen? ⟨b, 0, none⟩ = false ∧ w2.frozen? ⟨b, 1, none⟩ = false ∧ w2.frozen? ⟨b, 2, none⟩ = false ∧ w2.frozen? ⟨b, 3, none⟩ = false ∧ w2.frozen? ⟨b, 4, none⟩ = false :=
  ⟨⟨box_step h hlt hb 0, box_step h hlt hb 1, box_step h hlt hb 2, box_step h hlt hb 3, box_step h hlt hb 4⟩, frz_step f hlt hb 0, frz_step f hlt hb 1, frz_step f hlt hb 2, frz_step f hlt hb 3, frz_step f hlt hb 4⟩
theorem box_lt (w : World) (o : Obj) : w.heap.size < (w.alloc o).heap.size := by simp
theorem lt_set5 {w : World} {g b : Nat} (h : b < w.heap.size) (u0 u1 u2 u3 u4 : Value) : b < (((((w.setCell ⟨g, 0, none⟩ u0).setCell ⟨g, 1, none⟩ u1).setCell ⟨g, 2, none⟩ u2).setCell ⟨g, 3, none⟩ u3).setCell ⟨g, 4, none⟩ u4).heap.size := by simpa using h
/-- what Alloc answers -/
structure AP (w : World) (M : Nat) (res : Option (Hp × Nat)) (u0 u1 u2 u3 u4 : Value) (ax e : Int) : Prop where
  h : (res = none ∧ e = 6) ∨ ∃ (h' : Hp) (a : Nat) (c' : Hc), res = some (h', a) ∧ ax = a ∧ e = 0 ∧ u0 = .slice c'.az 2 c'.cz ∧ u1 = .slice c'.am 2 c'.cm ∧ u2 = .int .i64 (h'.cpus : Int) ∧ u3 = .slice c'.al c'.lc.length c'.cl ∧ u4 = .slice c'.av h'.live.length c'.cv ∧ HNew w M h' c'
theorem AP.below {w w' : World} {M : Nat} {res : Option (Hp × Nat)} {u0 u1 u2 u3 u4 : Value} {ax e : Int} (h : AP w M res u0 u1 u2 u3 u4 ax e) (hb : Below w.heap.size w w') : AP w' M res u0 u1 u2 u3 u4 ax e := by
  refine ⟨h.h.imp id ?_⟩
  rintro ⟨h', a, c', g1, g2, g3, g4, g5, g6, g7, g8, g9⟩
  exact ⟨h', a, c', g1, g2, g3, g4, g5, g6, g7, g8, HR.below g9 hb⟩
theorem AP.set5 {w : World} {M : Nat} {res : Option (Hp × Nat)} {u0 u1 u2 u3 u4 : Value} {ax e : Int} (h : AP w M res u0 u1 u2 u3 u4 ax e) {g : Nat} (hg : g < M) (x0 x1 x2 x3 x4 : Value) : AP (((((w.setCell ⟨g, 0, none⟩ x0).setCell ⟨g, 1, none⟩ x1).setCell ⟨g, 2, none⟩ x2).setCell ⟨g, 3, none⟩ x3).setCell ⟨g, 4, none⟩ x4) M res u0 u1 u2 u3 u4 ax e := by
  refine ⟨h.h.imp id ?_⟩
  rintro ⟨h', a, c', g1, g2, g3, g4, g5, g6, g7, g8, g9⟩
  exact ⟨h', a, c', g1, g2, g3, g4, g5, g6, g7, g8, HNew.set5 g9 hg x0 x1 x2 x3 x4⟩
theorem flN_ok (k : Nat) (hk : k < 5) : flN k ≤ 15 ∧ ¬ (flN k / 2 % 2 = 1 ∧ flN k / 4 % 2 = 1) ∧ (k ≠ 4 → decide (flN k / 8 % 2 = 1) = false) := by
  rcases (show k = 0 ∨ k = 1 ∨ k = 2 ∨ k = 3 ∨ k = 4 by omega) with rfl | rfl | rfl | rfl | rfl <;> decide
/-- what paged gives -/
structure PDone (w w' : World) (ev : Ending) (l : List Rw) (h0 : Hp) (most : Nat) : Prop where
  ex : ∃ (h : Hp) (c : Hc) (aw : Option Addr) (ca : Nat) (away : List Bk), ev = .returned (.tuple #[.agg (c.vals h), .slice aw away.length ca, .bool true]) ∧ HAt w' c.az c.am c.al c.av c.lc.length h.live.length c.y0 c.y1 c.lc h ∧ Row w' aw (flat encBk away) ∧ PInv h0 h away ∧ away.length ≤ most ∧ (l = [] → h = h0 ∧ away = []) ∧ ((∀ r ∈ l, pk r.c 5 ≠ 4) → HeldAt (fun i => min (h0.min i) (szB (h0.zone i).l)) h)
  bw : Below w.heap.size w w'

set_option linter.unusedSimpArgs false in
set_option maxHeartbeats 40000000 in
set_option maxRecDepth 100000 in
theorem paged_ok (a : Option Addr) (n c : Nat) (l : List Rw) (m1 m2 : Option Addr) (n1 n2 d1 d2 : Nat) (b : Bt) (split least cpus most : Nat) (w : World) (hl : l.length = n) (hnc : n ≤ c) (hcm : c ≤ maxLen) (hr : Row w a (flat encRw l)) (hwf : ∀ r ∈ l, r.wf) (hmost : most ≤ 70)
    (hbt : BtAt w m1 m2 n1 n2 b) (hm : listOk b.m = true) (hrr : listOk b.r = true) (hfr : listOk (freeOf b) = true) (h1 : split ≤ 256) (h2 : split % 16 = 0) (h3 : least ≤ 256) (h4 : 1 ≤ cpus ∧ cpus ≤ 4) (hoth : Oth w) :
    Calls Tryd.prog 11 #[.slice a n c, .agg #[.slice m1 n1 d1, .slice m2 n2 d2, .int .i64 split, .int .i64 least, .int .i64 cpus], .int .i64 most] w fun ev w' => PDone w w' ev l (newH (freeOf b) split least cpus) most := by
  obtain ⟨K4, K6, F4, F6, hsz, hbw⟩ := boxes2 w #[.slice m1 n1 d1, .slice m2 n2 d2, .int .i64 (split : Int), .int .i64 (least : Int), .int .i64 (cpus : Int)] 27 #[.slice none 0 0, .slice none 0 0, .int .i64 0, .slice none 0 0, .slice none 0 0] 34
  have hn63 : n ≤ 9223372036854775807 := by unfold maxLen at hcm; omega
  have HOT := Hid.mk hoth
  have HRW := Hid.mk hr
  have HBT := Hid.mk (hbt.below hbw)
  have HB1 := Hid.mk hbw
  have HFR := Hid.mk hfr
  obtain ⟨hk0, hc0⟩ := newH_ok hfr h1 h2 h3 h4
  have HK0 := Hid.mk hk0
  have k40 := K4 0
  have k41 := K4 1
  have k42 := K4 2
  have k43 := K4 3
  have k44 := K4 4
  simp only [List.getElem?_toArray, List.getElem?_cons_zero, List.getElem?_cons_succ] at k40 k41 k42 k43 k44
  clear hoth hr hbt hbw hfr hk0 hc0
  go_enter Tryd.func11, Tryd.ntmps11
  go_upto_region 1 with fail
  generalize (w.alloc (.cells #[.slice m1 n1 d1, .slice m2 n2 d2, .int .i64 (split : Int), .int .i64 (least : Int), .int .i64 (cpus : Int)] 27)).alloc (.cells #[.slice none 0 0, .slice none 0 0, .int .i64 0, .slice none 0 0, .slice none 0 0] 34) = w1 at *
  go_wp2_with fail
  refine (ranges_ok _ _ _ _ _ _ b w1 HBT.out hm hrr).mono ?_
  rintro ev w2 ⟨a', c', rfl, ho2, hb2⟩
  have K4a := box_step K4 (by omega) hb2
  have F4a := frz_step F4 (by omega) hb2
  have K6a := box_step K6 hsz hb2
  have F6a := frz_step F6 hsz hb2
  have HB2 := Hid.mk (Below.step HB1.out hb2)
  have hsz2 : w.heap.size + 1 < w2.heap.size := Nat.lt_of_lt_of_le hsz hb2.size
  have HRG := Hid.mk (own_row ho2)
  clear k40 k41 k42 k43 k44 K4 F4 K6 F6 hb2 ho2 HB1 HBT
  have k40 := K4a 0
  have k41 := K4a 1
  have k42 := K4a 2
  have k43 := K4a 3
  have k44 := K4a 4
  simp only [List.getElem?_toArray, List.getElem?_cons_zero, List.getElem?_cons_succ] at k40 k41 k42 k43 k44
  have hw2 : w.heap.size < w2.heap.size := by omega
  go_wp2_with fail
  refine (newH_pg a' (freeOf b).length c' (freeOf b) split least cpus w2 rfl HRG.out HFR.out h1 h2 h3 h4).mono ?_
  rintro ev w3 ⟨c3, rfl, hn3, hb3⟩
  have K4b := box_step K4a (by omega) hb3
  have F4b := frz_step F4a (by omega) hb3
  have K6b := box_step K6a hsz2 hb3
  have F6b := frz_step F6a hsz2 hb3
  have HB3 := Hid.mk (Below.step HB2.out hb3)
  have hsz3 : w.heap.size + 1 < w3.heap.size := Nat.lt_of_lt_of_le hsz2 hb3.size
  have HN3 := Hid.mk hn3
  have hw23 := hb3.size
  clear k40 k41 k42 k43 k44 K4a F4a K6a F6a hb3 hn3 HB2 HRG
  unfold Hc.vals
  go_upto_region 4 with fail
  obtain ⟨h0, hh0⟩ : ∃ h0, newH (freeOf b) split least cpus = h0 := ⟨_, rfl⟩
  have HH0 : Hid (h0.cpus = cpus ∧ h0.live = [] ∧ HOk h0) := by rw [← hh0]; exact ⟨rfl, rfl, HK0.out⟩
  rw [hh0] at HN3 ⊢
  have HPS := Hid.mk (PS.first (N := w.heap.size + 2) HN3.out (show w.heap.size + 2 ≤ w2.heap.size by omega))
  have hb4 := below_alloc w3 (.cells #[.slice c3.az 2 c3.cz, .slice c3.am 2 c3.cm, .int .i64 (h0.cpus : Int), .slice c3.al c3.lc.length c3.cl, .slice c3.av h0.live.length c3.cv] 34)
  have K4c := Hid.mk (box_step K4b (by omega) hb4)
  have K6c := Hid.mk (box_step K6b hsz3 hb4)
  have F6c := Hid.mk (frz_step F6b hsz3 hb4)
  have HB4 := Hid.mk (Below.step HB3.out hb4)
  have HHE := Hid.mk hh0
  have hB2 : w.heap.size + 2 ≤ w3.heap.size := by omega
  clear HN3 hb4 K4b F4b K6b F6b HB3 hh0 HK0
  generalize w3.alloc (.cells #[.slice c3.az 2 c3.cz, .slice c3.am 2 c3.cm, .int .i64 (h0.cpus : Int), .slice c3.al c3.lc.length c3.cl, .slice c3.av h0.live.length c3.cv] 34) = w4 at *
  obtain ⟨B, hB⟩ : ∃ B, w3.heap.size = B := ⟨_, rfl⟩
  rw [hB] at HPS hB2 ⊢
  clear hB
  go_wp2_with fail
  go_loopw [13, 14] (fun s13 s14 wr => ∃ (i : Nat) (h : Hp) (cc : Hc) (aw : Option Addr) (ca : Nat) (away : List Bk), i ≤ n ∧ i ≤ most ∧ s13 = .slice aw away.length ca ∧ s14 = .int .i64 (i : Int) ∧ Hid (PS w4 wr (w.heap.size + 2) B h cc aw away.length ca away) ∧ Hid (PInv h0 h away) ∧ Hid (away.length ≤ i) ∧ Hid (i = 0 → h = h0 ∧ away = []) ∧ Hid ((∀ r ∈ l.take i, pk r.c 5 ≠ 4) → HeldAt (fun i => min (h0.min i) (szB (h0.zone i).l)) h)) (fun _ s14 _ => n - (intOf s14).toNat)
  case atStart => exact ⟨0, h0, c3, none, 0, [], Nat.zero_le _, Nat.zero_le _, rfl, rfl, HPS, PInv.start HH0.out.2.2 HH0.out.2.1, Nat.le_refl _, fun _ => ⟨rfl, rfl⟩, fun _ i _ => Nat.min_le_right _ _⟩
  case round =>
    obtain ⟨i, h, cc, aw, ca, away, hin, him, rfl, rfl, HS, HI, HLE, HN, HHD⟩ := hrel
    clear HPS
    have hBw := HS.out.size
    have hal : away.length ≤ 70 := by have := HLE.out; omega
    by_cases hlt : i < n
    · by_cases hlm : i < most
      · have dm : decide ((i : Int) < most) = true := decide_eq_true (by omega)
        have dm2 : decide (i < most) = true := decide_eq_true (by omega)
        have hil : i < l.length := by omega
        obtain ⟨rb, roff, hra, hrb, hrc⟩ := row_elem encRw_length (by decide) (HRW.out.below (HB4.out.trans (HS.out.bw.mono (Nat.le_add_right _ _)))) hil
        obtain rfl := hra
        obtain ⟨hc0, hc1, hc2, hc3⟩ := encRw_cells hrc
        have hwfr := hwf _ (List.getElem_mem hil)
        have HTK := Hid.mk (List.take_succ_eq_append_getElem hil)
        obtain ⟨q1, q2, q3, q4⟩ := hwfr
        obtain ⟨r, hrr⟩ : ∃ r, l[i] = r := ⟨_, rfl⟩
        rw [hrr] at q1 q2 q3 q4 hc0 hc1 hc2 hc3 HTK
        clear hrc hrr
        go_upto_region 8 with fail
        have hbn := below_alloc wr (.cells #[.int .i64 r.k, .int .i64 r.a, .int .i64 r.b, .int .i64 r.c] 61)
        have HS1 := Hid.mk (HS.out.below hbn)
        have K15 := box_new wr #[.int .i64 r.k, .int .i64 r.a, .int .i64 r.b, .int .i64 r.c] 61
        have hG15 : wr.heap.size < (wr.alloc (.cells #[.int .i64 r.k, .int .i64 r.a, .int .i64 r.b, .int .i64 r.c] 61)).heap.size := by simp
        have k150 := K15 0
        have k151 := K15 1
        have k152 := K15 2
        have k153 := K15 3
        simp only [List.getElem?_toArray, List.getElem?_cons_zero, List.getElem?_cons_succ] at k150 k151 k152 k153
        have hBn : B < wr.heap.size := hBw
        have hBv : B < (wr.alloc (.cells #[.int .i64 r.k, .int .i64 r.a, .int .i64 r.b, .int .i64 r.c] 61)).heap.size := HS1.out.size
        clear hc0 hc1 hc2 hc3 hbn K15 hrb HS dm dm2 hBw
        generalize wr.alloc (.cells #[.int .i64 r.k, .int .i64 r.a, .int .i64 r.b, .int .i64 r.c] 61) = wv at *
        obtain ⟨G15, hG⟩ : ∃ G, wr.heap.size = G := ⟨_, rfl⟩
        rw [hG] at hG15 hBn k150 k151 k152 k153 ⊢
        clear hG
        -- the numbers that are picked
        obtain ⟨cpu, hcpu, hcpe⟩ := pk_nat r.b cpus h4.1
        have k44 : wv.cell? ⟨w.heap.size, 4, none⟩ = some (.int .i64 (cpus : Int)) := ((HS1.out.bw.cell (p := ⟨w.heap.size, 4, none⟩) (by simp only; omega)).trans (K4c.out 4))
        have hwv : w.heap.size < wv.heap.size := by omega
        go_wp2_with fail
        refine (picked_any r.b cpus _ q3.1 q3.2 (by omega) (by omega)).mono ?_
        rintro ev _ ⟨rfl, rfl⟩
        rw [hcpe]
        clear k44
        go_wp2_with fail
        refine (picked_any r.k 9 _ q1.1 q1.2 (by omega) (by omega)).mono ?_
        rintro ev _ ⟨rfl, rfl⟩
        obtain ⟨kk, hk9, hkk⟩ := pk_nat r.k 9 (by decide)
        rw [show ((9 : Nat) : Int) = 9 from rfl] at hkk
        rw [hkk]
        go_upto_region 17 with fail
        have hIok := HI.out.ok
        have hlv := hIok.live_len
        have hlc : cc.lc.length ≤ 1000 := by rw [lc_len HS1.out.hs.r]; have := hIok.ls_len; omega
        have hcpu' : cpu < h.cpus := by rw [HI.out.same.cpus, HH0.out.1]; exact hcpu
        have hnvl : h.live.length ≤ 1000 := by omega
        have HVL := Hid.mk hlv
        clear hlv
        go_cut [100] (fun s100 wx => s100 = .bool (decide (kk < 3 ∧ 0 < away.length)) ∧ wx = wv)
        case first =>
          by_cases hk3 : kk < 3
          · have hk3i : (kk : Int) < 3 := by omega
            by_cases hna : 0 < away.length
            · have hnai : (0 : Int) < away.length := by omega
              go_wp2_with fail
              go_meet
              case rel => exact ⟨by rw [decide_eq_true ⟨hk3, hna⟩], rfl⟩
            · have hnai : ¬ (0 : Int) < away.length := by omega
              go_wp2_with fail
              go_meet
              case rel => exact ⟨by rw [decide_eq_false (fun h => hna h.2)], rfl⟩
          · have hk3i : ¬ (kk : Int) < 3 := by omega
            go_wp2_with fail
            go_meet
            case rel => exact ⟨by rw [decide_eq_false (fun h => hk3 h.1)], rfl⟩
        obtain ⟨rfl, hwcv⟩ := hcut
        rw [hwcv]
        clear hwcv
        by_cases hkA : kk < 3 ∧ 0 < away.length
        · rw [decide_eq_true hkA]
          obtain ⟨hk3, hna⟩ := hkA
          obtain ⟨j, hj, hje⟩ := pk_nat r.a away.length hna
          go_wp2_with fail
          refine (picked_any r.a away.length _ q2.1 q2.2 (by omega) (by omega)).mono ?_
          rintro ev _ ⟨rfl, rfl⟩
          rw [hje]
          obtain ⟨hiL, hl1, hl2, hth, ha256⟩ := HI.out.has hj
          have HPF := Hid.mk (HI.out.free (cpu := cpu) (by rw [HH0.out.1]; exact hcpu) hj hiL)
          have HHF := Hid.mk (fun (m : Nat → Nat) (hm : HeldAt m h) => freeB_held hIok hm hcpu' hiL)
          obtain ⟨x, hx⟩ : ∃ x, away[j] = x := ⟨_, rfl⟩
          obtain ⟨ga, goff, hga, hgb, hgc⟩ := row_elem encBk_length (by decide) (own_row HS1.out.oa) hj
          simp only [hx] at hiL hl1 hl2 hth ha256 HPF HHF hgc
          obtain ⟨h', hh'⟩ : ∃ h', h.freeB cpu (lb h.live x.a) h.live[lb h.live x.a] = h' := ⟨_, rfl⟩
          rw [hh'] at HPF HHF
          have hcall : ∀ W, Below wv.heap.size wv W → Calls Tryd.prog 26 #[.agg #[.slice cc.az 2 cc.cz, .slice cc.am 2 cc.cm, .int .i64 (h.cpus : Int), .slice cc.al cc.lc.length cc.cl, .slice cc.av h.live.length cc.cv], .int .i64 (cpu : Int), .int .i64 (x.a : Int)] W fun ev w' => ∃ c', ev = .returned (.tuple #[.agg #[.slice c'.az 2 c'.cz, .slice c'.am 2 c'.cm, .int .i64 (h'.cpus : Int), .slice c'.al c'.lc.length c'.cl, .slice c'.av h'.live.length c'.cv], .int .i64 0]) ∧ HNew w' W.heap.size h' c' ∧ Below W.heap.size W w' := fun W hb =>
            (freeH_pg _ _ _ _ _ _ _ _ _ _ _ _ _ h cpu x.a W (HS1.out.hs.r.at.below hb) hIok hlc hnvl hcpu' (by omega) hth).mono fun ev w' hq => by
              obtain ⟨g1, c', _, g2, g3⟩ := hq
              rw [hh'] at g2 g3
              exact ⟨c', g2, g3, g1⟩
          obtain ⟨k0, k1, k2, k3, k4⟩ := HS1.out.hs.words
          obtain ⟨v0, v1, v2⟩ := encBk_cells hgc
          obtain rfl := hga
          have hjl : (j : Int) < away.length := by omega
          have HCALL := Hid.mk hcall
          clear hgc hh' hcall hl1 hl2 hth
          go_upto_region 19 with fail
          go_cut [19, 20] (fun s19 s20 wx => ∃ (G M : Nat) (c' : Hc), s19 = .pointer (some ⟨G, 0, none⟩) ∧ s20 = .int .i64 0 ∧ Hid (HNew wx M h' c') ∧ Hid (∀ o, wx.cell? ⟨G, o, none⟩ = (#[.slice c'.az 2 c'.cz, .slice c'.am 2 c'.cm, .int .i64 (h'.cpus : Int), .slice c'.al c'.lc.length c'.cl, .slice c'.av h'.live.length c'.cv] : Array Value)[o]?) ∧ G < wx.heap.size ∧ wv.heap.size ≤ M ∧ wv.heap.size ≤ G ∧ Hid (Below wv.heap.size wv wx))
          case first =>
            have hbA : Below wv.heap.size wv wv.drew := (Below.refl wv.heap.size wv).drew
            have hbB : Below wv.heap.size wv ((wv.alloc (.cells #[.slice none 0 0, .slice none 0 0, .int .i64 0, .slice none 0 0, .slice none 0 0] 34)).drew) := ((Below.refl wv.heap.size wv).alloc (Nat.le_refl _) _).drew
            go_wp2_with fail
            have hKB : ∀ o, ((wv.alloc (.cells #[.slice none 0 0, .slice none 0 0, .int .i64 0, .slice none 0 0, .slice none 0 0] 34)).drew).cell? ⟨wv.heap.size, o, none⟩ = (#[.slice none 0 0, .slice none 0 0, .int .i64 0, .slice none 0 0, .slice none 0 0] : Array Value)[o]? := fun o => box_new wv _ _ o
            have hFB : ∀ o, ((wv.alloc (.cells #[.slice none 0 0, .slice none 0 0, .int .i64 0, .slice none 0 0, .slice none 0 0] 34)).drew).frozen? ⟨wv.heap.size, o, none⟩ = false := fun o => box_frz wv _ _ o
            have hSB : wv.heap.size < ((wv.alloc (.cells #[.slice none 0 0, .slice none 0 0, .int .i64 0, .slice none 0 0, .slice none 0 0] 34)).drew).heap.size := by show wv.heap.size < (wv.alloc _).heap.size; simp
            have HKB := Hid.mk hKB
            have HFB := Hid.mk hFB
            have HSB := Hid.mk hSB
            clear hKB hFB hSB
            have hgne : ga ≠ wv.heap.size := by omega
            have hBne : B ≠ wv.heap.size := by omega
            go_region_held3 (fun w' => w'.cell? ⟨B, 0, none⟩ = some (.slice cc.az 2 cc.cz) ∧ w'.cell? ⟨B, 1, none⟩ = some (.slice cc.am 2 cc.cm) ∧ w'.cell? ⟨B, 2, none⟩ = some (.int .i64 (h.cpus : Int)) ∧ w'.cell? ⟨B, 3, none⟩ = some (.slice cc.al cc.lc.length cc.cl) ∧ w'.cell? ⟨B, 4, none⟩ = some (.slice cc.av h.live.length cc.cv) ∧ w'.cell? ⟨ga, goff + j * 3, none⟩ = some (.int .i64 (x.a : Int))) (first | with_reducible exact ⟨k0, k1, k2, k3, k4, v0⟩ | with_reducible exact ⟨p0, p1, p2, p3, p4, p5⟩ | with_reducible exact ⟨set5_other p0 hBne, set5_other p1 hBne, set5_other p2 hBne, set5_other p3 hBne, set5_other p4 hBne, set5_other p5 hgne⟩ | go_keep) (first | (go_at_call 26; (with_reducible refine (HCALL.out _ hbA).mono ?_); rintro ev w9 ⟨c', rfl, hn9, hb9⟩; have HB9 := Below.step hbA hb9; have p0 := (HB9.cell (p := ⟨B, 0, none⟩) hBv).trans k0; have p1 := (HB9.cell (p := ⟨B, 1, none⟩) hBv).trans k1; have p2 := (HB9.cell (p := ⟨B, 2, none⟩) hBv).trans k2; have p3 := (HB9.cell (p := ⟨B, 3, none⟩) hBv).trans k3; have p4 := (HB9.cell (p := ⟨B, 4, none⟩) hBv).trans k4; have p5 := (HB9.cell (p := ⟨ga, goff + j * 3, none⟩) hgb).trans v0; have hB9 := Nat.lt_of_lt_of_le hBv HB9.size; have hg9 := Nat.lt_of_lt_of_le hgb HB9.size) | (go_at_call 26; (with_reducible refine (HCALL.out _ hbB).mono ?_); rintro ev w9 ⟨c', rfl, hn9, hb9⟩; have e0 : w9.cell? ⟨wv.heap.size, 0, none⟩ = some (.slice none 0 0) := box_step HKB.out HSB.out hb9 0; have e1 : w9.cell? ⟨wv.heap.size, 1, none⟩ = some (.slice none 0 0) := box_step HKB.out HSB.out hb9 1; have e2 : w9.cell? ⟨wv.heap.size, 2, none⟩ = some (.int .i64 0) := box_step HKB.out HSB.out hb9 2; have e3 : w9.cell? ⟨wv.heap.size, 3, none⟩ = some (.slice none 0 0) := box_step HKB.out HSB.out hb9 3; have e4 : w9.cell? ⟨wv.heap.size, 4, none⟩ = some (.slice none 0 0) := box_step HKB.out HSB.out hb9 4; have f0 := frz_step HFB.out HSB.out hb9 0; have f1 := frz_step HFB.out HSB.out hb9 1; have f2 := frz_step HFB.out HSB.out hb9 2; have f3 := frz_step HFB.out HSB.out hb9 3; have f4 := frz_step HFB.out HSB.out hb9 4; have hs9 : wv.heap.size < w9.heap.size := Nat.lt_of_lt_of_le HSB.out hb9.size; have HB9 := Below.step hbB hb9; have p0 := (HB9.cell (p := ⟨B, 0, none⟩) hBv).trans k0; have p1 := (HB9.cell (p := ⟨B, 1, none⟩) hBv).trans k1; have p2 := (HB9.cell (p := ⟨B, 2, none⟩) hBv).trans k2; have p3 := (HB9.cell (p := ⟨B, 3, none⟩) hBv).trans k3; have p4 := (HB9.cell (p := ⟨B, 4, none⟩) hBv).trans k4; have p5 := (HB9.cell (p := ⟨ga, goff + j * 3, none⟩) hgb).trans v0; have hB9 := Nat.lt_of_lt_of_le hBv HB9.size; have hg9 := Nat.lt_of_lt_of_le hgb HB9.size))
            · have hab := below_alloc w9 (.cells #[.slice c'.az 2 c'.cz, .slice c'.am 2 c'.cm, .int .i64 (h'.cpus : Int), .slice c'.al c'.lc.length c'.cl, .slice c'.av h'.live.length c'.cv] 34)
              have hN := Hid.mk (HR.below hn9 hab)
              have hK := Hid.mk (box_new w9 #[.slice c'.az 2 c'.cz, .slice c'.am 2 c'.cm, .int .i64 (h'.cpus : Int), .slice c'.al c'.lc.length c'.cl, .slice c'.av h'.live.length c'.cv] 34)
              have hB := Hid.mk (Below.step HB9 hab)
              have hsz := HB9.size
              clear hn9 hb9 HB9 hab p0 p1 p2 p3 p4 p5
              go_wp2_with fail
              go_meet
              case rel => exact ⟨w9.heap.size, wv.heap.size, c', rfl, rfl, hN, hK, by simp, Nat.le_refl _, hsz, hB⟩
            · have hGM : wv.heap.size < ((wv.alloc (.cells #[.slice none 0 0, .slice none 0 0, .int .i64 0, .slice none 0 0, .slice none 0 0] 34)).drew).heap.size := HSB.out
              have hN := Hid.mk (((((HR.far hn9 hGM 0 (.slice c'.az 2 c'.cz)).far hGM 1 (.slice c'.am 2 c'.cm)).far hGM 2 (.int .i64 (h'.cpus : Int))).far hGM 3 (.slice c'.al c'.lc.length c'.cl)).far hGM 4 (.slice c'.av h'.live.length c'.cv))
              have hK := Hid.mk (box_set (box_set (box_set (box_set (box_set (box_step HKB.out HSB.out hb9) 0 (.slice c'.az 2 c'.cz)) 1 (.slice c'.am 2 c'.cm)) 2 (.int .i64 (h'.cpus : Int))) 3 (.slice c'.al c'.lc.length c'.cl)) 4 (.slice c'.av h'.live.length c'.cv))
              have hle := Nat.le_refl wv.heap.size
              have hB := Hid.mk (Below.setCell (Below.setCell (Below.setCell (Below.setCell (Below.setCell HB9 (show wv.heap.size ≤ (⟨wv.heap.size, 0, none⟩ : Addr).block from hle) (.slice c'.az 2 c'.cz)) (show wv.heap.size ≤ (⟨wv.heap.size, 1, none⟩ : Addr).block from hle) (.slice c'.am 2 c'.cm)) (show wv.heap.size ≤ (⟨wv.heap.size, 2, none⟩ : Addr).block from hle) (.int .i64 (h'.cpus : Int))) (show wv.heap.size ≤ (⟨wv.heap.size, 3, none⟩ : Addr).block from hle) (.slice c'.al c'.lc.length c'.cl)) (show wv.heap.size ≤ (⟨wv.heap.size, 4, none⟩ : Addr).block from hle) (.slice c'.av h'.live.length c'.cv))
              clear hn9 hb9 HB9 p0 p1 p2 p3 p4 p5
              go_wp2_with fail
              go_meet
              case rel => exact ⟨wv.heap.size, _, c', rfl, rfl, hN, hK, by simpa using hs9, Nat.le_of_lt hGM, Nat.le_refl _, hB⟩
          case rest =>
            obtain ⟨G, M, c', rfl, rfl, hN, hK, hGs, hM, hG, hB⟩ := hcut
            have HSc := Hid.mk (HS1.out.below hB.out)
            have HSP := Hid.mk (HSc.out.put hN.out (Nat.lt_of_lt_of_le hBv hM) (fun k hk => Nat.lt_of_lt_of_le (HS1.out.oa.lt k hk).2 hM))
            unfold put5 at HSP
            have g0 := hK.out 0
            have g1 := hK.out 1
            have g2 := hK.out 2
            have g3 := hK.out 3
            have g4 := hK.out 4
            simp only [List.getElem?_toArray, List.getElem?_cons_zero, List.getElem?_cons_succ] at g0 g1 g2 g3 g4
            have f0 := HSc.out.hs.fz 0
            have f1 := HSc.out.hs.fz 1
            have f2 := HSc.out.hs.fz 2
            have f3 := HSc.out.hs.fz 3
            have f4 := HSc.out.hs.fz 4
            have hBc := HSc.out.size
            clear k0 k1 k2 k3 k4 v0 v1 v2 hgb
            obtain ⟨k0, k1, k2, k3, k4⟩ := HSc.out.hs.words
            go_upto_region 23 with fail
            clear hN hK g0 g1 g2 g3 g4 f0 f1 f2 f3 f4 k0 k1 k2 k3 k4 HSc HS1 HCALL
            generalize ((((wc.setCell ⟨B, 0, none⟩ (.slice c'.az 2 c'.cz)).setCell ⟨B, 1, none⟩ (.slice c'.am 2 c'.cm)).setCell ⟨B, 2, none⟩ (.int .i64 (h'.cpus : Int))).setCell ⟨B, 3, none⟩ (.slice c'.al c'.lc.length c'.cl)).setCell ⟨B, 4, none⟩ (.slice c'.av h'.live.length c'.cv) = w10 at *
            go_wp2_with fail
            refine (delete_bk (B + 1) _ _ _ away j w10 HSP.out.oa hj (by omega) HSP.out.size).mono ?_
            rintro ev w11 ⟨rfl, hod, hgd⟩
            have hle : (away.eraseIdx j).length = away.length - 1 := List.length_eraseIdx_of_lt hj
            rw [← hle] at hod ⊢
            have HS11 := Hid.mk (HSP.out.grown hgd hod (fun k hk => .inl (by simpa [Value.ownBlock] using hk)))
            have HHD2 : Hid ((∀ r ∈ l.take (i + 1), pk r.c 5 ≠ 4) → HeldAt (fun i => min (h0.min i) (szB (h0.zone i).l)) h') := fun hq => HHF.out _ (HHD.out fun r hr => hq r (by rw [HTK.out]; exact List.mem_append_left _ hr))
            have HLE2 : Hid ((away.eraseIdx j).length ≤ i + 1) := by unfold Hid; have := HLE.out; omega
            clear hod hgd HSP hle
            go_wp2
            go_roundw
            case rel => exact ⟨i + 1, h', c', _, ca, away.eraseIdx j, by omega, by omega, rfl, by go_num, HS11, HPF, HLE2, fun h => by omega, HHD2⟩
            case measure => simp [intOf]; omega
        · rw [decide_eq_false hkA]
          by_cases hke : kk = 3
          · subst hke
            obtain ⟨k0, k1, k2, k3, k4⟩ := HS1.out.hs.words
            go_wp2_with fail
            refine (drainH_pg _ _ _ _ _ _ _ _ _ _ _ _ _ h wv HS1.out.hs.r.at hIok hlc hnvl).mono ?_
            rintro ev w9 ⟨c', rfl, hn9, hb9⟩
            obtain ⟨h', hh'⟩ : ∃ h', h.drain = h' := ⟨_, rfl⟩
            have HPD := Hid.mk HI.out.drain
            have HHF := Hid.mk (fun (m : Nat → Nat) (hm : HeldAt m h) => drain_held hIok hm)
            rw [hh'] at HPD HHF hn9 ⊢
            unfold Hc.vals
            go_upto_region 26 with fail
            have hab := below_alloc w9 (.cells #[.slice c'.az 2 c'.cz, .slice c'.am 2 c'.cm, .int .i64 (h'.cpus : Int), .slice c'.al c'.lc.length c'.cl, .slice c'.av h'.live.length c'.cv] 34)
            have hK := Hid.mk (box_new w9 #[.slice c'.az 2 c'.cz, .slice c'.am 2 c'.cm, .int .i64 (h'.cpus : Int), .slice c'.al c'.lc.length c'.cl, .slice c'.av h'.live.length c'.cv] 34)
            have hB := Hid.mk (Below.step hb9 hab)
            have HSc := Hid.mk (HS1.out.below hB.out)
            have HSP := Hid.mk (HSc.out.put (HR.below hn9 hab) hBv (fun k hk => (HS1.out.oa.lt k hk).2))
            have hG : w9.heap.size < (w9.alloc (.cells #[.slice c'.az 2 c'.cz, .slice c'.am 2 c'.cm, .int .i64 (h'.cpus : Int), .slice c'.al c'.lc.length c'.cl, .slice c'.av h'.live.length c'.cv] 34)).heap.size := by simp
            clear k0 k1 k2 k3 k4 hab hn9 hb9 hh' HS1
            generalize w9.alloc (.cells #[.slice c'.az 2 c'.cz, .slice c'.am 2 c'.cm, .int .i64 (h'.cpus : Int), .slice c'.al c'.lc.length c'.cl, .slice c'.av h'.live.length c'.cv] 34) = wc at *
            unfold put5 at HSP
            have g0 := hK.out 0
            have g1 := hK.out 1
            have g2 := hK.out 2
            have g3 := hK.out 3
            have g4 := hK.out 4
            simp only [List.getElem?_toArray, List.getElem?_cons_zero, List.getElem?_cons_succ] at g0 g1 g2 g3 g4
            have f0 := HSc.out.hs.fz 0
            have f1 := HSc.out.hs.fz 1
            have f2 := HSc.out.hs.fz 2
            have f3 := HSc.out.hs.fz 3
            have f4 := HSc.out.hs.fz 4
            have hBc := HSc.out.size
            obtain ⟨k0, k1, k2, k3, k4⟩ := HSc.out.hs.words
            have HHD2 : Hid ((∀ r ∈ l.take (i + 1), pk r.c 5 ≠ 4) → HeldAt (fun i => min (h0.min i) (szB (h0.zone i).l)) h') := fun hq => HHF.out _ (HHD.out fun r hr => hq r (by rw [HTK.out]; exact List.mem_append_left _ hr))
            clear hK HSc
            go_wp2
            go_roundw
            case rel => exact ⟨i + 1, h', c', aw, ca, away, by omega, by omega, rfl, by go_num, HSP, HPD, Nat.le_succ_of_le HLE.out, fun h => by omega, HHD2⟩
            case measure => simp [intOf]; omega
          · have hkne : ((kk : Int) == 3) = false := by rw [beq_eq_false_iff_ne]; omega
            -- a block is asked for
            obtain ⟨oi, hoi, hoe⟩ := pk_nat r.a 7 (by decide)
            obtain ⟨ci, hci, hce⟩ := pk_nat r.c 5 (by decide)
            rw [show ((7 : Nat) : Int) = 7 from rfl] at hoe
            rw [show ((5 : Nat) : Int) = 5 from rfl] at hce
            have hoc := ord_at wv oi hoi
            have hoi7 : (oi : Int) < 7 := by omega
            have hozs : wv.heap.size < (wv.alloc (.cells #[.int .i64 0, .int .i64 0, .int .i64 0, .int .i64 1, .int .i64 2, .int .i64 3, .int .i64 4] 3)).heap.size := by simp
            go_wp2_with fail
            refine (picked_any r.a 7 _ q2.1 q2.2 (by omega) (by omega)).mono ?_
            rintro ev _ ⟨rfl, rfl⟩
            rw [hoe]
            go_upto_region 11 with fail
            have hbu := below_alloc wv (.cells #[.int .i64 0, .int .i64 0, .int .i64 0, .int .i64 1, .int .i64 2, .int .i64 3, .int .i64 4] 3)
            have HSU := Hid.mk (HS1.out.below hbu)
            have k153u := (hbu.cell (p := ⟨G15, 3, none⟩) hG15).trans k153
            have hG15u := Nat.lt_of_lt_of_le hG15 hbu.size
            clear HS1 k150 k151 k152 k153 hG15 hbu hozs hBv hoi7
            obtain ⟨O, hO⟩ : ∃ O, oi - 2 = O := ⟨_, rfl⟩
            have hO4 : O ≤ 4 := by omega
            rw [hO] at hoc ⊢
            clear hoc
            generalize wv.alloc (.cells #[.int .i64 0, .int .i64 0, .int .i64 0, .int .i64 1, .int .i64 2, .int .i64 3, .int .i64 4] 3) = wu at *
            have hBu := HSU.out.size
            have HSA := Hid.mk (fun k hk => (HSU.out.oa.lt k hk).2)
            obtain ⟨hf1, hf2, hf3⟩ := flN_ok ci hci
            have hFe := fl_get ci hci (by simpa using hci)
            obtain ⟨F, hF⟩ : ∃ F, flN ci = F := ⟨_, rfl⟩
            rw [hF] at hf1 hf2 hf3 hFe
            have HF3 := Hid.mk hf3
            have HPK : Hid (∀ W, Calls Tryd.prog 17 #[.int .i64 r.c, .int .i64 5] W fun ev w' => ev = .returned (.int .i64 (ci : Int)) ∧ W = w') := fun W => by
              have := picked_any r.c 5 W q4.1 q4.2 (by omega) (by omega)
              rw [hce] at this
              exact this
            have hbA : Below wu.heap.size wu ((wu.alloc (.cells #[.int .i64 0, .int .i64 2, .int .i64 4, .int .i64 1, .int .i64 8] 3)).drew) := ((Below.refl wu.heap.size wu).alloc (Nat.le_refl _) _).drew
            have hbB : Below wu.heap.size wu (((wu.alloc (.cells #[.int .i64 0, .int .i64 2, .int .i64 4, .int .i64 1, .int .i64 8] 3)).alloc (.cells #[.slice none 0 0, .slice none 0 0, .int .i64 0, .slice none 0 0, .slice none 0 0] 34)).drew) := (Below.step ((Below.refl wu.heap.size wu).alloc (Nat.le_refl _) _) (below_alloc _ _)).drew
            have hbC : Below wu.heap.size wu (((wu.alloc (.cells #[.slice none 0 0, .slice none 0 0, .int .i64 0, .slice none 0 0, .slice none 0 0] 34)).alloc (.cells #[.int .i64 0, .int .i64 2, .int .i64 4, .int .i64 1, .int .i64 8] 3)).drew) := (Below.step ((Below.refl wu.heap.size wu).alloc (Nat.le_refl _) _) (below_alloc _ _)).drew
            have hHot := HOT.out.mono (HB4.out.trans (HSU.out.bw.mono (Nat.le_add_right _ _))) (Nat.le_refl _)
            obtain ⟨res, hres⟩ : ∃ res, h.alloc cpu O (flagT F) (decide (F / 8 % 2 = 1)) (decide (F % 2 = 1)) = res := ⟨_, rfl⟩
            have HRES := Hid.mk hres
            have HCALL : Hid (∀ W, Below wu.heap.size wu W → Calls Tryd.prog 18 #[.agg #[.slice cc.az 2 cc.cz, .slice cc.am 2 cc.cm, .int .i64 (h.cpus : Int), .slice cc.al cc.lc.length cc.cl, .slice cc.av h.live.length cc.cv], .int .i64 (cpu : Int), .int .i64 (O : Int), .int .i64 (F : Int)] W fun ev w' => ∃ (x0 x1 x3 x4 : Option Addr) (y0 z0 y1 z1 y3 z3 y4 z4 : Nat) (kc ax e : Int), ev = .returned (.tuple #[.agg #[.slice x0 y0 z0, .slice x1 y1 z1, .int .i64 kc, .slice x3 y3 z3, .slice x4 y4 z4], .int .i64 ax, .int .i64 e]) ∧ AP w' W.heap.size res (.slice x0 y0 z0) (.slice x1 y1 z1) (.int .i64 kc) (.slice x3 y3 z3) (.slice x4 y4 z4) ax e ∧ Below W.heap.size W w') := fun W hb =>
              (allocH_pg _ _ _ _ _ _ _ _ _ _ _ _ _ h cpu O F W (HSU.out.hs.r.at.below hb) hIok hlc hnvl hcpu' hO4 hf1 hf2 (hHot.mono hb (Nat.le_refl _))).mono fun ev w' hq => by
                rw [hres] at hq
                obtain ⟨g1, ⟨g2, g3⟩ | ⟨h', a, c', g2, g3, g4⟩⟩ := hq
                · exact ⟨_, _, _, _, _, _, _, _, _, _, _, _, _, _, _, g3, ⟨.inl ⟨g2, rfl⟩⟩, g1⟩
                · exact ⟨_, _, _, _, _, _, _, _, _, _, _, _, _, _, _, g3, ⟨.inr ⟨h', a, c', g2, rfl, rfl, rfl, rfl, rfl, rfl, rfl, g4⟩⟩, g1⟩
            have HKB : Hid (∀ o, (((wu.alloc (.cells #[.int .i64 0, .int .i64 2, .int .i64 4, .int .i64 1, .int .i64 8] 3)).alloc (.cells #[.slice none 0 0, .slice none 0 0, .int .i64 0, .slice none 0 0, .slice none 0 0] 34)).drew).cell? ⟨wu.heap.size + 1, o, none⟩ = (#[.slice none 0 0, .slice none 0 0, .int .i64 0, .slice none 0 0, .slice none 0 0] : Array Value)[o]?) := fun o => by
              have h9 := box_new (wu.alloc (.cells #[.int .i64 0, .int .i64 2, .int .i64 4, .int .i64 1, .int .i64 8] 3)) #[.slice none 0 0, .slice none 0 0, .int .i64 0, .slice none 0 0, .slice none 0 0] 34 o
              simp only [World.size_alloc] at h9
              exact h9
            have HFB : Hid (∀ o, (((wu.alloc (.cells #[.int .i64 0, .int .i64 2, .int .i64 4, .int .i64 1, .int .i64 8] 3)).alloc (.cells #[.slice none 0 0, .slice none 0 0, .int .i64 0, .slice none 0 0, .slice none 0 0] 34)).drew).frozen? ⟨wu.heap.size + 1, o, none⟩ = false) := fun o => by
              have h9 := box_frz (wu.alloc (.cells #[.int .i64 0, .int .i64 2, .int .i64 4, .int .i64 1, .int .i64 8] 3)) #[.slice none 0 0, .slice none 0 0, .int .i64 0, .slice none 0 0, .slice none 0 0] 34 o
              simp only [World.size_alloc] at h9
              exact h9
            have HSB : Hid (wu.heap.size + 1 < (((wu.alloc (.cells #[.int .i64 0, .int .i64 2, .int .i64 4, .int .i64 1, .int .i64 8] 3)).alloc (.cells #[.slice none 0 0, .slice none 0 0, .int .i64 0, .slice none 0 0, .slice none 0 0] 34)).drew).heap.size) := by show wu.heap.size + 1 < ((wu.alloc (.cells #[.int .i64 0, .int .i64 2, .int .i64 4, .int .i64 1, .int .i64 8] 3)).alloc _).heap.size; simp
            have HKC : Hid (∀ o, (((wu.alloc (.cells #[.slice none 0 0, .slice none 0 0, .int .i64 0, .slice none 0 0, .slice none 0 0] 34)).alloc (.cells #[.int .i64 0, .int .i64 2, .int .i64 4, .int .i64 1, .int .i64 8] 3)).drew).cell? ⟨wu.heap.size, o, none⟩ = (#[.slice none 0 0, .slice none 0 0, .int .i64 0, .slice none 0 0, .slice none 0 0] : Array Value)[o]?) := fun o => box_step (box_new wu #[.slice none 0 0, .slice none 0 0, .int .i64 0, .slice none 0 0, .slice none 0 0] 34) (by simp) (below_alloc _ _) o
            have HFC : Hid (∀ o, (((wu.alloc (.cells #[.slice none 0 0, .slice none 0 0, .int .i64 0, .slice none 0 0, .slice none 0 0] 34)).alloc (.cells #[.int .i64 0, .int .i64 2, .int .i64 4, .int .i64 1, .int .i64 8] 3)).drew).frozen? ⟨wu.heap.size, o, none⟩ = false) := fun o => frz_step (box_frz wu #[.slice none 0 0, .slice none 0 0, .int .i64 0, .slice none 0 0, .slice none 0 0] 34) (by simp) (below_alloc _ _) o
            have HSC : Hid (wu.heap.size < (((wu.alloc (.cells #[.slice none 0 0, .slice none 0 0, .int .i64 0, .slice none 0 0, .slice none 0 0] 34)).alloc (.cells #[.int .i64 0, .int .i64 2, .int .i64 4, .int .i64 1, .int .i64 8] 3)).drew).heap.size) := by show wu.heap.size < ((wu.alloc (.cells #[.slice none 0 0, .slice none 0 0, .int .i64 0, .slice none 0 0, .slice none 0 0] 34)).alloc _).heap.size; simp; omega
            have hci5 : (ci : Int) < 5 := by omega
            have hBne : B ≠ wu.heap.size := by omega
            have hgne : G15 ≠ wu.heap.size := by omega
            have hBne2 : B ≠ wu.heap.size + 1 := by omega
            have hgne2 : G15 ≠ wu.heap.size + 1 := by omega
            obtain ⟨k0, k1, k2, k3, k4⟩ := HSU.out.hs.words
            clear hres hf1 hf2 hf3 hHot hF hO
            go_cut [24, 25, 26] (fun s24 s25 s26 wx => ∃ (G M : Nat) (v0 v1 v2 v3 v4 : Value) (ax e : Int), s24 = .pointer (some ⟨G, 0, none⟩) ∧ s25 = .int .i64 ax ∧ s26 = .int .i64 e ∧ Hid (AP wx M res v0 v1 v2 v3 v4 ax e) ∧ Hid (∀ o, wx.cell? ⟨G, o, none⟩ = (#[v0, v1, v2, v3, v4] : Array Value)[o]?) ∧ G < wx.heap.size ∧ wu.heap.size ≤ M ∧ wu.heap.size ≤ G ∧ Hid (Below wu.heap.size wu wx))
            case first =>
              go_wp2_with fail
              refine wp_region_held_drew (S := (fun w' => w'.cell? ⟨B, 0, none⟩ = some (.slice cc.az 2 cc.cz) ∧ w'.cell? ⟨B, 1, none⟩ = some (.slice cc.am 2 cc.cm) ∧ w'.cell? ⟨B, 2, none⟩ = some (.int .i64 (h.cpus : Int)) ∧ w'.cell? ⟨B, 3, none⟩ = some (.slice cc.al cc.lc.length cc.cl) ∧ w'.cell? ⟨B, 4, none⟩ = some (.slice cc.av h.live.length cc.cv) ∧ w'.cell? ⟨G15, 3, none⟩ = some (.int .i64 r.c))) (by kernel_rfl) ?_ (fun hH0 => ?_)
              · (try dsimp only); (first | with_reducible exact ⟨k0, k1, k2, k3, k4, k153u⟩ | go_keep)
              refine wpAnyH_take (i := 0) (oi := _) (v := ?_) rfl (by kernel_rfl) (by kernel_rfl) (by kernel_rfl) (fun _ _ _ h => h) (Or.inl ⟨by rfl, ?_⟩) (by assumption) ?_
              rotate_left
              · intro w8 hSw
                (try dsimp only at hSw)
                (try simp only [List.getElem_toArray, List.getElem_cons_succ, List.getElem_cons_zero])
                go_simp <;> with_reducible rfl
              (try simp only [List.getElem_toArray, List.getElem_cons_succ, List.getElem_cons_zero])
              (try simp only [Act.put, List.setIfInBounds_toArray, List.set_cons_zero, List.set_cons_succ])
              refine wpAnyH_take (i := 1) (oi := _) (v := ?_) rfl (by kernel_rfl) (by kernel_rfl) (by kernel_rfl) (fun _ _ _ h => h) (Or.inl ⟨by rfl, ?_⟩) (by assumption) ?_
              rotate_left
              · intro w8 hSw
                (try dsimp only at hSw)
                (try simp only [List.getElem_toArray, List.getElem_cons_succ, List.getElem_cons_zero])
                go_simp <;> with_reducible rfl
              (try simp only [List.getElem_toArray, List.getElem_cons_succ, List.getElem_cons_zero])
              (try simp only [Act.put, List.setIfInBounds_toArray, List.set_cons_zero, List.set_cons_succ])
              refine wpAnyH_take (i := 2) (oi := _) (v := ?_) rfl (by kernel_rfl) (by kernel_rfl) (by kernel_rfl) (fun _ _ _ h => h) (Or.inl ⟨by rfl, ?_⟩) (by assumption) ?_
              rotate_left
              · intro w8 hSw
                (try dsimp only at hSw)
                (try simp only [List.getElem_toArray, List.getElem_cons_succ, List.getElem_cons_zero])
                go_simp <;> with_reducible rfl
              (try simp only [List.getElem_toArray, List.getElem_cons_succ, List.getElem_cons_zero])
              (try simp only [Act.put, List.setIfInBounds_toArray, List.set_cons_zero, List.set_cons_succ])
              refine wpAnyH_take (i := 4) (oi := _) (v := ?_) rfl (by kernel_rfl) (by kernel_rfl) (by kernel_rfl) (fun _ _ _ h => h) (Or.inl ⟨by rfl, ?_⟩) (by assumption) ?_
              rotate_left
              · intro w8 hSw
                (try dsimp only at hSw)
                (try simp only [List.getElem_toArray, List.getElem_cons_succ, List.getElem_cons_zero])
                go_simp <;> with_reducible rfl
              (try simp only [List.getElem_toArray, List.getElem_cons_succ, List.getElem_cons_zero])
              (try simp only [Act.put, List.setIfInBounds_toArray, List.set_cons_zero, List.set_cons_succ])
              refine wpAnyH_take (i := 5) (oi := _) (v := ?_) rfl (by kernel_rfl) (by kernel_rfl) (by kernel_rfl) (fun _ _ _ h => h) (Or.inl ⟨by rfl, ?_⟩) (by assumption) ?_
              rotate_left
              · intro w8 hSw
                (try dsimp only at hSw)
                (try simp only [List.getElem_toArray, List.getElem_cons_succ, List.getElem_cons_zero])
                go_simp <;> with_reducible rfl
              (try simp only [List.getElem_toArray, List.getElem_cons_succ, List.getElem_cons_zero])
              (try simp only [Act.put, List.setIfInBounds_toArray, List.set_cons_zero, List.set_cons_succ])
              refine wpAnyH_ready (rs := [3, 6, 14]) (by kernel_rfl) (by simp) ?_
              refine AllReadyH.cons (o := _) rfl (fun K hK => ?_) ?_
              · (try simp only [List.getElem_toArray, List.getElem_cons_succ, List.getElem_cons_zero])
                go_simp
                refine hK.out _ _ ?_ (fun hH1 => ?_)
                · (try dsimp only); (first | with_reducible exact ⟨k0, k1, k2, k3, k4, k153u⟩ | go_keep)
                clear hK K hH0
                refine wpAnyH_ready (rs := [6, 14]) (by kernel_rfl) (by simp) ?_
                refine AllReadyH.cons (o := _) rfl (fun K hK => ?_) ?_
                · (try simp only [List.getElem_toArray, List.getElem_cons_succ, List.getElem_cons_zero])
                  go_simp
                  (go_at_call 17; refine (HPK.out _).mono ?_; rintro ev _ ⟨rfl, rfl⟩)
                  (try go_wp2_with fail)
                  refine hK.out _ _ ?_ (fun hH2 => ?_)
                  · (try dsimp only); (first | with_reducible exact ⟨k0, k1, k2, k3, k4, k153u⟩ | go_keep)
                  clear hK K hH1
                  refine wpAnyH_take (i := 7) (oi := _) (v := ?_) rfl (by kernel_rfl) (by kernel_rfl) (by kernel_rfl) (fun _ _ _ h => h) (Or.inl ⟨by rfl, ?_⟩) (by assumption) ?_
                  rotate_left
                  · intro w8 hSw
                    (try dsimp only at hSw)
                    (try simp only [List.getElem_toArray, List.getElem_cons_succ, List.getElem_cons_zero])
                    go_simp <;> with_reducible rfl
                  (try simp only [List.getElem_toArray, List.getElem_cons_succ, List.getElem_cons_zero])
                  (try simp only [Act.put, List.setIfInBounds_toArray, List.set_cons_zero, List.set_cons_succ])
                  refine wpAnyH_ready (rs := [8, 14]) (by kernel_rfl) (by simp) ?_
                  refine AllReadyH.cons (o := _) rfl (fun K hK => ?_) ?_
                  · (try simp only [List.getElem_toArray, List.getElem_cons_succ, List.getElem_cons_zero])
                    go_simp
                    refine hK.out _ _ ?_ (fun hH3 => ?_)
                    · (try dsimp only); (first | with_reducible exact ⟨k0, k1, k2, k3, k4, k153u⟩ | go_keep)
                    clear hK K hH2
                    refine wpAnyH_ready (rs := [9, 14]) (by kernel_rfl) (by simp) ?_
                    refine AllReadyH.cons (o := _) rfl (fun K hK => ?_) ?_
                    · (try simp only [List.getElem_toArray, List.getElem_cons_succ, List.getElem_cons_zero])
                      go_simp
                      (go_at_call 18; (with_reducible refine (HCALL.out _ hbA).mono ?_); rintro ev w9 ⟨x0, x1, x3, x4, y0, z0, y1, z1, y3, z3, y4, z4, kc, ax, e, rfl, hap, hb9⟩; have HB9 := Below.step hbA hb9; obtain ⟨p0, p1, p2, p3, p4⟩ := (HSU.out.below HB9).hs.words; have p5 := (HB9.cell (p := ⟨G15, 3, none⟩) hG15u).trans k153u; have hB9 := Nat.lt_of_lt_of_le hBu HB9.size; have hg9 := Nat.lt_of_lt_of_le hG15u HB9.size; have hab := below_alloc w9 (.cells #[.slice x0 y0 z0, .slice x1 y1 z1, .int .i64 kc, .slice x3 y3 z3, .slice x4 y4 z4] 34); have HAP := Hid.mk (AP.below hap hab); have HKX := Hid.mk (box_new w9 #[.slice x0 y0 z0, .slice x1 y1 z1, .int .i64 kc, .slice x3 y3 z3, .slice x4 y4 z4] 34); have HBX := Hid.mk (Below.step HB9 hab); have hGX : w9.heap.size < (w9.alloc (.cells #[.slice x0 y0 z0, .slice x1 y1 z1, .int .i64 kc, .slice x3 y3 z3, .slice x4 y4 z4] 34)).heap.size := box_lt w9 _; have hGM : wu.heap.size ≤ ((wu.alloc (.cells #[.int .i64 0, .int .i64 2, .int .i64 4, .int .i64 1, .int .i64 8] 3)).drew).heap.size := hbA.size; have hGG : wu.heap.size ≤ w9.heap.size := HB9.size; clear hab)
                      (try go_wp2_with fail)
                      refine hK.out _ _ ?_ (fun hH4 => ?_)
                      · (try dsimp only); (first | with_reducible exact ⟨p0, p1, p2, p3, p4, p5⟩ | go_keep)
                      clear hK K hH3
                      refine wpAnyH_take (i := 10) (oi := _) (v := ?_) rfl (by kernel_rfl) (by kernel_rfl) (by kernel_rfl) (fun _ _ _ h => h) (Or.inl ⟨by rfl, ?_⟩) (by assumption) ?_
                      rotate_left
                      · intro w8 hSw
                        (try dsimp only at hSw)
                        (try simp only [List.getElem_toArray, List.getElem_cons_succ, List.getElem_cons_zero])
                        go_simp <;> with_reducible rfl
                      (try simp only [List.getElem_toArray, List.getElem_cons_succ, List.getElem_cons_zero])
                      (try simp only [Act.put, List.setIfInBounds_toArray, List.set_cons_zero, List.set_cons_succ])
                      refine wpAnyH_take (i := 11) (oi := _) (v := ?_) rfl (by kernel_rfl) (by kernel_rfl) (by kernel_rfl) (fun _ _ _ h => h) (Or.inl ⟨by rfl, ?_⟩) (by assumption) ?_
                      rotate_left
                      · intro w8 hSw
                        (try dsimp only at hSw)
                        (try simp only [List.getElem_toArray, List.getElem_cons_succ, List.getElem_cons_zero])
                        go_simp <;> with_reducible rfl
                      (try simp only [List.getElem_toArray, List.getElem_cons_succ, List.getElem_cons_zero])
                      (try simp only [Act.put, List.setIfInBounds_toArray, List.set_cons_zero, List.set_cons_succ])
                      refine wpAnyH_take (i := 12) (oi := _) (v := ?_) rfl (by kernel_rfl) (by kernel_rfl) (by kernel_rfl) (fun _ _ _ h => h) (Or.inl ⟨by rfl, ?_⟩) (by assumption) ?_
                      rotate_left
                      · intro w8 hSw
                        (try dsimp only at hSw)
                        (try simp only [List.getElem_toArray, List.getElem_cons_succ, List.getElem_cons_zero])
                        go_simp <;> with_reducible rfl
                      (try simp only [List.getElem_toArray, List.getElem_cons_succ, List.getElem_cons_zero])
                      (try simp only [Act.put, List.setIfInBounds_toArray, List.set_cons_zero, List.set_cons_succ])
                      refine wpAnyH_take (i := 13) (oi := _) (v := ?_) rfl (by kernel_rfl) (by kernel_rfl) (by kernel_rfl) (fun _ _ _ h => h) (Or.inl ⟨by rfl, ?_⟩) (by assumption) ?_
                      rotate_left
                      · intro w8 hSw
                        (try dsimp only at hSw)
                        (try simp only [List.getElem_toArray, List.getElem_cons_succ, List.getElem_cons_zero])
                        go_simp <;> with_reducible rfl
                      (try simp only [List.getElem_toArray, List.getElem_cons_succ, List.getElem_cons_zero])
                      (try simp only [Act.put, List.setIfInBounds_toArray, List.set_cons_zero, List.set_cons_succ])
                      refine wpAnyH_ready (rs := [14]) (by kernel_rfl) (by simp) ?_
                      refine AllReadyH.cons (o := _) rfl (fun K hK => ?_) ?_
                      · (try simp only [List.getElem_toArray, List.getElem_cons_succ, List.getElem_cons_zero])
                        go_simp
                        refine hK.out _ _ ?_ (fun hH5 => ?_)
                        · (try dsimp only); (first | with_reducible exact ⟨p0, p1, p2, p3, p4, p5⟩ | go_keep)
                        clear hK K hH4
                        refine wpAnyH_ready (rs := [15]) (by kernel_rfl) (by simp) ?_
                        refine AllReadyH.cons (o := _) rfl (fun K hK => ?_) ?_
                        · (try simp only [List.getElem_toArray, List.getElem_cons_succ, List.getElem_cons_zero])
                          go_simp
                          refine hK.out _ _ ?_ (fun hH6 => ?_)
                          · (try dsimp only); (first | with_reducible exact ⟨p0, p1, p2, p3, p4, p5⟩ | go_keep)
                          clear hK K hH5
                          refine wpAnyH_take (i := 16) (oi := _) (v := ?_) rfl (by kernel_rfl) (by kernel_rfl) (by kernel_rfl) (fun _ _ _ h => h) (Or.inl ⟨by rfl, ?_⟩) (by assumption) ?_
                          rotate_left
                          · intro w8 hSw
                            (try dsimp only at hSw)
                            (try simp only [List.getElem_toArray, List.getElem_cons_succ, List.getElem_cons_zero])
                            go_simp <;> with_reducible rfl
                          (try simp only [List.getElem_toArray, List.getElem_cons_succ, List.getElem_cons_zero])
                          (try simp only [Act.put, List.setIfInBounds_toArray, List.set_cons_zero, List.set_cons_succ])
                          refine wpAnyH_take (i := 17) (oi := _) (v := ?_) rfl (by kernel_rfl) (by kernel_rfl) (by kernel_rfl) (fun _ _ _ h => h) (Or.inl ⟨by rfl, ?_⟩) (by assumption) ?_
                          rotate_left
                          · intro w8 hSw
                            (try dsimp only at hSw)
                            (try simp only [List.getElem_toArray, List.getElem_cons_succ, List.getElem_cons_zero])
                            go_simp <;> with_reducible rfl
                          (try simp only [List.getElem_toArray, List.getElem_cons_succ, List.getElem_cons_zero])
                          (try simp only [Act.put, List.setIfInBounds_toArray, List.set_cons_zero, List.set_cons_succ])
                          refine wpAnyH_done (by kernel_rfl) ?_ _
                          go_wp2_with fail
                          go_meet
                          case rel => with_reducible exact ⟨_, _, _, _, _, _, _, ax, e, rfl, rfl, rfl, HAP, HKX, hGX, hGM, hGG, HBX⟩
                        exact AllReadyH.nil
                      exact AllReadyH.nil
                    refine AllReadyH.cons (o := _) rfl (fun K hK => ?_) ?_
                    · (try simp only [List.getElem_toArray, List.getElem_cons_succ, List.getElem_cons_zero])
                      go_simp
                      refine hK.out _ _ ?_ (fun hH4 => ?_)
                      · (try dsimp only); (first | with_reducible exact ⟨k0, k1, k2, k3, k4, k153u⟩ | go_keep)
                      clear hK K hH3
                      refine wpAnyH_ready (rs := [9]) (by kernel_rfl) (by simp) ?_
                      refine AllReadyH.cons (o := _) rfl (fun K hK => ?_) ?_
                      · (try simp only [List.getElem_toArray, List.getElem_cons_succ, List.getElem_cons_zero])
                        go_simp
                        (go_at_call 18; (with_reducible refine (HCALL.out _ hbB).mono ?_); rintro ev w9 ⟨x0, x1, x3, x4, y0, z0, y1, z1, y3, z3, y4, z4, kc, ax, e, rfl, hap, hb9⟩; have HB9 := Below.step hbB hb9; obtain ⟨p0, p1, p2, p3, p4⟩ := (HSU.out.below HB9).hs.words; have p5 := (HB9.cell (p := ⟨G15, 3, none⟩) hG15u).trans k153u; have hB9 := Nat.lt_of_lt_of_le hBu HB9.size; have hg9 := Nat.lt_of_lt_of_le hG15u HB9.size; obtain ⟨⟨e0, e1, e2, e3, e4⟩, f0, f1, f2, f3, f4⟩ := at5 HKB.out HFB.out HSB.out hb9; have hs9 : wu.heap.size + 1 < w9.heap.size := Nat.lt_of_lt_of_le HSB.out hb9.size; have HAP := Hid.mk (AP.set5 hap HSB.out (.slice x0 y0 z0) (.slice x1 y1 z1) (.int .i64 kc) (.slice x3 y3 z3) (.slice x4 y4 z4)); have HKX := Hid.mk (box_set5 (box_step HKB.out HSB.out hb9) (.slice x0 y0 z0) (.slice x1 y1 z1) (.int .i64 kc) (.slice x3 y3 z3) (.slice x4 y4 z4)); have HBX := Hid.mk (below_set5 (g := wu.heap.size + 1) HB9 (Nat.le_succ _) (.slice x0 y0 z0) (.slice x1 y1 z1) (.int .i64 kc) (.slice x3 y3 z3) (.slice x4 y4 z4)); have hGX := lt_set5 (g := wu.heap.size + 1) hs9 (.slice x0 y0 z0) (.slice x1 y1 z1) (.int .i64 kc) (.slice x3 y3 z3) (.slice x4 y4 z4); have hGM : wu.heap.size ≤ (((wu.alloc (.cells #[.int .i64 0, .int .i64 2, .int .i64 4, .int .i64 1, .int .i64 8] 3)).alloc (.cells #[.slice none 0 0, .slice none 0 0, .int .i64 0, .slice none 0 0, .slice none 0 0] 34)).drew).heap.size := hbB.size; have hGG : wu.heap.size ≤ wu.heap.size + 1 := (Nat.le_succ _))
                        (try go_wp2_with fail)
                        refine hK.out _ _ ?_ (fun hH5 => ?_)
                        · (try dsimp only); (first | with_reducible exact ⟨p0, p1, p2, p3, p4, p5⟩ | go_keep)
                        clear hK K hH4
                        refine wpAnyH_take (i := 10) (oi := _) (v := ?_) rfl (by kernel_rfl) (by kernel_rfl) (by kernel_rfl) (fun _ _ _ h => h) (Or.inl ⟨by rfl, ?_⟩) (by assumption) ?_
                        rotate_left
                        · intro w8 hSw
                          (try dsimp only at hSw)
                          (try simp only [List.getElem_toArray, List.getElem_cons_succ, List.getElem_cons_zero])
                          go_simp <;> with_reducible rfl
                        (try simp only [List.getElem_toArray, List.getElem_cons_succ, List.getElem_cons_zero])
                        (try simp only [Act.put, List.setIfInBounds_toArray, List.set_cons_zero, List.set_cons_succ])
                        refine wpAnyH_take (i := 11) (oi := _) (v := ?_) rfl (by kernel_rfl) (by kernel_rfl) (by kernel_rfl) (fun _ _ _ h => h) (Or.inl ⟨by rfl, ?_⟩) (by assumption) ?_
                        rotate_left
                        · intro w8 hSw
                          (try dsimp only at hSw)
                          (try simp only [List.getElem_toArray, List.getElem_cons_succ, List.getElem_cons_zero])
                          go_simp <;> with_reducible rfl
                        (try simp only [List.getElem_toArray, List.getElem_cons_succ, List.getElem_cons_zero])
                        (try simp only [Act.put, List.setIfInBounds_toArray, List.set_cons_zero, List.set_cons_succ])
                        refine wpAnyH_take (i := 12) (oi := _) (v := ?_) rfl (by kernel_rfl) (by kernel_rfl) (by kernel_rfl) (fun _ _ _ h => h) (Or.inl ⟨by rfl, ?_⟩) (by assumption) ?_
                        rotate_left
                        · intro w8 hSw
                          (try dsimp only at hSw)
                          (try simp only [List.getElem_toArray, List.getElem_cons_succ, List.getElem_cons_zero])
                          go_simp <;> with_reducible rfl
                        (try simp only [List.getElem_toArray, List.getElem_cons_succ, List.getElem_cons_zero])
                        (try simp only [Act.put, List.setIfInBounds_toArray, List.set_cons_zero, List.set_cons_succ])
                        refine wpAnyH_take (i := 13) (oi := _) (v := ?_) rfl (by kernel_rfl) (by kernel_rfl) (by kernel_rfl) (fun _ _ _ h => h) (Or.inl ⟨by rfl, ?_⟩) (by assumption) ?_
                        rotate_left
                        · intro w8 hSw
                          (try dsimp only at hSw)
                          (try simp only [List.getElem_toArray, List.getElem_cons_succ, List.getElem_cons_zero])
                          go_simp <;> with_reducible rfl
                        (try simp only [List.getElem_toArray, List.getElem_cons_succ, List.getElem_cons_zero])
                        (try simp only [Act.put, List.setIfInBounds_toArray, List.set_cons_zero, List.set_cons_succ])
                        refine wpAnyH_ready (rs := [15]) (by kernel_rfl) (by simp) ?_
                        refine AllReadyH.cons (o := _) rfl (fun K hK => ?_) ?_
                        · (try simp only [List.getElem_toArray, List.getElem_cons_succ, List.getElem_cons_zero])
                          go_simp
                          refine hK.out _ _ ?_ (fun hH6 => ?_)
                          · (try dsimp only); (first | with_reducible exact ⟨set5_other p0 hBne2, set5_other p1 hBne2, set5_other p2 hBne2, set5_other p3 hBne2, set5_other p4 hBne2, set5_other p5 hgne2⟩ | go_keep)
                          clear hK K hH5
                          refine wpAnyH_take (i := 16) (oi := _) (v := ?_) rfl (by kernel_rfl) (by kernel_rfl) (by kernel_rfl) (fun _ _ _ h => h) (Or.inl ⟨by rfl, ?_⟩) (by assumption) ?_
                          rotate_left
                          · intro w8 hSw
                            (try dsimp only at hSw)
                            (try simp only [List.getElem_toArray, List.getElem_cons_succ, List.getElem_cons_zero])
                            go_simp <;> with_reducible rfl
                          (try simp only [List.getElem_toArray, List.getElem_cons_succ, List.getElem_cons_zero])
                          (try simp only [Act.put, List.setIfInBounds_toArray, List.set_cons_zero, List.set_cons_succ])
                          refine wpAnyH_take (i := 17) (oi := _) (v := ?_) rfl (by kernel_rfl) (by kernel_rfl) (by kernel_rfl) (fun _ _ _ h => h) (Or.inl ⟨by rfl, ?_⟩) (by assumption) ?_
                          rotate_left
                          · intro w8 hSw
                            (try dsimp only at hSw)
                            (try simp only [List.getElem_toArray, List.getElem_cons_succ, List.getElem_cons_zero])
                            go_simp <;> with_reducible rfl
                          (try simp only [List.getElem_toArray, List.getElem_cons_succ, List.getElem_cons_zero])
                          (try simp only [Act.put, List.setIfInBounds_toArray, List.set_cons_zero, List.set_cons_succ])
                          refine wpAnyH_done (by kernel_rfl) ?_ _
                          go_wp2_with fail
                          go_meet
                          case rel => with_reducible exact ⟨_, _, _, _, _, _, _, ax, e, rfl, rfl, rfl, HAP, HKX, hGX, hGM, hGG, HBX⟩
                        exact AllReadyH.nil
                      exact AllReadyH.nil
                    exact AllReadyH.nil
                  refine AllReadyH.cons (o := _) rfl (fun K hK => ?_) ?_
                  · (try simp only [List.getElem_toArray, List.getElem_cons_succ, List.getElem_cons_zero])
                    go_simp
                    refine hK.out _ _ ?_ (fun hH3 => ?_)
                    · (try dsimp only); (first | with_reducible exact ⟨k0, k1, k2, k3, k4, k153u⟩ | go_keep)
                    clear hK K hH2
                    refine wpAnyH_ready (rs := [8]) (by kernel_rfl) (by simp) ?_
                    refine AllReadyH.cons (o := _) rfl (fun K hK => ?_) ?_
                    · (try simp only [List.getElem_toArray, List.getElem_cons_succ, List.getElem_cons_zero])
                      go_simp
                      refine hK.out _ _ ?_ (fun hH4 => ?_)
                      · (try dsimp only); (first | with_reducible exact ⟨k0, k1, k2, k3, k4, k153u⟩ | go_keep)
                      clear hK K hH3
                      refine wpAnyH_ready (rs := [9]) (by kernel_rfl) (by simp) ?_
                      refine AllReadyH.cons (o := _) rfl (fun K hK => ?_) ?_
                      · (try simp only [List.getElem_toArray, List.getElem_cons_succ, List.getElem_cons_zero])
                        go_simp
                        (go_at_call 18; (with_reducible refine (HCALL.out _ hbB).mono ?_); rintro ev w9 ⟨x0, x1, x3, x4, y0, z0, y1, z1, y3, z3, y4, z4, kc, ax, e, rfl, hap, hb9⟩; have HB9 := Below.step hbB hb9; obtain ⟨p0, p1, p2, p3, p4⟩ := (HSU.out.below HB9).hs.words; have p5 := (HB9.cell (p := ⟨G15, 3, none⟩) hG15u).trans k153u; have hB9 := Nat.lt_of_lt_of_le hBu HB9.size; have hg9 := Nat.lt_of_lt_of_le hG15u HB9.size; obtain ⟨⟨e0, e1, e2, e3, e4⟩, f0, f1, f2, f3, f4⟩ := at5 HKB.out HFB.out HSB.out hb9; have hs9 : wu.heap.size + 1 < w9.heap.size := Nat.lt_of_lt_of_le HSB.out hb9.size; have HAP := Hid.mk (AP.set5 hap HSB.out (.slice x0 y0 z0) (.slice x1 y1 z1) (.int .i64 kc) (.slice x3 y3 z3) (.slice x4 y4 z4)); have HKX := Hid.mk (box_set5 (box_step HKB.out HSB.out hb9) (.slice x0 y0 z0) (.slice x1 y1 z1) (.int .i64 kc) (.slice x3 y3 z3) (.slice x4 y4 z4)); have HBX := Hid.mk (below_set5 (g := wu.heap.size + 1) HB9 (Nat.le_succ _) (.slice x0 y0 z0) (.slice x1 y1 z1) (.int .i64 kc) (.slice x3 y3 z3) (.slice x4 y4 z4)); have hGX := lt_set5 (g := wu.heap.size + 1) hs9 (.slice x0 y0 z0) (.slice x1 y1 z1) (.int .i64 kc) (.slice x3 y3 z3) (.slice x4 y4 z4); have hGM : wu.heap.size ≤ (((wu.alloc (.cells #[.int .i64 0, .int .i64 2, .int .i64 4, .int .i64 1, .int .i64 8] 3)).alloc (.cells #[.slice none 0 0, .slice none 0 0, .int .i64 0, .slice none 0 0, .slice none 0 0] 34)).drew).heap.size := hbB.size; have hGG : wu.heap.size ≤ wu.heap.size + 1 := (Nat.le_succ _))
                        (try go_wp2_with fail)
                        refine hK.out _ _ ?_ (fun hH5 => ?_)
                        · (try dsimp only); (first | with_reducible exact ⟨p0, p1, p2, p3, p4, p5⟩ | go_keep)
                        clear hK K hH4
                        refine wpAnyH_take (i := 10) (oi := _) (v := ?_) rfl (by kernel_rfl) (by kernel_rfl) (by kernel_rfl) (fun _ _ _ h => h) (Or.inl ⟨by rfl, ?_⟩) (by assumption) ?_
                        rotate_left
                        · intro w8 hSw
                          (try dsimp only at hSw)
                          (try simp only [List.getElem_toArray, List.getElem_cons_succ, List.getElem_cons_zero])
                          go_simp <;> with_reducible rfl
                        (try simp only [List.getElem_toArray, List.getElem_cons_succ, List.getElem_cons_zero])
                        (try simp only [Act.put, List.setIfInBounds_toArray, List.set_cons_zero, List.set_cons_succ])
                        refine wpAnyH_take (i := 11) (oi := _) (v := ?_) rfl (by kernel_rfl) (by kernel_rfl) (by kernel_rfl) (fun _ _ _ h => h) (Or.inl ⟨by rfl, ?_⟩) (by assumption) ?_
                        rotate_left
                        · intro w8 hSw
                          (try dsimp only at hSw)
                          (try simp only [List.getElem_toArray, List.getElem_cons_succ, List.getElem_cons_zero])
                          go_simp <;> with_reducible rfl
                        (try simp only [List.getElem_toArray, List.getElem_cons_succ, List.getElem_cons_zero])
                        (try simp only [Act.put, List.setIfInBounds_toArray, List.set_cons_zero, List.set_cons_succ])
                        refine wpAnyH_take (i := 12) (oi := _) (v := ?_) rfl (by kernel_rfl) (by kernel_rfl) (by kernel_rfl) (fun _ _ _ h => h) (Or.inl ⟨by rfl, ?_⟩) (by assumption) ?_
                        rotate_left
                        · intro w8 hSw
                          (try dsimp only at hSw)
                          (try simp only [List.getElem_toArray, List.getElem_cons_succ, List.getElem_cons_zero])
                          go_simp <;> with_reducible rfl
                        (try simp only [List.getElem_toArray, List.getElem_cons_succ, List.getElem_cons_zero])
                        (try simp only [Act.put, List.setIfInBounds_toArray, List.set_cons_zero, List.set_cons_succ])
                        refine wpAnyH_take (i := 13) (oi := _) (v := ?_) rfl (by kernel_rfl) (by kernel_rfl) (by kernel_rfl) (fun _ _ _ h => h) (Or.inl ⟨by rfl, ?_⟩) (by assumption) ?_
                        rotate_left
                        · intro w8 hSw
                          (try dsimp only at hSw)
                          (try simp only [List.getElem_toArray, List.getElem_cons_succ, List.getElem_cons_zero])
                          go_simp <;> with_reducible rfl
                        (try simp only [List.getElem_toArray, List.getElem_cons_succ, List.getElem_cons_zero])
                        (try simp only [Act.put, List.setIfInBounds_toArray, List.set_cons_zero, List.set_cons_succ])
                        refine wpAnyH_ready (rs := [15]) (by kernel_rfl) (by simp) ?_
                        refine AllReadyH.cons (o := _) rfl (fun K hK => ?_) ?_
                        · (try simp only [List.getElem_toArray, List.getElem_cons_succ, List.getElem_cons_zero])
                          go_simp
                          refine hK.out _ _ ?_ (fun hH6 => ?_)
                          · (try dsimp only); (first | with_reducible exact ⟨set5_other p0 hBne2, set5_other p1 hBne2, set5_other p2 hBne2, set5_other p3 hBne2, set5_other p4 hBne2, set5_other p5 hgne2⟩ | go_keep)
                          clear hK K hH5
                          refine wpAnyH_take (i := 16) (oi := _) (v := ?_) rfl (by kernel_rfl) (by kernel_rfl) (by kernel_rfl) (fun _ _ _ h => h) (Or.inl ⟨by rfl, ?_⟩) (by assumption) ?_
                          rotate_left
                          · intro w8 hSw
                            (try dsimp only at hSw)
                            (try simp only [List.getElem_toArray, List.getElem_cons_succ, List.getElem_cons_zero])
                            go_simp <;> with_reducible rfl
                          (try simp only [List.getElem_toArray, List.getElem_cons_succ, List.getElem_cons_zero])
                          (try simp only [Act.put, List.setIfInBounds_toArray, List.set_cons_zero, List.set_cons_succ])
                          refine wpAnyH_take (i := 17) (oi := _) (v := ?_) rfl (by kernel_rfl) (by kernel_rfl) (by kernel_rfl) (fun _ _ _ h => h) (Or.inl ⟨by rfl, ?_⟩) (by assumption) ?_
                          rotate_left
                          · intro w8 hSw
                            (try dsimp only at hSw)
                            (try simp only [List.getElem_toArray, List.getElem_cons_succ, List.getElem_cons_zero])
                            go_simp <;> with_reducible rfl
                          (try simp only [List.getElem_toArray, List.getElem_cons_succ, List.getElem_cons_zero])
                          (try simp only [Act.put, List.setIfInBounds_toArray, List.set_cons_zero, List.set_cons_succ])
                          refine wpAnyH_done (by kernel_rfl) ?_ _
                          go_wp2_with fail
                          go_meet
                          case rel => with_reducible exact ⟨_, _, _, _, _, _, _, ax, e, rfl, rfl, rfl, HAP, HKX, hGX, hGM, hGG, HBX⟩
                        exact AllReadyH.nil
                      exact AllReadyH.nil
                    exact AllReadyH.nil
                  exact AllReadyH.nil
                refine AllReadyH.cons (o := _) rfl (fun K hK => ?_) ?_
                · (try simp only [List.getElem_toArray, List.getElem_cons_succ, List.getElem_cons_zero])
                  go_simp
                  refine hK.out _ _ ?_ (fun hH2 => ?_)
                  · (try dsimp only); (first | with_reducible exact ⟨k0, k1, k2, k3, k4, k153u⟩ | go_keep)
                  clear hK K hH1
                  refine wpAnyH_ready (rs := [6]) (by kernel_rfl) (by simp) ?_
                  refine AllReadyH.cons (o := _) rfl (fun K hK => ?_) ?_
                  · (try simp only [List.getElem_toArray, List.getElem_cons_succ, List.getElem_cons_zero])
                    go_simp
                    (go_at_call 17; refine (HPK.out _).mono ?_; rintro ev _ ⟨rfl, rfl⟩)
                    (try go_wp2_with fail)
                    refine hK.out _ _ ?_ (fun hH3 => ?_)
                    · (try dsimp only); (first | with_reducible exact ⟨k0, k1, k2, k3, k4, k153u⟩ | go_keep)
                    clear hK K hH2
                    refine wpAnyH_take (i := 7) (oi := _) (v := ?_) rfl (by kernel_rfl) (by kernel_rfl) (by kernel_rfl) (fun _ _ _ h => h) (Or.inl ⟨by rfl, ?_⟩) (by assumption) ?_
                    rotate_left
                    · intro w8 hSw
                      (try dsimp only at hSw)
                      (try simp only [List.getElem_toArray, List.getElem_cons_succ, List.getElem_cons_zero])
                      go_simp <;> with_reducible rfl
                    (try simp only [List.getElem_toArray, List.getElem_cons_succ, List.getElem_cons_zero])
                    (try simp only [Act.put, List.setIfInBounds_toArray, List.set_cons_zero, List.set_cons_succ])
                    refine wpAnyH_ready (rs := [8]) (by kernel_rfl) (by simp) ?_
                    refine AllReadyH.cons (o := _) rfl (fun K hK => ?_) ?_
                    · (try simp only [List.getElem_toArray, List.getElem_cons_succ, List.getElem_cons_zero])
                      go_simp
                      refine hK.out _ _ ?_ (fun hH4 => ?_)
                      · (try dsimp only); (first | with_reducible exact ⟨k0, k1, k2, k3, k4, k153u⟩ | go_keep)
                      clear hK K hH3
                      refine wpAnyH_ready (rs := [9]) (by kernel_rfl) (by simp) ?_
                      refine AllReadyH.cons (o := _) rfl (fun K hK => ?_) ?_
                      · (try simp only [List.getElem_toArray, List.getElem_cons_succ, List.getElem_cons_zero])
                        go_simp
                        (go_at_call 18; (with_reducible refine (HCALL.out _ hbB).mono ?_); rintro ev w9 ⟨x0, x1, x3, x4, y0, z0, y1, z1, y3, z3, y4, z4, kc, ax, e, rfl, hap, hb9⟩; have HB9 := Below.step hbB hb9; obtain ⟨p0, p1, p2, p3, p4⟩ := (HSU.out.below HB9).hs.words; have p5 := (HB9.cell (p := ⟨G15, 3, none⟩) hG15u).trans k153u; have hB9 := Nat.lt_of_lt_of_le hBu HB9.size; have hg9 := Nat.lt_of_lt_of_le hG15u HB9.size; obtain ⟨⟨e0, e1, e2, e3, e4⟩, f0, f1, f2, f3, f4⟩ := at5 HKB.out HFB.out HSB.out hb9; have hs9 : wu.heap.size + 1 < w9.heap.size := Nat.lt_of_lt_of_le HSB.out hb9.size; have HAP := Hid.mk (AP.set5 hap HSB.out (.slice x0 y0 z0) (.slice x1 y1 z1) (.int .i64 kc) (.slice x3 y3 z3) (.slice x4 y4 z4)); have HKX := Hid.mk (box_set5 (box_step HKB.out HSB.out hb9) (.slice x0 y0 z0) (.slice x1 y1 z1) (.int .i64 kc) (.slice x3 y3 z3) (.slice x4 y4 z4)); have HBX := Hid.mk (below_set5 (g := wu.heap.size + 1) HB9 (Nat.le_succ _) (.slice x0 y0 z0) (.slice x1 y1 z1) (.int .i64 kc) (.slice x3 y3 z3) (.slice x4 y4 z4)); have hGX := lt_set5 (g := wu.heap.size + 1) hs9 (.slice x0 y0 z0) (.slice x1 y1 z1) (.int .i64 kc) (.slice x3 y3 z3) (.slice x4 y4 z4); have hGM : wu.heap.size ≤ (((wu.alloc (.cells #[.int .i64 0, .int .i64 2, .int .i64 4, .int .i64 1, .int .i64 8] 3)).alloc (.cells #[.slice none 0 0, .slice none 0 0, .int .i64 0, .slice none 0 0, .slice none 0 0] 34)).drew).heap.size := hbB.size; have hGG : wu.heap.size ≤ wu.heap.size + 1 := (Nat.le_succ _))
                        (try go_wp2_with fail)
                        refine hK.out _ _ ?_ (fun hH5 => ?_)
                        · (try dsimp only); (first | with_reducible exact ⟨p0, p1, p2, p3, p4, p5⟩ | go_keep)
                        clear hK K hH4
                        refine wpAnyH_take (i := 10) (oi := _) (v := ?_) rfl (by kernel_rfl) (by kernel_rfl) (by kernel_rfl) (fun _ _ _ h => h) (Or.inl ⟨by rfl, ?_⟩) (by assumption) ?_
                        rotate_left
                        · intro w8 hSw
                          (try dsimp only at hSw)
                          (try simp only [List.getElem_toArray, List.getElem_cons_succ, List.getElem_cons_zero])
                          go_simp <;> with_reducible rfl
                        (try simp only [List.getElem_toArray, List.getElem_cons_succ, List.getElem_cons_zero])
                        (try simp only [Act.put, List.setIfInBounds_toArray, List.set_cons_zero, List.set_cons_succ])
                        refine wpAnyH_take (i := 11) (oi := _) (v := ?_) rfl (by kernel_rfl) (by kernel_rfl) (by kernel_rfl) (fun _ _ _ h => h) (Or.inl ⟨by rfl, ?_⟩) (by assumption) ?_
                        rotate_left
                        · intro w8 hSw
                          (try dsimp only at hSw)
                          (try simp only [List.getElem_toArray, List.getElem_cons_succ, List.getElem_cons_zero])
                          go_simp <;> with_reducible rfl
                        (try simp only [List.getElem_toArray, List.getElem_cons_succ, List.getElem_cons_zero])
                        (try simp only [Act.put, List.setIfInBounds_toArray, List.set_cons_zero, List.set_cons_succ])
                        refine wpAnyH_take (i := 12) (oi := _) (v := ?_) rfl (by kernel_rfl) (by kernel_rfl) (by kernel_rfl) (fun _ _ _ h => h) (Or.inl ⟨by rfl, ?_⟩) (by assumption) ?_
                        rotate_left
                        · intro w8 hSw
                          (try dsimp only at hSw)
                          (try simp only [List.getElem_toArray, List.getElem_cons_succ, List.getElem_cons_zero])
                          go_simp <;> with_reducible rfl
                        (try simp only [List.getElem_toArray, List.getElem_cons_succ, List.getElem_cons_zero])
                        (try simp only [Act.put, List.setIfInBounds_toArray, List.set_cons_zero, List.set_cons_succ])
                        refine wpAnyH_take (i := 13) (oi := _) (v := ?_) rfl (by kernel_rfl) (by kernel_rfl) (by kernel_rfl) (fun _ _ _ h => h) (Or.inl ⟨by rfl, ?_⟩) (by assumption) ?_
                        rotate_left
                        · intro w8 hSw
                          (try dsimp only at hSw)
                          (try simp only [List.getElem_toArray, List.getElem_cons_succ, List.getElem_cons_zero])
                          go_simp <;> with_reducible rfl
                        (try simp only [List.getElem_toArray, List.getElem_cons_succ, List.getElem_cons_zero])
                        (try simp only [Act.put, List.setIfInBounds_toArray, List.set_cons_zero, List.set_cons_succ])
                        refine wpAnyH_ready (rs := [15]) (by kernel_rfl) (by simp) ?_
                        refine AllReadyH.cons (o := _) rfl (fun K hK => ?_) ?_
                        · (try simp only [List.getElem_toArray, List.getElem_cons_succ, List.getElem_cons_zero])
                          go_simp
                          refine hK.out _ _ ?_ (fun hH6 => ?_)
                          · (try dsimp only); (first | with_reducible exact ⟨set5_other p0 hBne2, set5_other p1 hBne2, set5_other p2 hBne2, set5_other p3 hBne2, set5_other p4 hBne2, set5_other p5 hgne2⟩ | go_keep)
                          clear hK K hH5
                          refine wpAnyH_take (i := 16) (oi := _) (v := ?_) rfl (by kernel_rfl) (by kernel_rfl) (by kernel_rfl) (fun _ _ _ h => h) (Or.inl ⟨by rfl, ?_⟩) (by assumption) ?_
                          rotate_left
                          · intro w8 hSw
                            (try dsimp only at hSw)
                            (try simp only [List.getElem_toArray, List.getElem_cons_succ, List.getElem_cons_zero])
                            go_simp <;> with_reducible rfl
                          (try simp only [List.getElem_toArray, List.getElem_cons_succ, List.getElem_cons_zero])
                          (try simp only [Act.put, List.setIfInBounds_toArray, List.set_cons_zero, List.set_cons_succ])
                          refine wpAnyH_take (i := 17) (oi := _) (v := ?_) rfl (by kernel_rfl) (by kernel_rfl) (by kernel_rfl) (fun _ _ _ h => h) (Or.inl ⟨by rfl, ?_⟩) (by assumption) ?_
                          rotate_left
                          · intro w8 hSw
                            (try dsimp only at hSw)
                            (try simp only [List.getElem_toArray, List.getElem_cons_succ, List.getElem_cons_zero])
                            go_simp <;> with_reducible rfl
                          (try simp only [List.getElem_toArray, List.getElem_cons_succ, List.getElem_cons_zero])
                          (try simp only [Act.put, List.setIfInBounds_toArray, List.set_cons_zero, List.set_cons_succ])
                          refine wpAnyH_done (by kernel_rfl) ?_ _
                          go_wp2_with fail
                          go_meet
                          case rel => with_reducible exact ⟨_, _, _, _, _, _, _, ax, e, rfl, rfl, rfl, HAP, HKX, hGX, hGM, hGG, HBX⟩
                        exact AllReadyH.nil
                      exact AllReadyH.nil
                    exact AllReadyH.nil
                  exact AllReadyH.nil
                exact AllReadyH.nil
              refine AllReadyH.cons (o := _) rfl (fun K hK => ?_) ?_
              · (try simp only [List.getElem_toArray, List.getElem_cons_succ, List.getElem_cons_zero])
                go_simp
                (go_at_call 17; refine (HPK.out _).mono ?_; rintro ev _ ⟨rfl, rfl⟩)
                (try go_wp2_with fail)
                refine hK.out _ _ ?_ (fun hH1 => ?_)
                · (try dsimp only); (first | with_reducible exact ⟨k0, k1, k2, k3, k4, k153u⟩ | go_keep)
                clear hK K hH0
                refine wpAnyH_ready (rs := [3, 14]) (by kernel_rfl) (by simp) ?_
                refine AllReadyH.cons (o := _) rfl (fun K hK => ?_) ?_
                · (try simp only [List.getElem_toArray, List.getElem_cons_succ, List.getElem_cons_zero])
                  go_simp
                  refine hK.out _ _ ?_ (fun hH2 => ?_)
                  · (try dsimp only); (first | with_reducible exact ⟨k0, k1, k2, k3, k4, k153u⟩ | go_keep)
                  clear hK K hH1
                  refine wpAnyH_take (i := 7) (oi := _) (v := ?_) rfl (by kernel_rfl) (by kernel_rfl) (by kernel_rfl) (fun _ _ _ h => h) (Or.inl ⟨by rfl, ?_⟩) (by assumption) ?_
                  rotate_left
                  · intro w8 hSw
                    (try dsimp only at hSw)
                    (try simp only [List.getElem_toArray, List.getElem_cons_succ, List.getElem_cons_zero])
                    go_simp <;> with_reducible rfl
                  (try simp only [List.getElem_toArray, List.getElem_cons_succ, List.getElem_cons_zero])
                  (try simp only [Act.put, List.setIfInBounds_toArray, List.set_cons_zero, List.set_cons_succ])
                  refine wpAnyH_ready (rs := [8, 14]) (by kernel_rfl) (by simp) ?_
                  refine AllReadyH.cons (o := _) rfl (fun K hK => ?_) ?_
                  · (try simp only [List.getElem_toArray, List.getElem_cons_succ, List.getElem_cons_zero])
                    go_simp
                    refine hK.out _ _ ?_ (fun hH3 => ?_)
                    · (try dsimp only); (first | with_reducible exact ⟨k0, k1, k2, k3, k4, k153u⟩ | go_keep)
                    clear hK K hH2
                    refine wpAnyH_ready (rs := [9, 14]) (by kernel_rfl) (by simp) ?_
                    refine AllReadyH.cons (o := _) rfl (fun K hK => ?_) ?_
                    · (try simp only [List.getElem_toArray, List.getElem_cons_succ, List.getElem_cons_zero])
                      go_simp
                      (go_at_call 18; (with_reducible refine (HCALL.out _ hbA).mono ?_); rintro ev w9 ⟨x0, x1, x3, x4, y0, z0, y1, z1, y3, z3, y4, z4, kc, ax, e, rfl, hap, hb9⟩; have HB9 := Below.step hbA hb9; obtain ⟨p0, p1, p2, p3, p4⟩ := (HSU.out.below HB9).hs.words; have p5 := (HB9.cell (p := ⟨G15, 3, none⟩) hG15u).trans k153u; have hB9 := Nat.lt_of_lt_of_le hBu HB9.size; have hg9 := Nat.lt_of_lt_of_le hG15u HB9.size; have hab := below_alloc w9 (.cells #[.slice x0 y0 z0, .slice x1 y1 z1, .int .i64 kc, .slice x3 y3 z3, .slice x4 y4 z4] 34); have HAP := Hid.mk (AP.below hap hab); have HKX := Hid.mk (box_new w9 #[.slice x0 y0 z0, .slice x1 y1 z1, .int .i64 kc, .slice x3 y3 z3, .slice x4 y4 z4] 34); have HBX := Hid.mk (Below.step HB9 hab); have hGX : w9.heap.size < (w9.alloc (.cells #[.slice x0 y0 z0, .slice x1 y1 z1, .int .i64 kc, .slice x3 y3 z3, .slice x4 y4 z4] 34)).heap.size := box_lt w9 _; have hGM : wu.heap.size ≤ ((wu.alloc (.cells #[.int .i64 0, .int .i64 2, .int .i64 4, .int .i64 1, .int .i64 8] 3)).drew).heap.size := hbA.size; have hGG : wu.heap.size ≤ w9.heap.size := HB9.size; clear hab)
                      (try go_wp2_with fail)
                      refine hK.out _ _ ?_ (fun hH4 => ?_)
                      · (try dsimp only); (first | with_reducible exact ⟨p0, p1, p2, p3, p4, p5⟩ | go_keep)
                      clear hK K hH3
                      refine wpAnyH_take (i := 10) (oi := _) (v := ?_) rfl (by kernel_rfl) (by kernel_rfl) (by kernel_rfl) (fun _ _ _ h => h) (Or.inl ⟨by rfl, ?_⟩) (by assumption) ?_
                      rotate_left
                      · intro w8 hSw
                        (try dsimp only at hSw)
                        (try simp only [List.getElem_toArray, List.getElem_cons_succ, List.getElem_cons_zero])
                        go_simp <;> with_reducible rfl
                      (try simp only [List.getElem_toArray, List.getElem_cons_succ, List.getElem_cons_zero])
                      (try simp only [Act.put, List.setIfInBounds_toArray, List.set_cons_zero, List.set_cons_succ])
                      refine wpAnyH_take (i := 11) (oi := _) (v := ?_) rfl (by kernel_rfl) (by kernel_rfl) (by kernel_rfl) (fun _ _ _ h => h) (Or.inl ⟨by rfl, ?_⟩) (by assumption) ?_
                      rotate_left
                      · intro w8 hSw
                        (try dsimp only at hSw)
                        (try simp only [List.getElem_toArray, List.getElem_cons_succ, List.getElem_cons_zero])
                        go_simp <;> with_reducible rfl
                      (try simp only [List.getElem_toArray, List.getElem_cons_succ, List.getElem_cons_zero])
                      (try simp only [Act.put, List.setIfInBounds_toArray, List.set_cons_zero, List.set_cons_succ])
                      refine wpAnyH_take (i := 12) (oi := _) (v := ?_) rfl (by kernel_rfl) (by kernel_rfl) (by kernel_rfl) (fun _ _ _ h => h) (Or.inl ⟨by rfl, ?_⟩) (by assumption) ?_
                      rotate_left
                      · intro w8 hSw
                        (try dsimp only at hSw)
                        (try simp only [List.getElem_toArray, List.getElem_cons_succ, List.getElem_cons_zero])
                        go_simp <;> with_reducible rfl
                      (try simp only [List.getElem_toArray, List.getElem_cons_succ, List.getElem_cons_zero])
                      (try simp only [Act.put, List.setIfInBounds_toArray, List.set_cons_zero, List.set_cons_succ])
                      refine wpAnyH_take (i := 13) (oi := _) (v := ?_) rfl (by kernel_rfl) (by kernel_rfl) (by kernel_rfl) (fun _ _ _ h => h) (Or.inl ⟨by rfl, ?_⟩) (by assumption) ?_
                      rotate_left
                      · intro w8 hSw
                        (try dsimp only at hSw)
                        (try simp only [List.getElem_toArray, List.getElem_cons_succ, List.getElem_cons_zero])
                        go_simp <;> with_reducible rfl
                      (try simp only [List.getElem_toArray, List.getElem_cons_succ, List.getElem_cons_zero])
                      (try simp only [Act.put, List.setIfInBounds_toArray, List.set_cons_zero, List.set_cons_succ])
                      refine wpAnyH_ready (rs := [14]) (by kernel_rfl) (by simp) ?_
                      refine AllReadyH.cons (o := _) rfl (fun K hK => ?_) ?_
                      · (try simp only [List.getElem_toArray, List.getElem_cons_succ, List.getElem_cons_zero])
                        go_simp
                        refine hK.out _ _ ?_ (fun hH5 => ?_)
                        · (try dsimp only); (first | with_reducible exact ⟨p0, p1, p2, p3, p4, p5⟩ | go_keep)
                        clear hK K hH4
                        refine wpAnyH_ready (rs := [15]) (by kernel_rfl) (by simp) ?_
                        refine AllReadyH.cons (o := _) rfl (fun K hK => ?_) ?_
                        · (try simp only [List.getElem_toArray, List.getElem_cons_succ, List.getElem_cons_zero])
                          go_simp
                          refine hK.out _ _ ?_ (fun hH6 => ?_)
                          · (try dsimp only); (first | with_reducible exact ⟨p0, p1, p2, p3, p4, p5⟩ | go_keep)
                          clear hK K hH5
                          refine wpAnyH_take (i := 16) (oi := _) (v := ?_) rfl (by kernel_rfl) (by kernel_rfl) (by kernel_rfl) (fun _ _ _ h => h) (Or.inl ⟨by rfl, ?_⟩) (by assumption) ?_
                          rotate_left
                          · intro w8 hSw
                            (try dsimp only at hSw)
                            (try simp only [List.getElem_toArray, List.getElem_cons_succ, List.getElem_cons_zero])
                            go_simp <;> with_reducible rfl
                          (try simp only [List.getElem_toArray, List.getElem_cons_succ, List.getElem_cons_zero])
                          (try simp only [Act.put, List.setIfInBounds_toArray, List.set_cons_zero, List.set_cons_succ])
                          refine wpAnyH_take (i := 17) (oi := _) (v := ?_) rfl (by kernel_rfl) (by kernel_rfl) (by kernel_rfl) (fun _ _ _ h => h) (Or.inl ⟨by rfl, ?_⟩) (by assumption) ?_
                          rotate_left
                          · intro w8 hSw
                            (try dsimp only at hSw)
                            (try simp only [List.getElem_toArray, List.getElem_cons_succ, List.getElem_cons_zero])
                            go_simp <;> with_reducible rfl
                          (try simp only [List.getElem_toArray, List.getElem_cons_succ, List.getElem_cons_zero])
                          (try simp only [Act.put, List.setIfInBounds_toArray, List.set_cons_zero, List.set_cons_succ])
                          refine wpAnyH_done (by kernel_rfl) ?_ _
                          go_wp2_with fail
                          go_meet
                          case rel => with_reducible exact ⟨_, _, _, _, _, _, _, ax, e, rfl, rfl, rfl, HAP, HKX, hGX, hGM, hGG, HBX⟩
                        exact AllReadyH.nil
                      exact AllReadyH.nil
                    refine AllReadyH.cons (o := _) rfl (fun K hK => ?_) ?_
                    · (try simp only [List.getElem_toArray, List.getElem_cons_succ, List.getElem_cons_zero])
                      go_simp
                      refine hK.out _ _ ?_ (fun hH4 => ?_)
                      · (try dsimp only); (first | with_reducible exact ⟨k0, k1, k2, k3, k4, k153u⟩ | go_keep)
                      clear hK K hH3
                      refine wpAnyH_ready (rs := [9]) (by kernel_rfl) (by simp) ?_
                      refine AllReadyH.cons (o := _) rfl (fun K hK => ?_) ?_
                      · (try simp only [List.getElem_toArray, List.getElem_cons_succ, List.getElem_cons_zero])
                        go_simp
                        (go_at_call 18; (with_reducible refine (HCALL.out _ hbB).mono ?_); rintro ev w9 ⟨x0, x1, x3, x4, y0, z0, y1, z1, y3, z3, y4, z4, kc, ax, e, rfl, hap, hb9⟩; have HB9 := Below.step hbB hb9; obtain ⟨p0, p1, p2, p3, p4⟩ := (HSU.out.below HB9).hs.words; have p5 := (HB9.cell (p := ⟨G15, 3, none⟩) hG15u).trans k153u; have hB9 := Nat.lt_of_lt_of_le hBu HB9.size; have hg9 := Nat.lt_of_lt_of_le hG15u HB9.size; obtain ⟨⟨e0, e1, e2, e3, e4⟩, f0, f1, f2, f3, f4⟩ := at5 HKB.out HFB.out HSB.out hb9; have hs9 : wu.heap.size + 1 < w9.heap.size := Nat.lt_of_lt_of_le HSB.out hb9.size; have HAP := Hid.mk (AP.set5 hap HSB.out (.slice x0 y0 z0) (.slice x1 y1 z1) (.int .i64 kc) (.slice x3 y3 z3) (.slice x4 y4 z4)); have HKX := Hid.mk (box_set5 (box_step HKB.out HSB.out hb9) (.slice x0 y0 z0) (.slice x1 y1 z1) (.int .i64 kc) (.slice x3 y3 z3) (.slice x4 y4 z4)); have HBX := Hid.mk (below_set5 (g := wu.heap.size + 1) HB9 (Nat.le_succ _) (.slice x0 y0 z0) (.slice x1 y1 z1) (.int .i64 kc) (.slice x3 y3 z3) (.slice x4 y4 z4)); have hGX := lt_set5 (g := wu.heap.size + 1) hs9 (.slice x0 y0 z0) (.slice x1 y1 z1) (.int .i64 kc) (.slice x3 y3 z3) (.slice x4 y4 z4); have hGM : wu.heap.size ≤ (((wu.alloc (.cells #[.int .i64 0, .int .i64 2, .int .i64 4, .int .i64 1, .int .i64 8] 3)).alloc (.cells #[.slice none 0 0, .slice none 0 0, .int .i64 0, .slice none 0 0, .slice none 0 0] 34)).drew).heap.size := hbB.size; have hGG : wu.heap.size ≤ wu.heap.size + 1 := (Nat.le_succ _))
                        (try go_wp2_with fail)
                        refine hK.out _ _ ?_ (fun hH5 => ?_)
                        · (try dsimp only); (first | with_reducible exact ⟨p0, p1, p2, p3, p4, p5⟩ | go_keep)
                        clear hK K hH4
                        refine wpAnyH_take (i := 10) (oi := _) (v := ?_) rfl (by kernel_rfl) (by kernel_rfl) (by kernel_rfl) (fun _ _ _ h => h) (Or.inl ⟨by rfl, ?_⟩) (by assumption) ?_
                        rotate_left
                        · intro w8 hSw
                          (try dsimp only at hSw)
                          (try simp only [List.getElem_toArray, List.getElem_cons_succ, List.getElem_cons_zero])
                          go_simp <;> with_reducible rfl
                        (try simp only [List.getElem_toArray, List.getElem_cons_succ, List.getElem_cons_zero])
                        (try simp only [Act.put, List.setIfInBounds_toArray, List.set_cons_zero, List.set_cons_succ])
                        refine wpAnyH_take (i := 11) (oi := _) (v := ?_) rfl (by kernel_rfl) (by kernel_rfl) (by kernel_rfl) (fun _ _ _ h => h) (Or.inl ⟨by rfl, ?_⟩) (by assumption) ?_
                        rotate_left
                        · intro w8 hSw
                          (try dsimp only at hSw)
                          (try simp only [List.getElem_toArray, List.getElem_cons_succ, List.getElem_cons_zero])
                          go_simp <;> with_reducible rfl
                        (try simp only [List.getElem_toArray, List.getElem_cons_succ, List.getElem_cons_zero])
                        (try simp only [Act.put, List.setIfInBounds_toArray, List.set_cons_zero, List.set_cons_succ])
                        refine wpAnyH_take (i := 12) (oi := _) (v := ?_) rfl (by kernel_rfl) (by kernel_rfl) (by kernel_rfl) (fun _ _ _ h => h) (Or.inl ⟨by rfl, ?_⟩) (by assumption) ?_
                        rotate_left
                        · intro w8 hSw
                          (try dsimp only at hSw)
                          (try simp only [List.getElem_toArray, List.getElem_cons_succ, List.getElem_cons_zero])
                          go_simp <;> with_reducible rfl
                        (try simp only [List.getElem_toArray, List.getElem_cons_succ, List.getElem_cons_zero])
                        (try simp only [Act.put, List.setIfInBounds_toArray, List.set_cons_zero, List.set_cons_succ])
                        refine wpAnyH_take (i := 13) (oi := _) (v := ?_) rfl (by kernel_rfl) (by kernel_rfl) (by kernel_rfl) (fun _ _ _ h => h) (Or.inl ⟨by rfl, ?_⟩) (by assumption) ?_
                        rotate_left
                        · intro w8 hSw
                          (try dsimp only at hSw)
                          (try simp only [List.getElem_toArray, List.getElem_cons_succ, List.getElem_cons_zero])
                          go_simp <;> with_reducible rfl
                        (try simp only [List.getElem_toArray, List.getElem_cons_succ, List.getElem_cons_zero])
                        (try simp only [Act.put, List.setIfInBounds_toArray, List.set_cons_zero, List.set_cons_succ])
                        refine wpAnyH_ready (rs := [15]) (by kernel_rfl) (by simp) ?_
                        refine AllReadyH.cons (o := _) rfl (fun K hK => ?_) ?_
                        · (try simp only [List.getElem_toArray, List.getElem_cons_succ, List.getElem_cons_zero])
                          go_simp
                          refine hK.out _ _ ?_ (fun hH6 => ?_)
                          · (try dsimp only); (first | with_reducible exact ⟨set5_other p0 hBne2, set5_other p1 hBne2, set5_other p2 hBne2, set5_other p3 hBne2, set5_other p4 hBne2, set5_other p5 hgne2⟩ | go_keep)
                          clear hK K hH5
                          refine wpAnyH_take (i := 16) (oi := _) (v := ?_) rfl (by kernel_rfl) (by kernel_rfl) (by kernel_rfl) (fun _ _ _ h => h) (Or.inl ⟨by rfl, ?_⟩) (by assumption) ?_
                          rotate_left
                          · intro w8 hSw
                            (try dsimp only at hSw)
                            (try simp only [List.getElem_toArray, List.getElem_cons_succ, List.getElem_cons_zero])
                            go_simp <;> with_reducible rfl
                          (try simp only [List.getElem_toArray, List.getElem_cons_succ, List.getElem_cons_zero])
                          (try simp only [Act.put, List.setIfInBounds_toArray, List.set_cons_zero, List.set_cons_succ])
                          refine wpAnyH_take (i := 17) (oi := _) (v := ?_) rfl (by kernel_rfl) (by kernel_rfl) (by kernel_rfl) (fun _ _ _ h => h) (Or.inl ⟨by rfl, ?_⟩) (by assumption) ?_
                          rotate_left
                          · intro w8 hSw
                            (try dsimp only at hSw)
                            (try simp only [List.getElem_toArray, List.getElem_cons_succ, List.getElem_cons_zero])
                            go_simp <;> with_reducible rfl
                          (try simp only [List.getElem_toArray, List.getElem_cons_succ, List.getElem_cons_zero])
                          (try simp only [Act.put, List.setIfInBounds_toArray, List.set_cons_zero, List.set_cons_succ])
                          refine wpAnyH_done (by kernel_rfl) ?_ _
                          go_wp2_with fail
                          go_meet
                          case rel => with_reducible exact ⟨_, _, _, _, _, _, _, ax, e, rfl, rfl, rfl, HAP, HKX, hGX, hGM, hGG, HBX⟩
                        exact AllReadyH.nil
                      exact AllReadyH.nil
                    exact AllReadyH.nil
                  refine AllReadyH.cons (o := _) rfl (fun K hK => ?_) ?_
                  · (try simp only [List.getElem_toArray, List.getElem_cons_succ, List.getElem_cons_zero])
                    go_simp
                    refine hK.out _ _ ?_ (fun hH3 => ?_)
                    · (try dsimp only); (first | with_reducible exact ⟨k0, k1, k2, k3, k4, k153u⟩ | go_keep)
                    clear hK K hH2
                    refine wpAnyH_ready (rs := [8]) (by kernel_rfl) (by simp) ?_
                    refine AllReadyH.cons (o := _) rfl (fun K hK => ?_) ?_
                    · (try simp only [List.getElem_toArray, List.getElem_cons_succ, List.getElem_cons_zero])
                      go_simp
                      refine hK.out _ _ ?_ (fun hH4 => ?_)
                      · (try dsimp only); (first | with_reducible exact ⟨k0, k1, k2, k3, k4, k153u⟩ | go_keep)
                      clear hK K hH3
                      refine wpAnyH_ready (rs := [9]) (by kernel_rfl) (by simp) ?_
                      refine AllReadyH.cons (o := _) rfl (fun K hK => ?_) ?_
                      · (try simp only [List.getElem_toArray, List.getElem_cons_succ, List.getElem_cons_zero])
                        go_simp
                        (go_at_call 18; (with_reducible refine (HCALL.out _ hbB).mono ?_); rintro ev w9 ⟨x0, x1, x3, x4, y0, z0, y1, z1, y3, z3, y4, z4, kc, ax, e, rfl, hap, hb9⟩; have HB9 := Below.step hbB hb9; obtain ⟨p0, p1, p2, p3, p4⟩ := (HSU.out.below HB9).hs.words; have p5 := (HB9.cell (p := ⟨G15, 3, none⟩) hG15u).trans k153u; have hB9 := Nat.lt_of_lt_of_le hBu HB9.size; have hg9 := Nat.lt_of_lt_of_le hG15u HB9.size; obtain ⟨⟨e0, e1, e2, e3, e4⟩, f0, f1, f2, f3, f4⟩ := at5 HKB.out HFB.out HSB.out hb9; have hs9 : wu.heap.size + 1 < w9.heap.size := Nat.lt_of_lt_of_le HSB.out hb9.size; have HAP := Hid.mk (AP.set5 hap HSB.out (.slice x0 y0 z0) (.slice x1 y1 z1) (.int .i64 kc) (.slice x3 y3 z3) (.slice x4 y4 z4)); have HKX := Hid.mk (box_set5 (box_step HKB.out HSB.out hb9) (.slice x0 y0 z0) (.slice x1 y1 z1) (.int .i64 kc) (.slice x3 y3 z3) (.slice x4 y4 z4)); have HBX := Hid.mk (below_set5 (g := wu.heap.size + 1) HB9 (Nat.le_succ _) (.slice x0 y0 z0) (.slice x1 y1 z1) (.int .i64 kc) (.slice x3 y3 z3) (.slice x4 y4 z4)); have hGX := lt_set5 (g := wu.heap.size + 1) hs9 (.slice x0 y0 z0) (.slice x1 y1 z1) (.int .i64 kc) (.slice x3 y3 z3) (.slice x4 y4 z4); have hGM : wu.heap.size ≤ (((wu.alloc (.cells #[.int .i64 0, .int .i64 2, .int .i64 4, .int .i64 1, .int .i64 8] 3)).alloc (.cells #[.slice none 0 0, .slice none 0 0, .int .i64 0, .slice none 0 0, .slice none 0 0] 34)).drew).heap.size := hbB.size; have hGG : wu.heap.size ≤ wu.heap.size + 1 := (Nat.le_succ _))
                        (try go_wp2_with fail)
                        refine hK.out _ _ ?_ (fun hH5 => ?_)
                        · (try dsimp only); (first | with_reducible exact ⟨p0, p1, p2, p3, p4, p5⟩ | go_keep)
                        clear hK K hH4
                        refine wpAnyH_take (i := 10) (oi := _) (v := ?_) rfl (by kernel_rfl) (by kernel_rfl) (by kernel_rfl) (fun _ _ _ h => h) (Or.inl ⟨by rfl, ?_⟩) (by assumption) ?_
                        rotate_left
                        · intro w8 hSw
                          (try dsimp only at hSw)
                          (try simp only [List.getElem_toArray, List.getElem_cons_succ, List.getElem_cons_zero])
                          go_simp <;> with_reducible rfl
                        (try simp only [List.getElem_toArray, List.getElem_cons_succ, List.getElem_cons_zero])
                        (try simp only [Act.put, List.setIfInBounds_toArray, List.set_cons_zero, List.set_cons_succ])
                        refine wpAnyH_take (i := 11) (oi := _) (v := ?_) rfl (by kernel_rfl) (by kernel_rfl) (by kernel_rfl) (fun _ _ _ h => h) (Or.inl ⟨by rfl, ?_⟩) (by assumption) ?_
                        rotate_left
                        · intro w8 hSw
                          (try dsimp only at hSw)
                          (try simp only [List.getElem_toArray, List.getElem_cons_succ, List.getElem_cons_zero])
                          go_simp <;> with_reducible rfl
                        (try simp only [List.getElem_toArray, List.getElem_cons_succ, List.getElem_cons_zero])
                        (try simp only [Act.put, List.setIfInBounds_toArray, List.set_cons_zero, List.set_cons_succ])
                        refine wpAnyH_take (i := 12) (oi := _) (v := ?_) rfl (by kernel_rfl) (by kernel_rfl) (by kernel_rfl) (fun _ _ _ h => h) (Or.inl ⟨by rfl, ?_⟩) (by assumption) ?_
                        rotate_left
                        · intro w8 hSw
                          (try dsimp only at hSw)
                          (try simp only [List.getElem_toArray, List.getElem_cons_succ, List.getElem_cons_zero])
                          go_simp <;> with_reducible rfl
                        (try simp only [List.getElem_toArray, List.getElem_cons_succ, List.getElem_cons_zero])
                        (try simp only [Act.put, List.setIfInBounds_toArray, List.set_cons_zero, List.set_cons_succ])
                        refine wpAnyH_take (i := 13) (oi := _) (v := ?_) rfl (by kernel_rfl) (by kernel_rfl) (by kernel_rfl) (fun _ _ _ h => h) (Or.inl ⟨by rfl, ?_⟩) (by assumption) ?_
                        rotate_left
                        · intro w8 hSw
                          (try dsimp only at hSw)
                          (try simp only [List.getElem_toArray, List.getElem_cons_succ, List.getElem_cons_zero])
                          go_simp <;> with_reducible rfl
                        (try simp only [List.getElem_toArray, List.getElem_cons_succ, List.getElem_cons_zero])
                        (try simp only [Act.put, List.setIfInBounds_toArray, List.set_cons_zero, List.set_cons_succ])
                        refine wpAnyH_ready (rs := [15]) (by kernel_rfl) (by simp) ?_
                        refine AllReadyH.cons (o := _) rfl (fun K hK => ?_) ?_
                        · (try simp only [List.getElem_toArray, List.getElem_cons_succ, List.getElem_cons_zero])
                          go_simp
                          refine hK.out _ _ ?_ (fun hH6 => ?_)
                          · (try dsimp only); (first | with_reducible exact ⟨set5_other p0 hBne2, set5_other p1 hBne2, set5_other p2 hBne2, set5_other p3 hBne2, set5_other p4 hBne2, set5_other p5 hgne2⟩ | go_keep)
                          clear hK K hH5
                          refine wpAnyH_take (i := 16) (oi := _) (v := ?_) rfl (by kernel_rfl) (by kernel_rfl) (by kernel_rfl) (fun _ _ _ h => h) (Or.inl ⟨by rfl, ?_⟩) (by assumption) ?_
                          rotate_left
                          · intro w8 hSw
                            (try dsimp only at hSw)
                            (try simp only [List.getElem_toArray, List.getElem_cons_succ, List.getElem_cons_zero])
                            go_simp <;> with_reducible rfl
                          (try simp only [List.getElem_toArray, List.getElem_cons_succ, List.getElem_cons_zero])
                          (try simp only [Act.put, List.setIfInBounds_toArray, List.set_cons_zero, List.set_cons_succ])
                          refine wpAnyH_take (i := 17) (oi := _) (v := ?_) rfl (by kernel_rfl) (by kernel_rfl) (by kernel_rfl) (fun _ _ _ h => h) (Or.inl ⟨by rfl, ?_⟩) (by assumption) ?_
                          rotate_left
                          · intro w8 hSw
                            (try dsimp only at hSw)
                            (try simp only [List.getElem_toArray, List.getElem_cons_succ, List.getElem_cons_zero])
                            go_simp <;> with_reducible rfl
                          (try simp only [List.getElem_toArray, List.getElem_cons_succ, List.getElem_cons_zero])
                          (try simp only [Act.put, List.setIfInBounds_toArray, List.set_cons_zero, List.set_cons_succ])
                          refine wpAnyH_done (by kernel_rfl) ?_ _
                          go_wp2_with fail
                          go_meet
                          case rel => with_reducible exact ⟨_, _, _, _, _, _, _, ax, e, rfl, rfl, rfl, HAP, HKX, hGX, hGM, hGG, HBX⟩
                        exact AllReadyH.nil
                      exact AllReadyH.nil
                    exact AllReadyH.nil
                  exact AllReadyH.nil
                refine AllReadyH.cons (o := _) rfl (fun K hK => ?_) ?_
                · (try simp only [List.getElem_toArray, List.getElem_cons_succ, List.getElem_cons_zero])
                  go_simp
                  refine hK.out _ _ ?_ (fun hH2 => ?_)
                  · (try dsimp only); (first | with_reducible exact ⟨k0, k1, k2, k3, k4, k153u⟩ | go_keep)
                  clear hK K hH1
                  refine wpAnyH_ready (rs := [3]) (by kernel_rfl) (by simp) ?_
                  refine AllReadyH.cons (o := _) rfl (fun K hK => ?_) ?_
                  · (try simp only [List.getElem_toArray, List.getElem_cons_succ, List.getElem_cons_zero])
                    go_simp
                    refine hK.out _ _ ?_ (fun hH3 => ?_)
                    · (try dsimp only); (first | with_reducible exact ⟨k0, k1, k2, k3, k4, k153u⟩ | go_keep)
                    clear hK K hH2
                    refine wpAnyH_take (i := 7) (oi := _) (v := ?_) rfl (by kernel_rfl) (by kernel_rfl) (by kernel_rfl) (fun _ _ _ h => h) (Or.inl ⟨by rfl, ?_⟩) (by assumption) ?_
                    rotate_left
                    · intro w8 hSw
                      (try dsimp only at hSw)
                      (try simp only [List.getElem_toArray, List.getElem_cons_succ, List.getElem_cons_zero])
                      go_simp <;> with_reducible rfl
                    (try simp only [List.getElem_toArray, List.getElem_cons_succ, List.getElem_cons_zero])
                    (try simp only [Act.put, List.setIfInBounds_toArray, List.set_cons_zero, List.set_cons_succ])
                    refine wpAnyH_ready (rs := [8]) (by kernel_rfl) (by simp) ?_
                    refine AllReadyH.cons (o := _) rfl (fun K hK => ?_) ?_
                    · (try simp only [List.getElem_toArray, List.getElem_cons_succ, List.getElem_cons_zero])
                      go_simp
                      refine hK.out _ _ ?_ (fun hH4 => ?_)
                      · (try dsimp only); (first | with_reducible exact ⟨k0, k1, k2, k3, k4, k153u⟩ | go_keep)
                      clear hK K hH3
                      refine wpAnyH_ready (rs := [9]) (by kernel_rfl) (by simp) ?_
                      refine AllReadyH.cons (o := _) rfl (fun K hK => ?_) ?_
                      · (try simp only [List.getElem_toArray, List.getElem_cons_succ, List.getElem_cons_zero])
                        go_simp
                        (go_at_call 18; (with_reducible refine (HCALL.out _ hbC).mono ?_); rintro ev w9 ⟨x0, x1, x3, x4, y0, z0, y1, z1, y3, z3, y4, z4, kc, ax, e, rfl, hap, hb9⟩; have HB9 := Below.step hbC hb9; obtain ⟨p0, p1, p2, p3, p4⟩ := (HSU.out.below HB9).hs.words; have p5 := (HB9.cell (p := ⟨G15, 3, none⟩) hG15u).trans k153u; have hB9 := Nat.lt_of_lt_of_le hBu HB9.size; have hg9 := Nat.lt_of_lt_of_le hG15u HB9.size; obtain ⟨⟨e0, e1, e2, e3, e4⟩, f0, f1, f2, f3, f4⟩ := at5 HKC.out HFC.out HSC.out hb9; have hs9 : wu.heap.size < w9.heap.size := Nat.lt_of_lt_of_le HSC.out hb9.size; have HAP := Hid.mk (AP.set5 hap HSC.out (.slice x0 y0 z0) (.slice x1 y1 z1) (.int .i64 kc) (.slice x3 y3 z3) (.slice x4 y4 z4)); have HKX := Hid.mk (box_set5 (box_step HKC.out HSC.out hb9) (.slice x0 y0 z0) (.slice x1 y1 z1) (.int .i64 kc) (.slice x3 y3 z3) (.slice x4 y4 z4)); have HBX := Hid.mk (below_set5 (g := wu.heap.size) HB9 (Nat.le_refl _) (.slice x0 y0 z0) (.slice x1 y1 z1) (.int .i64 kc) (.slice x3 y3 z3) (.slice x4 y4 z4)); have hGX := lt_set5 (g := wu.heap.size) hs9 (.slice x0 y0 z0) (.slice x1 y1 z1) (.int .i64 kc) (.slice x3 y3 z3) (.slice x4 y4 z4); have hGM : wu.heap.size ≤ (((wu.alloc (.cells #[.slice none 0 0, .slice none 0 0, .int .i64 0, .slice none 0 0, .slice none 0 0] 34)).alloc (.cells #[.int .i64 0, .int .i64 2, .int .i64 4, .int .i64 1, .int .i64 8] 3)).drew).heap.size := hbC.size; have hGG : wu.heap.size ≤ wu.heap.size := (Nat.le_refl _))
                        (try go_wp2_with fail)
                        refine hK.out _ _ ?_ (fun hH5 => ?_)
                        · (try dsimp only); (first | with_reducible exact ⟨p0, p1, p2, p3, p4, p5⟩ | go_keep)
                        clear hK K hH4
                        refine wpAnyH_take (i := 10) (oi := _) (v := ?_) rfl (by kernel_rfl) (by kernel_rfl) (by kernel_rfl) (fun _ _ _ h => h) (Or.inl ⟨by rfl, ?_⟩) (by assumption) ?_
                        rotate_left
                        · intro w8 hSw
                          (try dsimp only at hSw)
                          (try simp only [List.getElem_toArray, List.getElem_cons_succ, List.getElem_cons_zero])
                          go_simp <;> with_reducible rfl
                        (try simp only [List.getElem_toArray, List.getElem_cons_succ, List.getElem_cons_zero])
                        (try simp only [Act.put, List.setIfInBounds_toArray, List.set_cons_zero, List.set_cons_succ])
                        refine wpAnyH_take (i := 11) (oi := _) (v := ?_) rfl (by kernel_rfl) (by kernel_rfl) (by kernel_rfl) (fun _ _ _ h => h) (Or.inl ⟨by rfl, ?_⟩) (by assumption) ?_
                        rotate_left
                        · intro w8 hSw
                          (try dsimp only at hSw)
                          (try simp only [List.getElem_toArray, List.getElem_cons_succ, List.getElem_cons_zero])
                          go_simp <;> with_reducible rfl
                        (try simp only [List.getElem_toArray, List.getElem_cons_succ, List.getElem_cons_zero])
                        (try simp only [Act.put, List.setIfInBounds_toArray, List.set_cons_zero, List.set_cons_succ])
                        refine wpAnyH_take (i := 12) (oi := _) (v := ?_) rfl (by kernel_rfl) (by kernel_rfl) (by kernel_rfl) (fun _ _ _ h => h) (Or.inl ⟨by rfl, ?_⟩) (by assumption) ?_
                        rotate_left
                        · intro w8 hSw
                          (try dsimp only at hSw)
                          (try simp only [List.getElem_toArray, List.getElem_cons_succ, List.getElem_cons_zero])
                          go_simp <;> with_reducible rfl
                        (try simp only [List.getElem_toArray, List.getElem_cons_succ, List.getElem_cons_zero])
                        (try simp only [Act.put, List.setIfInBounds_toArray, List.set_cons_zero, List.set_cons_succ])
                        refine wpAnyH_take (i := 13) (oi := _) (v := ?_) rfl (by kernel_rfl) (by kernel_rfl) (by kernel_rfl) (fun _ _ _ h => h) (Or.inl ⟨by rfl, ?_⟩) (by assumption) ?_
                        rotate_left
                        · intro w8 hSw
                          (try dsimp only at hSw)
                          (try simp only [List.getElem_toArray, List.getElem_cons_succ, List.getElem_cons_zero])
                          go_simp <;> with_reducible rfl
                        (try simp only [List.getElem_toArray, List.getElem_cons_succ, List.getElem_cons_zero])
                        (try simp only [Act.put, List.setIfInBounds_toArray, List.set_cons_zero, List.set_cons_succ])
                        refine wpAnyH_ready (rs := [15]) (by kernel_rfl) (by simp) ?_
                        refine AllReadyH.cons (o := _) rfl (fun K hK => ?_) ?_
                        · (try simp only [List.getElem_toArray, List.getElem_cons_succ, List.getElem_cons_zero])
                          go_simp
                          refine hK.out _ _ ?_ (fun hH6 => ?_)
                          · (try dsimp only); (first | with_reducible exact ⟨set5_other p0 hBne, set5_other p1 hBne, set5_other p2 hBne, set5_other p3 hBne, set5_other p4 hBne, set5_other p5 hgne⟩ | go_keep)
                          clear hK K hH5
                          refine wpAnyH_take (i := 16) (oi := _) (v := ?_) rfl (by kernel_rfl) (by kernel_rfl) (by kernel_rfl) (fun _ _ _ h => h) (Or.inl ⟨by rfl, ?_⟩) (by assumption) ?_
                          rotate_left
                          · intro w8 hSw
                            (try dsimp only at hSw)
                            (try simp only [List.getElem_toArray, List.getElem_cons_succ, List.getElem_cons_zero])
                            go_simp <;> with_reducible rfl
                          (try simp only [List.getElem_toArray, List.getElem_cons_succ, List.getElem_cons_zero])
                          (try simp only [Act.put, List.setIfInBounds_toArray, List.set_cons_zero, List.set_cons_succ])
                          refine wpAnyH_take (i := 17) (oi := _) (v := ?_) rfl (by kernel_rfl) (by kernel_rfl) (by kernel_rfl) (fun _ _ _ h => h) (Or.inl ⟨by rfl, ?_⟩) (by assumption) ?_
                          rotate_left
                          · intro w8 hSw
                            (try dsimp only at hSw)
                            (try simp only [List.getElem_toArray, List.getElem_cons_succ, List.getElem_cons_zero])
                            go_simp <;> with_reducible rfl
                          (try simp only [List.getElem_toArray, List.getElem_cons_succ, List.getElem_cons_zero])
                          (try simp only [Act.put, List.setIfInBounds_toArray, List.set_cons_zero, List.set_cons_succ])
                          refine wpAnyH_done (by kernel_rfl) ?_ _
                          go_wp2_with fail
                          go_meet
                          case rel => with_reducible exact ⟨_, _, _, _, _, _, _, ax, e, rfl, rfl, rfl, HAP, HKX, hGX, hGM, hGG, HBX⟩
                        exact AllReadyH.nil
                      exact AllReadyH.nil
                    exact AllReadyH.nil
                  exact AllReadyH.nil
                exact AllReadyH.nil
              refine AllReadyH.cons (o := _) rfl (fun K hK => ?_) ?_
              · (try simp only [List.getElem_toArray, List.getElem_cons_succ, List.getElem_cons_zero])
                go_simp
                refine hK.out _ _ ?_ (fun hH1 => ?_)
                · (try dsimp only); (first | with_reducible exact ⟨k0, k1, k2, k3, k4, k153u⟩ | go_keep)
                clear hK K hH0
                refine wpAnyH_ready (rs := [3, 6]) (by kernel_rfl) (by simp) ?_
                refine AllReadyH.cons (o := _) rfl (fun K hK => ?_) ?_
                · (try simp only [List.getElem_toArray, List.getElem_cons_succ, List.getElem_cons_zero])
                  go_simp
                  refine hK.out _ _ ?_ (fun hH2 => ?_)
                  · (try dsimp only); (first | with_reducible exact ⟨k0, k1, k2, k3, k4, k153u⟩ | go_keep)
                  clear hK K hH1
                  refine wpAnyH_ready (rs := [6]) (by kernel_rfl) (by simp) ?_
                  refine AllReadyH.cons (o := _) rfl (fun K hK => ?_) ?_
                  · (try simp only [List.getElem_toArray, List.getElem_cons_succ, List.getElem_cons_zero])
                    go_simp
                    (go_at_call 17; refine (HPK.out _).mono ?_; rintro ev _ ⟨rfl, rfl⟩)
                    (try go_wp2_with fail)
                    refine hK.out _ _ ?_ (fun hH3 => ?_)
                    · (try dsimp only); (first | with_reducible exact ⟨k0, k1, k2, k3, k4, k153u⟩ | go_keep)
                    clear hK K hH2
                    refine wpAnyH_take (i := 7) (oi := _) (v := ?_) rfl (by kernel_rfl) (by kernel_rfl) (by kernel_rfl) (fun _ _ _ h => h) (Or.inl ⟨by rfl, ?_⟩) (by assumption) ?_
                    rotate_left
                    · intro w8 hSw
                      (try dsimp only at hSw)
                      (try simp only [List.getElem_toArray, List.getElem_cons_succ, List.getElem_cons_zero])
                      go_simp <;> with_reducible rfl
                    (try simp only [List.getElem_toArray, List.getElem_cons_succ, List.getElem_cons_zero])
                    (try simp only [Act.put, List.setIfInBounds_toArray, List.set_cons_zero, List.set_cons_succ])
                    refine wpAnyH_ready (rs := [8]) (by kernel_rfl) (by simp) ?_
                    refine AllReadyH.cons (o := _) rfl (fun K hK => ?_) ?_
                    · (try simp only [List.getElem_toArray, List.getElem_cons_succ, List.getElem_cons_zero])
                      go_simp
                      refine hK.out _ _ ?_ (fun hH4 => ?_)
                      · (try dsimp only); (first | with_reducible exact ⟨k0, k1, k2, k3, k4, k153u⟩ | go_keep)
                      clear hK K hH3
                      refine wpAnyH_ready (rs := [9]) (by kernel_rfl) (by simp) ?_
                      refine AllReadyH.cons (o := _) rfl (fun K hK => ?_) ?_
                      · (try simp only [List.getElem_toArray, List.getElem_cons_succ, List.getElem_cons_zero])
                        go_simp
                        (go_at_call 18; (with_reducible refine (HCALL.out _ hbC).mono ?_); rintro ev w9 ⟨x0, x1, x3, x4, y0, z0, y1, z1, y3, z3, y4, z4, kc, ax, e, rfl, hap, hb9⟩; have HB9 := Below.step hbC hb9; obtain ⟨p0, p1, p2, p3, p4⟩ := (HSU.out.below HB9).hs.words; have p5 := (HB9.cell (p := ⟨G15, 3, none⟩) hG15u).trans k153u; have hB9 := Nat.lt_of_lt_of_le hBu HB9.size; have hg9 := Nat.lt_of_lt_of_le hG15u HB9.size; obtain ⟨⟨e0, e1, e2, e3, e4⟩, f0, f1, f2, f3, f4⟩ := at5 HKC.out HFC.out HSC.out hb9; have hs9 : wu.heap.size < w9.heap.size := Nat.lt_of_lt_of_le HSC.out hb9.size; have HAP := Hid.mk (AP.set5 hap HSC.out (.slice x0 y0 z0) (.slice x1 y1 z1) (.int .i64 kc) (.slice x3 y3 z3) (.slice x4 y4 z4)); have HKX := Hid.mk (box_set5 (box_step HKC.out HSC.out hb9) (.slice x0 y0 z0) (.slice x1 y1 z1) (.int .i64 kc) (.slice x3 y3 z3) (.slice x4 y4 z4)); have HBX := Hid.mk (below_set5 (g := wu.heap.size) HB9 (Nat.le_refl _) (.slice x0 y0 z0) (.slice x1 y1 z1) (.int .i64 kc) (.slice x3 y3 z3) (.slice x4 y4 z4)); have hGX := lt_set5 (g := wu.heap.size) hs9 (.slice x0 y0 z0) (.slice x1 y1 z1) (.int .i64 kc) (.slice x3 y3 z3) (.slice x4 y4 z4); have hGM : wu.heap.size ≤ (((wu.alloc (.cells #[.slice none 0 0, .slice none 0 0, .int .i64 0, .slice none 0 0, .slice none 0 0] 34)).alloc (.cells #[.int .i64 0, .int .i64 2, .int .i64 4, .int .i64 1, .int .i64 8] 3)).drew).heap.size := hbC.size; have hGG : wu.heap.size ≤ wu.heap.size := (Nat.le_refl _))
                        (try go_wp2_with fail)
                        refine hK.out _ _ ?_ (fun hH5 => ?_)
                        · (try dsimp only); (first | with_reducible exact ⟨p0, p1, p2, p3, p4, p5⟩ | go_keep)
                        clear hK K hH4
                        refine wpAnyH_take (i := 10) (oi := _) (v := ?_) rfl (by kernel_rfl) (by kernel_rfl) (by kernel_rfl) (fun _ _ _ h => h) (Or.inl ⟨by rfl, ?_⟩) (by assumption) ?_
                        rotate_left
                        · intro w8 hSw
                          (try dsimp only at hSw)
                          (try simp only [List.getElem_toArray, List.getElem_cons_succ, List.getElem_cons_zero])
                          go_simp <;> with_reducible rfl
                        (try simp only [List.getElem_toArray, List.getElem_cons_succ, List.getElem_cons_zero])
                        (try simp only [Act.put, List.setIfInBounds_toArray, List.set_cons_zero, List.set_cons_succ])
                        refine wpAnyH_take (i := 11) (oi := _) (v := ?_) rfl (by kernel_rfl) (by kernel_rfl) (by kernel_rfl) (fun _ _ _ h => h) (Or.inl ⟨by rfl, ?_⟩) (by assumption) ?_
                        rotate_left
                        · intro w8 hSw
                          (try dsimp only at hSw)
                          (try simp only [List.getElem_toArray, List.getElem_cons_succ, List.getElem_cons_zero])
                          go_simp <;> with_reducible rfl
                        (try simp only [List.getElem_toArray, List.getElem_cons_succ, List.getElem_cons_zero])
                        (try simp only [Act.put, List.setIfInBounds_toArray, List.set_cons_zero, List.set_cons_succ])
                        refine wpAnyH_take (i := 12) (oi := _) (v := ?_) rfl (by kernel_rfl) (by kernel_rfl) (by kernel_rfl) (fun _ _ _ h => h) (Or.inl ⟨by rfl, ?_⟩) (by assumption) ?_
                        rotate_left
                        · intro w8 hSw
                          (try dsimp only at hSw)
                          (try simp only [List.getElem_toArray, List.getElem_cons_succ, List.getElem_cons_zero])
                          go_simp <;> with_reducible rfl
                        (try simp only [List.getElem_toArray, List.getElem_cons_succ, List.getElem_cons_zero])
                        (try simp only [Act.put, List.setIfInBounds_toArray, List.set_cons_zero, List.set_cons_succ])
                        refine wpAnyH_take (i := 13) (oi := _) (v := ?_) rfl (by kernel_rfl) (by kernel_rfl) (by kernel_rfl) (fun _ _ _ h => h) (Or.inl ⟨by rfl, ?_⟩) (by assumption) ?_
                        rotate_left
                        · intro w8 hSw
                          (try dsimp only at hSw)
                          (try simp only [List.getElem_toArray, List.getElem_cons_succ, List.getElem_cons_zero])
                          go_simp <;> with_reducible rfl
                        (try simp only [List.getElem_toArray, List.getElem_cons_succ, List.getElem_cons_zero])
                        (try simp only [Act.put, List.setIfInBounds_toArray, List.set_cons_zero, List.set_cons_succ])
                        refine wpAnyH_ready (rs := [15]) (by kernel_rfl) (by simp) ?_
                        refine AllReadyH.cons (o := _) rfl (fun K hK => ?_) ?_
                        · (try simp only [List.getElem_toArray, List.getElem_cons_succ, List.getElem_cons_zero])
                          go_simp
                          refine hK.out _ _ ?_ (fun hH6 => ?_)
                          · (try dsimp only); (first | with_reducible exact ⟨set5_other p0 hBne, set5_other p1 hBne, set5_other p2 hBne, set5_other p3 hBne, set5_other p4 hBne, set5_other p5 hgne⟩ | go_keep)
                          clear hK K hH5
                          refine wpAnyH_take (i := 16) (oi := _) (v := ?_) rfl (by kernel_rfl) (by kernel_rfl) (by kernel_rfl) (fun _ _ _ h => h) (Or.inl ⟨by rfl, ?_⟩) (by assumption) ?_
                          rotate_left
                          · intro w8 hSw
                            (try dsimp only at hSw)
                            (try simp only [List.getElem_toArray, List.getElem_cons_succ, List.getElem_cons_zero])
                            go_simp <;> with_reducible rfl
                          (try simp only [List.getElem_toArray, List.getElem_cons_succ, List.getElem_cons_zero])
                          (try simp only [Act.put, List.setIfInBounds_toArray, List.set_cons_zero, List.set_cons_succ])
                          refine wpAnyH_take (i := 17) (oi := _) (v := ?_) rfl (by kernel_rfl) (by kernel_rfl) (by kernel_rfl) (fun _ _ _ h => h) (Or.inl ⟨by rfl, ?_⟩) (by assumption) ?_
                          rotate_left
                          · intro w8 hSw
                            (try dsimp only at hSw)
                            (try simp only [List.getElem_toArray, List.getElem_cons_succ, List.getElem_cons_zero])
                            go_simp <;> with_reducible rfl
                          (try simp only [List.getElem_toArray, List.getElem_cons_succ, List.getElem_cons_zero])
                          (try simp only [Act.put, List.setIfInBounds_toArray, List.set_cons_zero, List.set_cons_succ])
                          refine wpAnyH_done (by kernel_rfl) ?_ _
                          go_wp2_with fail
                          go_meet
                          case rel => with_reducible exact ⟨_, _, _, _, _, _, _, ax, e, rfl, rfl, rfl, HAP, HKX, hGX, hGM, hGG, HBX⟩
                        exact AllReadyH.nil
                      exact AllReadyH.nil
                    exact AllReadyH.nil
                  exact AllReadyH.nil
                refine AllReadyH.cons (o := _) rfl (fun K hK => ?_) ?_
                · (try simp only [List.getElem_toArray, List.getElem_cons_succ, List.getElem_cons_zero])
                  go_simp
                  (go_at_call 17; refine (HPK.out _).mono ?_; rintro ev _ ⟨rfl, rfl⟩)
                  (try go_wp2_with fail)
                  refine hK.out _ _ ?_ (fun hH2 => ?_)
                  · (try dsimp only); (first | with_reducible exact ⟨k0, k1, k2, k3, k4, k153u⟩ | go_keep)
                  clear hK K hH1
                  refine wpAnyH_ready (rs := [3]) (by kernel_rfl) (by simp) ?_
                  refine AllReadyH.cons (o := _) rfl (fun K hK => ?_) ?_
                  · (try simp only [List.getElem_toArray, List.getElem_cons_succ, List.getElem_cons_zero])
                    go_simp
                    refine hK.out _ _ ?_ (fun hH3 => ?_)
                    · (try dsimp only); (first | with_reducible exact ⟨k0, k1, k2, k3, k4, k153u⟩ | go_keep)
                    clear hK K hH2
                    refine wpAnyH_take (i := 7) (oi := _) (v := ?_) rfl (by kernel_rfl) (by kernel_rfl) (by kernel_rfl) (fun _ _ _ h => h) (Or.inl ⟨by rfl, ?_⟩) (by assumption) ?_
                    rotate_left
                    · intro w8 hSw
                      (try dsimp only at hSw)
                      (try simp only [List.getElem_toArray, List.getElem_cons_succ, List.getElem_cons_zero])
                      go_simp <;> with_reducible rfl
                    (try simp only [List.getElem_toArray, List.getElem_cons_succ, List.getElem_cons_zero])
                    (try simp only [Act.put, List.setIfInBounds_toArray, List.set_cons_zero, List.set_cons_succ])
                    refine wpAnyH_ready (rs := [8]) (by kernel_rfl) (by simp) ?_
                    refine AllReadyH.cons (o := _) rfl (fun K hK => ?_) ?_
                    · (try simp only [List.getElem_toArray, List.getElem_cons_succ, List.getElem_cons_zero])
                      go_simp
                      refine hK.out _ _ ?_ (fun hH4 => ?_)
                      · (try dsimp only); (first | with_reducible exact ⟨k0, k1, k2, k3, k4, k153u⟩ | go_keep)
                      clear hK K hH3
                      refine wpAnyH_ready (rs := [9]) (by kernel_rfl) (by simp) ?_
                      refine AllReadyH.cons (o := _) rfl (fun K hK => ?_) ?_
                      · (try simp only [List.getElem_toArray, List.getElem_cons_succ, List.getElem_cons_zero])
                        go_simp
                        (go_at_call 18; (with_reducible refine (HCALL.out _ hbC).mono ?_); rintro ev w9 ⟨x0, x1, x3, x4, y0, z0, y1, z1, y3, z3, y4, z4, kc, ax, e, rfl, hap, hb9⟩; have HB9 := Below.step hbC hb9; obtain ⟨p0, p1, p2, p3, p4⟩ := (HSU.out.below HB9).hs.words; have p5 := (HB9.cell (p := ⟨G15, 3, none⟩) hG15u).trans k153u; have hB9 := Nat.lt_of_lt_of_le hBu HB9.size; have hg9 := Nat.lt_of_lt_of_le hG15u HB9.size; obtain ⟨⟨e0, e1, e2, e3, e4⟩, f0, f1, f2, f3, f4⟩ := at5 HKC.out HFC.out HSC.out hb9; have hs9 : wu.heap.size < w9.heap.size := Nat.lt_of_lt_of_le HSC.out hb9.size; have HAP := Hid.mk (AP.set5 hap HSC.out (.slice x0 y0 z0) (.slice x1 y1 z1) (.int .i64 kc) (.slice x3 y3 z3) (.slice x4 y4 z4)); have HKX := Hid.mk (box_set5 (box_step HKC.out HSC.out hb9) (.slice x0 y0 z0) (.slice x1 y1 z1) (.int .i64 kc) (.slice x3 y3 z3) (.slice x4 y4 z4)); have HBX := Hid.mk (below_set5 (g := wu.heap.size) HB9 (Nat.le_refl _) (.slice x0 y0 z0) (.slice x1 y1 z1) (.int .i64 kc) (.slice x3 y3 z3) (.slice x4 y4 z4)); have hGX := lt_set5 (g := wu.heap.size) hs9 (.slice x0 y0 z0) (.slice x1 y1 z1) (.int .i64 kc) (.slice x3 y3 z3) (.slice x4 y4 z4); have hGM : wu.heap.size ≤ (((wu.alloc (.cells #[.slice none 0 0, .slice none 0 0, .int .i64 0, .slice none 0 0, .slice none 0 0] 34)).alloc (.cells #[.int .i64 0, .int .i64 2, .int .i64 4, .int .i64 1, .int .i64 8] 3)).drew).heap.size := hbC.size; have hGG : wu.heap.size ≤ wu.heap.size := (Nat.le_refl _))
                        (try go_wp2_with fail)
                        refine hK.out _ _ ?_ (fun hH5 => ?_)
                        · (try dsimp only); (first | with_reducible exact ⟨p0, p1, p2, p3, p4, p5⟩ | go_keep)
                        clear hK K hH4
                        refine wpAnyH_take (i := 10) (oi := _) (v := ?_) rfl (by kernel_rfl) (by kernel_rfl) (by kernel_rfl) (fun _ _ _ h => h) (Or.inl ⟨by rfl, ?_⟩) (by assumption) ?_
                        rotate_left
                        · intro w8 hSw
                          (try dsimp only at hSw)
                          (try simp only [List.getElem_toArray, List.getElem_cons_succ, List.getElem_cons_zero])
                          go_simp <;> with_reducible rfl
                        (try simp only [List.getElem_toArray, List.getElem_cons_succ, List.getElem_cons_zero])
                        (try simp only [Act.put, List.setIfInBounds_toArray, List.set_cons_zero, List.set_cons_succ])
                        refine wpAnyH_take (i := 11) (oi := _) (v := ?_) rfl (by kernel_rfl) (by kernel_rfl) (by kernel_rfl) (fun _ _ _ h => h) (Or.inl ⟨by rfl, ?_⟩) (by assumption) ?_
                        rotate_left
                        · intro w8 hSw
                          (try dsimp only at hSw)
                          (try simp only [List.getElem_toArray, List.getElem_cons_succ, List.getElem_cons_zero])
                          go_simp <;> with_reducible rfl
                        (try simp only [List.getElem_toArray, List.getElem_cons_succ, List.getElem_cons_zero])
                        (try simp only [Act.put, List.setIfInBounds_toArray, List.set_cons_zero, List.set_cons_succ])
                        refine wpAnyH_take (i := 12) (oi := _) (v := ?_) rfl (by kernel_rfl) (by kernel_rfl) (by kernel_rfl) (fun _ _ _ h => h) (Or.inl ⟨by rfl, ?_⟩) (by assumption) ?_
                        rotate_left
                        · intro w8 hSw
                          (try dsimp only at hSw)
                          (try simp only [List.getElem_toArray, List.getElem_cons_succ, List.getElem_cons_zero])
                          go_simp <;> with_reducible rfl
                        (try simp only [List.getElem_toArray, List.getElem_cons_succ, List.getElem_cons_zero])
                        (try simp only [Act.put, List.setIfInBounds_toArray, List.set_cons_zero, List.set_cons_succ])
                        refine wpAnyH_take (i := 13) (oi := _) (v := ?_) rfl (by kernel_rfl) (by kernel_rfl) (by kernel_rfl) (fun _ _ _ h => h) (Or.inl ⟨by rfl, ?_⟩) (by assumption) ?_
                        rotate_left
                        · intro w8 hSw
                          (try dsimp only at hSw)
                          (try simp only [List.getElem_toArray, List.getElem_cons_succ, List.getElem_cons_zero])
                          go_simp <;> with_reducible rfl
                        (try simp only [List.getElem_toArray, List.getElem_cons_succ, List.getElem_cons_zero])
                        (try simp only [Act.put, List.setIfInBounds_toArray, List.set_cons_zero, List.set_cons_succ])
                        refine wpAnyH_ready (rs := [15]) (by kernel_rfl) (by simp) ?_
                        refine AllReadyH.cons (o := _) rfl (fun K hK => ?_) ?_
                        · (try simp only [List.getElem_toArray, List.getElem_cons_succ, List.getElem_cons_zero])
                          go_simp
                          refine hK.out _ _ ?_ (fun hH6 => ?_)
                          · (try dsimp only); (first | with_reducible exact ⟨set5_other p0 hBne, set5_other p1 hBne, set5_other p2 hBne, set5_other p3 hBne, set5_other p4 hBne, set5_other p5 hgne⟩ | go_keep)
                          clear hK K hH5
                          refine wpAnyH_take (i := 16) (oi := _) (v := ?_) rfl (by kernel_rfl) (by kernel_rfl) (by kernel_rfl) (fun _ _ _ h => h) (Or.inl ⟨by rfl, ?_⟩) (by assumption) ?_
                          rotate_left
                          · intro w8 hSw
                            (try dsimp only at hSw)
                            (try simp only [List.getElem_toArray, List.getElem_cons_succ, List.getElem_cons_zero])
                            go_simp <;> with_reducible rfl
                          (try simp only [List.getElem_toArray, List.getElem_cons_succ, List.getElem_cons_zero])
                          (try simp only [Act.put, List.setIfInBounds_toArray, List.set_cons_zero, List.set_cons_succ])
                          refine wpAnyH_take (i := 17) (oi := _) (v := ?_) rfl (by kernel_rfl) (by kernel_rfl) (by kernel_rfl) (fun _ _ _ h => h) (Or.inl ⟨by rfl, ?_⟩) (by assumption) ?_
                          rotate_left
                          · intro w8 hSw
                            (try dsimp only at hSw)
                            (try simp only [List.getElem_toArray, List.getElem_cons_succ, List.getElem_cons_zero])
                            go_simp <;> with_reducible rfl
                          (try simp only [List.getElem_toArray, List.getElem_cons_succ, List.getElem_cons_zero])
                          (try simp only [Act.put, List.setIfInBounds_toArray, List.set_cons_zero, List.set_cons_succ])
                          refine wpAnyH_done (by kernel_rfl) ?_ _
                          go_wp2_with fail
                          go_meet
                          case rel => with_reducible exact ⟨_, _, _, _, _, _, _, ax, e, rfl, rfl, rfl, HAP, HKX, hGX, hGM, hGG, HBX⟩
                        exact AllReadyH.nil
                      exact AllReadyH.nil
                    exact AllReadyH.nil
                  exact AllReadyH.nil
                exact AllReadyH.nil
              exact AllReadyH.nil
            case rest =>
              obtain ⟨G, M, x0, x1, x2, x3, x4, ax, e, rfl, rfl, rfl, hAP, hK, hGs, hM, hG, hB⟩ := hcut
              have HSc := Hid.mk (HSU.out.below hB.out)
              have HHDT : ∀ m : Nat → Nat, (∀ r ∈ l.take (i + 1), pk r.c 5 ≠ 4) → (∀ r ∈ l.take i, pk r.c 5 ≠ 4) ∧ ci ≠ 4 := fun m hq => ⟨fun r hr => hq r (by rw [HTK.out]; exact List.mem_append_left _ hr), fun e4 => hq r (by rw [HTK.out]; simp) (by rw [hce, e4]; rfl)⟩
              have HT := Hid.mk HHDT
              clear HHDT hFe hbA hbB hbC HKB HFB HSB HKC HFC HSC HPK HCALL HSU k0 k1 k2 k3 k4 hBne hgne hBne2 hgne2
              rcases hAP.out.h with ⟨hnone, rfl⟩ | ⟨h', a9, c', hsome, rfl, rfl, rfl, rfl, rfl, rfl, rfl, hn9⟩
              · go_wp2
                go_roundw
                case rel => exact ⟨i + 1, h, cc, aw, ca, away, by omega, by omega, rfl, by go_num, HSc, HI, Nat.le_succ_of_le HLE.out, fun h => by omega, fun hq => HHD.out (HT.out (fun _ => 0) hq).1⟩
                case measure => simp [intOf]; omega
              · have hag := HRES.out.trans hsome
                have HPA := Hid.mk (HI.out.alloc (cpu := cpu) (by rw [HH0.out.1]; exact hcpu) hO4 (flagT_lt F) hag)
                have HHF : Hid (ci ≠ 4 → HeldAt (fun i => min (h0.min i) (szB (h0.zone i).l)) h → HeldAt (fun i => min (h0.min i) (szB (h0.zone i).l)) h') := fun h4 hm => by
                  rw [HF3.out h4] at hag
                  exact alloc_held hIok hm hO4 (flagT_lt F) (fun i => by
                    have := HI.out.same
                    show min (h0.min i) _ ≤ h.min i
                    unfold Hp.min
                    rw [this.m0, this.m1]
                    exact Nat.min_le_left _ _) hag
                have HSP := Hid.mk (HSc.out.put hn9 (by omega) (fun k hk => by have := (HSA.out k hk); omega))
                unfold put5 at HSP
                have g0 := hK.out 0
                have g1 := hK.out 1
                have g2 := hK.out 2
                have g3 := hK.out 3
                have g4 := hK.out 4
                simp only [List.getElem?_toArray, List.getElem?_cons_zero, List.getElem?_cons_succ] at g0 g1 g2 g3 g4
                have f0 := HSc.out.hs.fz 0
                have f1 := HSc.out.hs.fz 1
                have f2 := HSc.out.hs.fz 2
                have f3 := HSc.out.hs.fz 3
                have f4 := HSc.out.hs.fz 4
                have hBc := HSc.out.size
                obtain ⟨k0, k1, k2, k3, k4⟩ := HSc.out.hs.words
                go_upto_region 14 with fail
                clear hAP hK hn9 hag g0 g1 g2 g3 g4 f0 f1 f2 f3 f4 k0 k1 k2 k3 k4 HSc
                generalize ((((wc.setCell ⟨B, 0, none⟩ (.slice c'.az 2 c'.cz)).setCell ⟨B, 1, none⟩ (.slice c'.am 2 c'.cm)).setCell ⟨B, 2, none⟩ (.int .i64 (h'.cpus : Int))).setCell ⟨B, 3, none⟩ (.slice c'.al c'.lc.length c'.cl)).setCell ⟨B, 4, none⟩ (.slice c'.av h'.live.length c'.cv) = w10 at *
                have hbn := below_alloc w10 (.cells #[.int .i64 (a9 : Int), .int .i64 (O : Int), .int .i64 0] 40)
                have HS11 := Hid.mk (HSP.out.below hbn)
                have HNW := Hid.mk (World.news_of_block (heap_alloc_new w10 (.cells #[.int .i64 (a9 : Int), .int .i64 (O : Int), .int .i64 0] 40)))
                have hs11 := HS11.out.size
                obtain ⟨ib, hib, hibz, hibs, hibb⟩ := info_parts info_bk
                clear HSP hbn
                go_wp2_with (at_builtin; refine wpList_append_lies _ rfl _ _ 32 rfl (B + 1) 40 ib (.agg #[.int .i64 0, .int .i64 0, .int .i64 0]) 3 24 Tryd.underlying32 hib hibz hibs hibb rfl (by decide) (.slice aw away.length ca) away.length _ rfl HS11.out.oa ⟨w10.heap.size, 0, none⟩ 1 1 (encBk ⟨a9, O, 0⟩) rfl rfl HNW.out (by simp [encBk, vI, Value.oneCell']) (by decide) (by unfold maxLen; omega) (by omega) (by omega) _ rfl ?_)
                intro g9 cap9 w12 hown9 hg9 hat9 hlt9
                rw [show flat encBk away ++ encBk ⟨a9, O, 0⟩ = flat encBk (away ++ [⟨a9, O, 0⟩]) from by rw [flat_append, flat_one]] at hown9
                have hll : (away ++ [(⟨a9, O, 0⟩ : Bk)]).length = away.length + 1 := by simp
                have HS12 := Hid.mk (HS11.out.grown hg9 hown9 (fun k hk => by
                  have hk2 : g9 = k := by simpa [Value.ownBlock] using hk
                  rcases hat9 with h | h
                  · exact .inl (hk2 ▸ h)
                  · exact .inr (by rw [← hk2, h]; simp)))
                rw [← hll] at HS12 ⊢
                have HLE2 : Hid ((away ++ [(⟨a9, O, 0⟩ : Bk)]).length ≤ i + 1) := by unfold Hid; rw [hll]; have := HLE.out; omega
                clear hown9 hg9 hat9 HS11 HNW hll
                go_wp2
                go_roundw
                case rel => exact ⟨i + 1, h', c', _, cap9, away ++ [⟨a9, O, 0⟩], by omega, by omega, rfl, by go_num, HS12, HPA, HLE2, fun h => by omega, fun hq => HHF.out (HT.out (fun _ => 0) hq).2 (HHD.out (HT.out (fun _ => 0) hq).1)⟩
                case measure => simp [intOf]; omega

      · have dm : decide ((i : Int) < most) = false := decide_eq_false (by omega)
        have dm2 : decide (i < most) = false := decide_eq_false (by omega)
        have hB2w : w.heap.size + 1 < w.heap.size + 2 := by omega
        have K6r := fun o => (HS.out.bw.cell (p := ⟨w.heap.size + 1, o, none⟩) hB2w).trans (K6c.out o)
        have F6r := fun o => (HS.out.bw.frozen (p := ⟨w.heap.size + 1, o, none⟩) hB2w).trans (F6c.out o)
        have k60 := K6r 0
        have k61 := K6r 1
        have k62 := K6r 2
        have k63 := K6r 3
        have k64 := K6r 4
        have f60 := F6r 0
        have f61 := F6r 1
        have f62 := F6r 2
        have f63 := F6r 3
        have f64 := F6r 4
        simp only [List.getElem?_toArray, List.getElem?_cons_zero, List.getElem?_cons_succ] at k60 k61 k62 k63 k64
        obtain ⟨k0, k1, k2, k3, k4⟩ := HS.out.hs.words
        have hX : (fun k => k < w.heap.size + 2 ∨ (Value.slice aw away.length ca).ownBlock = some k) (w.heap.size + 1) := .inl hB2w
        have HSX := Hid.mk (((((HS.out.hs.r.far hX 0 (.slice cc.az 2 cc.cz)).far hX 1 (.slice cc.am 2 cc.cm)).far hX 2 (.int .i64 (h.cpus : Int))).far hX 3 (.slice cc.al cc.lc.length cc.cl)).far hX 4 (.slice cc.av h.live.length cc.cv))
        have KX := box_set (box_set (box_set (box_set (box_set K6r 0 (.slice cc.az 2 cc.cz)) 1 (.slice cc.am 2 cc.cm)) 2 (.int .i64 (h.cpus : Int))) 3 (.slice cc.al cc.lc.length cc.cl)) 4 (.slice cc.av h.live.length cc.cv)
        have nA := own_ne HS.out.oa (b := w.heap.size + 1) (.inl (by omega))
        have HOX := Hid.mk (own_row (own_set (own_set (own_set (own_set (own_set HS.out.oa nA (i := 0) (.slice cc.az 2 cc.cz)) nA (i := 1) (.slice cc.am 2 cc.cm)) nA (i := 2) (.int .i64 (h.cpus : Int))) nA (i := 3) (.slice cc.al cc.lc.length cc.cl)) nA (i := 4) (.slice cc.av h.live.length cc.cv)))
        have hle1 : w.heap.size ≤ w.heap.size + 1 := Nat.le_succ _
        have HBX := Hid.mk (Below.setCell (Below.setCell (Below.setCell (Below.setCell (Below.setCell (HB4.out.trans (HS.out.bw.mono (Nat.le_add_right _ _))) (show w.heap.size ≤ (⟨w.heap.size + 1, 0, none⟩ : Addr).block from hle1) (.slice cc.az 2 cc.cz)) (show w.heap.size ≤ (⟨w.heap.size + 1, 1, none⟩ : Addr).block from hle1) (.slice cc.am 2 cc.cm)) (show w.heap.size ≤ (⟨w.heap.size + 1, 2, none⟩ : Addr).block from hle1) (.int .i64 (h.cpus : Int))) (show w.heap.size ≤ (⟨w.heap.size + 1, 3, none⟩ : Addr).block from hle1) (.slice cc.al cc.lc.length cc.cl)) (show w.heap.size ≤ (⟨w.heap.size + 1, 4, none⟩ : Addr).block from hle1) (.slice cc.av h.live.length cc.cv))
        have hsz6 : w.heap.size + 1 < wr.heap.size := by omega
        clear K6r F6r nA HS
        go_wp2
        generalize ((((wr.setCell ⟨w.heap.size + 1, 0, none⟩ (.slice cc.az 2 cc.cz)).setCell ⟨w.heap.size + 1, 1, none⟩ (.slice cc.am 2 cc.cm)).setCell ⟨w.heap.size + 1, 2, none⟩ (.int .i64 (h.cpus : Int))).setCell ⟨w.heap.size + 1, 3, none⟩ (.slice cc.al cc.lc.length cc.cl)).setCell ⟨w.heap.size + 1, 4, none⟩ (.slice cc.av h.live.length cc.cv) = wx at *
        change ∀ o, wx.cell? ⟨w.heap.size + 1, o, none⟩ = (#[.slice cc.az 2 cc.cz, .slice cc.am 2 cc.cm, .int .i64 (h.cpus : Int), .slice cc.al cc.lc.length cc.cl, .slice cc.av h.live.length cc.cv] : Array Value)[o]? at KX
        refine bodyPost_ret (v := .tuple #[.agg #[.slice cc.az 2 cc.cz, .slice cc.am 2 cc.cm, .int .i64 (h.cpus : Int), .slice cc.al cc.lc.length cc.cl, .slice cc.av h.live.length cc.cv], .slice aw away.length ca, .bool true]) (by simp [results, Tryd.results11, go_sem, KX]) rfl (by rw [HHE.out]; exact ⟨⟨h, cc, aw, ca, away, rfl, HSX.out.at, HOX.out, HI.out, Nat.le_trans HLE.out him, fun hq => HN.out (by rw [hq] at hl; simp only [List.length_nil] at hl; omega), fun hq => HHD.out fun r hr => hq r (List.mem_of_mem_take hr)⟩, HBX.out⟩)

    · obtain rfl : i = n := by omega
      have dm : decide ((i : Int) < i) = false := decide_eq_false (by omega)
      have hB2w : w.heap.size + 1 < w.heap.size + 2 := by omega
      have K6r := fun o => (HS.out.bw.cell (p := ⟨w.heap.size + 1, o, none⟩) hB2w).trans (K6c.out o)
      have F6r := fun o => (HS.out.bw.frozen (p := ⟨w.heap.size + 1, o, none⟩) hB2w).trans (F6c.out o)
      have k60 := K6r 0
      have k61 := K6r 1
      have k62 := K6r 2
      have k63 := K6r 3
      have k64 := K6r 4
      have f60 := F6r 0
      have f61 := F6r 1
      have f62 := F6r 2
      have f63 := F6r 3
      have f64 := F6r 4
      simp only [List.getElem?_toArray, List.getElem?_cons_zero, List.getElem?_cons_succ] at k60 k61 k62 k63 k64
      obtain ⟨k0, k1, k2, k3, k4⟩ := HS.out.hs.words
      have hX : (fun k => k < w.heap.size + 2 ∨ (Value.slice aw away.length ca).ownBlock = some k) (w.heap.size + 1) := .inl hB2w
      have HSX := Hid.mk (((((HS.out.hs.r.far hX 0 (.slice cc.az 2 cc.cz)).far hX 1 (.slice cc.am 2 cc.cm)).far hX 2 (.int .i64 (h.cpus : Int))).far hX 3 (.slice cc.al cc.lc.length cc.cl)).far hX 4 (.slice cc.av h.live.length cc.cv))
      have KX := box_set (box_set (box_set (box_set (box_set K6r 0 (.slice cc.az 2 cc.cz)) 1 (.slice cc.am 2 cc.cm)) 2 (.int .i64 (h.cpus : Int))) 3 (.slice cc.al cc.lc.length cc.cl)) 4 (.slice cc.av h.live.length cc.cv)
      have nA := own_ne HS.out.oa (b := w.heap.size + 1) (.inl (by omega))
      have HOX := Hid.mk (own_row (own_set (own_set (own_set (own_set (own_set HS.out.oa nA (i := 0) (.slice cc.az 2 cc.cz)) nA (i := 1) (.slice cc.am 2 cc.cm)) nA (i := 2) (.int .i64 (h.cpus : Int))) nA (i := 3) (.slice cc.al cc.lc.length cc.cl)) nA (i := 4) (.slice cc.av h.live.length cc.cv)))
      have hle1 : w.heap.size ≤ w.heap.size + 1 := Nat.le_succ _
      have HBX := Hid.mk (Below.setCell (Below.setCell (Below.setCell (Below.setCell (Below.setCell (HB4.out.trans (HS.out.bw.mono (Nat.le_add_right _ _))) (show w.heap.size ≤ (⟨w.heap.size + 1, 0, none⟩ : Addr).block from hle1) (.slice cc.az 2 cc.cz)) (show w.heap.size ≤ (⟨w.heap.size + 1, 1, none⟩ : Addr).block from hle1) (.slice cc.am 2 cc.cm)) (show w.heap.size ≤ (⟨w.heap.size + 1, 2, none⟩ : Addr).block from hle1) (.int .i64 (h.cpus : Int))) (show w.heap.size ≤ (⟨w.heap.size + 1, 3, none⟩ : Addr).block from hle1) (.slice cc.al cc.lc.length cc.cl)) (show w.heap.size ≤ (⟨w.heap.size + 1, 4, none⟩ : Addr).block from hle1) (.slice cc.av h.live.length cc.cv))
      have hsz6 : w.heap.size + 1 < wr.heap.size := by omega
      clear K6r F6r nA HS
      go_wp2
      generalize ((((wr.setCell ⟨w.heap.size + 1, 0, none⟩ (.slice cc.az 2 cc.cz)).setCell ⟨w.heap.size + 1, 1, none⟩ (.slice cc.am 2 cc.cm)).setCell ⟨w.heap.size + 1, 2, none⟩ (.int .i64 (h.cpus : Int))).setCell ⟨w.heap.size + 1, 3, none⟩ (.slice cc.al cc.lc.length cc.cl)).setCell ⟨w.heap.size + 1, 4, none⟩ (.slice cc.av h.live.length cc.cv) = wx at *
      change ∀ o, wx.cell? ⟨w.heap.size + 1, o, none⟩ = (#[.slice cc.az 2 cc.cz, .slice cc.am 2 cc.cm, .int .i64 (h.cpus : Int), .slice cc.al cc.lc.length cc.cl, .slice cc.av h.live.length cc.cv] : Array Value)[o]? at KX
      refine bodyPost_ret (v := .tuple #[.agg #[.slice cc.az 2 cc.cz, .slice cc.am 2 cc.cm, .int .i64 (h.cpus : Int), .slice cc.al cc.lc.length cc.cl, .slice cc.av h.live.length cc.cv], .slice aw away.length ca, .bool true]) (by simp [results, Tryd.results11, go_sem, KX]) rfl (by rw [HHE.out]; exact ⟨⟨h, cc, aw, ca, away, rfl, HSX.out.at, HOX.out, HI.out, Nat.le_trans HLE.out him, fun hq => HN.out (by rw [hq] at hl; simp only [List.length_nil] at hl; omega), fun hq => HHD.out fun r hr => hq r (List.mem_of_mem_take hr)⟩, HBX.out⟩)

end Go.Proofs.YtjljcifpcljlaaaDoor
