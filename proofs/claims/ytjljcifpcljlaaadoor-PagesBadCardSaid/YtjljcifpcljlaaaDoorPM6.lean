/- Pp8, Blk22, Pp9, InsL, Pp10, Hp9, Pi, Boot1, Boot2, Rgs, Boot3, Bt, Boot8, Zn5: texts of this claim, joined. -/
import Derived.Test.YtjljcifpcljlaaaDoorPM1
import Derived.Test.YtjljcifpcljlaaaDoorPM2
import Derived.Test.YtjljcifpcljlaaaDoorPM3
import Derived.Test.YtjljcifpcljlaaaDoorPM4
import Derived.Test.YtjljcifpcljlaaaDoorPM5
import Derived.Deep.AppendLies
import Derived.Deep.DeepCutAuto
import Derived.Deep.RegionLaw
import Derived.Lib.SliceRun
import Derived.Deep.RegionHeld3
/- Contract of package pages: back, on the heap behind a pointer. -/
namespace Go.Proofs.YtjljcifpcljlaaaDoor
open Go.RowKit
set_option linter.unusedVariables false

section
variable {W : World} {G : Nat} {X : Nat → Prop} {h : Hp} {c : Hc}
theorem HR.zat (hs : HR W G X h c) {i : Nat} (hi : i < 2) : ZAt W (c.zone i).a1 (c.zone i).a2 (c.zone i).n1 (c.zone i).n2 (h.zone i) := by
  unfold Hc.zone Hp.zone
  obtain rfl | rfl : i = 0 ∨ i = 1 := by omega
  · exact hs.z0
  · exact hs.z1
theorem HR.zcells (hs : HR W G X h c) {g : Nat} (hg : c.az = some ⟨g, 0, none⟩) {i : Nat} (hi : i < 2) : W.cell? ⟨g, i * 4, none⟩ = some (.int .i64 (h.zone i).f) ∧ W.cell? ⟨g, i * 4 + 1, none⟩ = some (.int .i64 (h.zone i).e) ∧ W.cell? ⟨g, i * 4 + 2, none⟩ = some (.slice (c.zone i).a1 (c.zone i).n1 (c.zone i).c1) ∧ W.cell? ⟨g, i * 4 + 3, none⟩ = some (.slice (c.zone i).a2 (c.zone i).n2 (c.zone i).c2) := by
  obtain ⟨b, off, h1, h2, h3⟩ := row_elem encZc_length (by decide) (own_row hs.zs) (j := i) (by simpa using hi)
  obtain ⟨rfl, rfl⟩ : g = b ∧ 0 = off := by rw [hg] at h1; simpa using h1
  have h4 := encZc_cells h3
  rw [Nat.zero_add] at h4
  have e0 := hs.e0
  have e1 := hs.e1
  unfold Hp.zone Hc.zone
  obtain rfl | rfl : i = 0 ∨ i = 1 := by omega
  · simp only [List.getElem_cons_zero, e0] at h4; exact h4
  · simp only [List.getElem_cons_succ, List.getElem_cons_zero, e1] at h4; exact h4
theorem HR.zfrz (hs : HR W G X h c) {g : Nat} (hg : c.az = some ⟨g, 0, none⟩) {i : Nat} (hi : i < 2) : W.frozen? ⟨g, i * 4, none⟩ = false ∧ W.frozen? ⟨g, i * 4 + 1, none⟩ = false ∧ W.frozen? ⟨g, i * 4 + 2, none⟩ = false ∧ W.frozen? ⟨g, i * 4 + 3, none⟩ = false := by
  obtain ⟨g', h1, _, _, _, h2⟩ := hs.zblock
  obtain rfl : g = g' := by rw [hg] at h1; simpa using h1
  exact ⟨h2 _ (by omega), h2 _ (by omega), h2 _ (by omega), h2 _ (by omega)⟩
theorem HS.words (hs : HS W G X h c) : W.cell? ⟨G, 0, none⟩ = some (.slice c.az 2 c.cz) ∧ W.cell? ⟨G, 1, none⟩ = some (.slice c.am 2 c.cm) ∧ W.cell? ⟨G, 2, none⟩ = some (.int .i64 (h.cpus : Int)) ∧ W.cell? ⟨G, 3, none⟩ = some (.slice c.al c.lc.length c.cl) ∧ W.cell? ⟨G, 4, none⟩ = some (.slice c.av h.live.length c.cv) := ⟨hs.k 0, hs.k 1, hs.k 2, hs.k 3, hs.k 4⟩
theorem setY_eq (c : Hc) (i : Nat) (y : Zc) : ∃ y0 y1, c.setY i y = { c with y0 := y0, y1 := y1 } := by
  unfold Hc.setY
  split
  · exact ⟨y, c.y1, rfl⟩
  · exact ⟨c.y0, y, rfl⟩
end
theorem zof_lt (h : Hp) (a : Nat) : h.zof a < 2 := by unfold Hp.zof; split <;> omega

set_option maxHeartbeats 4000000 in
set_option maxRecDepth 100000 in
theorem back_gen (G a o : Nat) (X : Nat → Prop) (h : Hp) (c : Hc) (w : World) (hs : HS w G X h c) (hz0 : (h.zone (h.zof a)).ok) (hfit0 : fitsB (h.zone (h.zof a)).f (h.zone (h.zof a)).e a o) (hap0 : ∀ x ∈ (h.zone (h.zof a)).l, apartB a o x) :
    Calls Tryd.prog 46 #[.pointer (some ⟨G, 0, none⟩), .int .i64 a, .int .i64 o] w fun ev w' => ev = .returned (.tuple #[]) ∧ (∃ y0 y1, HS w' G X (h.backB a o) { c with y0 := y0, y1 := y1 }) ∧ Safe X w w' := by
  have hi := zof_lt h a
  obtain ⟨g, hg, hgs, hgG, hgX, hgf⟩ := hs.r.zblock
  obtain ⟨k0, k1, k2, k3, k4⟩ := hs.words
  have hGs := hs.r.gs
  have HS0 := Hid.mk hs
  have hfit := Hid.mk hfit0
  have hz := Hid.mk hz0
  have hap := Hid.mk hap0
  have HG := Hid.mk hg
  have HF := Hid.mk hgf
  clear hs hfit0 hz0 hap0 hg hgf
  go_enter Tryd.func46, Tryd.ntmps46
  go_wp2_with fail
  refine (zone_pg _ _ _ _ _ _ _ _ _ _ _ _ _ h a _ HS0.out.r.at).mono ?_
  rintro ev w1 ⟨rfl, hb1⟩
  have HS1 := Hid.mk (HS0.out.below hb1)
  have HSF := Hid.mk (Safe.ofBelow (X := X) hb1)
  have hgs1 : g < w1.heap.size := Nat.lt_of_lt_of_le hgs hb1.size
  have hGs1 : G < w1.heap.size := Nat.lt_of_lt_of_le hGs hb1.size
  clear k0 k1 k2 k3 k4
  obtain ⟨k0, k1, k2, k3, k4⟩ := HS1.out.words
  rw [HG.out] at k0
  obtain ⟨z0, z1, z2, z3⟩ := HS1.out.r.zcells HG.out hi
  have HAT := Hid.mk (HS1.out.r.zat hi)
  have hi2 : ((h.zof a : Nat) : Int) < 2 := by omega
  clear HS0 hb1
  have HBK : Hid (h.backB a o = h.setZ (h.zof a) ((h.zone (h.zof a)).back a o)) := rfl
  generalize h.zof a = i at *
  generalize c.zone i = y at *
  generalize h.zone i = z at *
  go_wp2_with fail
  have hsd := HS1.out.below ((Below.refl w1.heap.size w1).drew)
  go_region_with (go_at_call 70; refine (back_ok _ _ _ _ _ _ z a o _ (HAT.out.below ((Below.refl w1.heap.size w1).drew)) hz.out hfit.out hap.out).mono ?_; rintro ev w3 ⟨a1', a2', n1', c1', c2', rfl, hz3, hb3⟩; have hs3 := hsd.below hb3; have q0 := hs3.words.1; rw [HG.out] at q0; obtain ⟨x0, x1, x2, x3⟩ := hs3.r.zcells HG.out hi; obtain ⟨f0, f1, f2, f3⟩ := hs3.r.zfrz HG.out hi; clear hs3)
  all_goals
    obtain ⟨hs4, sf4⟩ := hsd.putZ hb3 hi hz3 HG.out
    obtain ⟨y0, y1, ey⟩ := setY_eq c i ⟨z.back a o, a1', a2', n1', y.n2, c1', c2'⟩
    rw [ey, ← HBK.out] at hs4
    refine bodyPost_end (v := .tuple #[]) (by simp [results, Tryd.results46, go_sem]) rfl ⟨rfl, ⟨y0, y1, hs4⟩, (HSF.out.then ((Below.refl w1.heap.size w1).drew)).trans sf4⟩
theorem back_pg (G a o : Nat) (X : Nat → Prop) (h : Hp) (c : Hc) (w : World) (hs : HS w G X h c) (hk : HOk h) (hb : fitsB 0 256 a o) (hd : ∀ p, cnt h.all p + hit ⟨a, o, 0⟩ p ≤ 1) :
    Calls Tryd.prog 46 #[.pointer (some ⟨G, 0, none⟩), .int .i64 a, .int .i64 o] w fun ev w' => ev = .returned (.tuple #[]) ∧ (∃ y0 y1, HS w' G X (h.backB a o) { c with y0 := y0, y1 := y1 }) ∧ Safe X w w' :=
  back_gen G a o X h c w hs (hk.zone _) (hk.fits hb) fun x hx => apart_of_disj fun p h1 h2 => by
    have g1 := hd p
    have g2 := zone_cnt h (h.zof a) p
    have g3 := cnt_pos.2 (show covL (h.zone (h.zof a)).l p from ⟨x, hx, h2⟩)
    have g4 : hit ⟨a, o, 0⟩ p = 1 := hit_one.2 h1
    omega
end Go.Proofs.YtjljcifpcljlaaaDoor
/- Contract of package buddy: Pages. -/
namespace Go.Proofs.YtjljcifpcljlaaaDoor
open Go.RowKit
set_option linter.unusedVariables false

def sumB : List Bk → Nat
  | [] => 0
  | b :: l => 2 ^ b.o + sumB l
theorem sumB_take (l : List Bk) (i : Nat) (hi : i < l.length) : sumB (l.take (i + 1)) = sumB (l.take i) + 2 ^ l[i].o := by
  induction l generalizing i with
  | nil => simp at hi
  | cons b l ih =>
    cases i with
    | zero => simp [sumB]
    | succ i =>
      have hi' : i < l.length := by simpa using hi
      rw [List.take_succ_cons, List.take_succ_cons, sumB, sumB, ih i hi']
      simp only [List.getElem_cons_succ]
      omega
theorem sumB_le (l : List Bk) (h : ∀ b ∈ l, b.o ≤ 4) : sumB l ≤ l.length * 16 := by
  induction l with
  | nil => simp [sumB]
  | cons b l ih =>
    have h1 := ih (fun b hb => h b (by simp [hb]))
    have h2 := pow_bk (h b (by simp))
    simp only [sumB, List.length_cons]
    omega

set_option maxHeartbeats 4000000 in
set_option maxRecDepth 100000 in
theorem pages_ok (a1 a2 : Option Addr) (n1 n2 c1 c2 : Nat) (z : Zn) (w : World) (hat : ZAt w a1 a2 n1 n2 z) (hz : z.ok) :
    Calls Tryd.prog 24 #[.agg #[.int .i64 z.f, .int .i64 z.e, .slice a1 n1 c1, .slice a2 n2 c2]] w fun ev w' => ev = .returned (.tuple #[.int .i64 (sumB z.l : Nat), .int .i64 0]) ∧ Below w.heap.size w w' := by
  have hlen : z.l.length ≤ 256 := Nat.le_trans (OkL.length_le hz.2 (fun b hb => (hz.2.fit b hb).1.2.2.1)) hz.1.e2
  obtain ⟨K1, F1, hsz, hbw⟩ := boxes1 w #[.int .i64 (z.f : Int), .int .i64 (z.e : Int), .slice a1 n1 c1, .slice a2 n2 c2] 55
  have hat0 := hat.below hbw
  have l1 := hat.l1
  clear hat
  go_enter Tryd.func24, Tryd.ntmps24
  go_wp2_with fail
  generalize w.alloc (.cells #[.int .i64 (z.f : Int), .int .i64 (z.e : Int), .slice a1 n1 c1, .slice a2 n2 c2] 55) = w0 at *
  refine (check_ok _ _ _ _ _ _ z _ hat0 hz).mono ?_
  rintro ev w1 ⟨rfl, hb1⟩
  have K1b := box_step K1 hsz hb1
  have hat1 := hat0.below hb1
  have hbw1 := Below.step hbw hb1
  have hs1 := Nat.lt_of_lt_of_le hsz hb1.size
  clear K1 F1 hat0 hbw hb1
  dsimp only
  go_wp2
  go_loopw [5, 16] (fun s5 s16 wr => ∃ i : Nat, i ≤ n1 ∧ s16 = .int .i64 (i : Int) ∧ s5 = .int .i64 (sumB (z.l.take i) : Nat) ∧ Hid (Below w1.heap.size w1 wr)) (fun _ s16 _ => n1 - (intOf s16).toNat)
  case atStart => exact ⟨0, Nat.zero_le _, rfl, rfl, Below.refl _ _⟩
  case round =>
    obtain ⟨i, hi, rfl, rfl, hb⟩ := hrel
    by_cases hlt : i < n1
    · have hlt2 : i < z.l.length := by omega
      obtain ⟨bb, off, ha1, hbb, hc⟩ := row_elem encBk_length (by decide) (hat1.r1.below hb.out) hlt2
      obtain rfl := ha1
      obtain ⟨hc0, hc1, hc2⟩ := encBk_cells hc
      have hfit := (hz.2.fit _ (List.getElem_mem hlt2)).1
      have hsum := Hid.mk (sumB_take z.l i hlt2)
      have hle := sumB_le (z.l.take i) (fun b hb => (hz.2.fit b (List.mem_of_mem_take hb)).1.1)
      rw [List.length_take] at hle
      have hle2 : sumB (z.l.take i) ≤ 5000 := by omega
      clear hc hle
      generalize z.l[i] = x at *
      have hsh := shl_bk hfit.1
      have hpw := pow_bk hfit.1
      have hNew := Hid.mk (Below.step hb.out (below_alloc wr (.cells #[.int .i64 (x.a : Int), .int .i64 (x.o : Int), .int .i64 (x.t : Int)] 40)))
      obtain ⟨S, hS⟩ : ∃ S, sumB (z.l.take i) = S := ⟨_, rfl⟩
      rw [hS] at hle2 hsum ⊢
      clear hS
      have hlti : (i : Int) < n1 := by omega
      have hw : wrap64 ((S : Int) + wrap64 (2 ^ min x.o 64)) = ((S + 2 ^ x.o : Nat) : Int) := by
        rw [show min x.o 64 = x.o by have := hfit.1; omega, hsh]
        generalize 2 ^ x.o = q at *
        have := IntWalk.wrap64_in ((S : Int) + q) (by omega)
        rw [Int.natCast_add]
        exact this
      go_wp2
      go_roundw
      case rel => exact ⟨i + 1, by omega, by go_num, by rw [hsum.out]; simp only [Value.int.injEq, true_and]; exact hw, hNew⟩
      case measure => simp [intOf]; omega
    · obtain rfl : i = n1 := by omega
      have he : z.l.take i = z.l := by rw [← l1, List.take_length]
      rw [he]
      go_wp2
      go_ret2
      exact ⟨rfl, Below.step hbw1 hb.out⟩
end Go.Proofs.YtjljcifpcljlaaaDoor
/- Contract of package pages: take, on the heap behind a pointer. -/
namespace Go.Proofs.YtjljcifpcljlaaaDoor
open Go.RowKit
set_option linter.unusedVariables false

theorem Oth.safe {w w' : World} {X : Nat → Prop} (h : Oth w) (hs : Safe X w w') (h0 : X 0) : Oth w' :=
  ⟨Nat.lt_of_lt_of_le h.sz hs.size, fun i v hv => (hs.cell (p := ⟨0, i, none⟩) h.sz h0).trans (h.c i v hv)⟩
theorem Oth.below {w w' : World} (h : Oth w) (hb : Below w.heap.size w w') : Oth w' := h.mono hb (Nat.le_refl _)

theorem sumB_szB (l : List Bk) : sumB l = szB l := by
  induction l with
  | nil => rfl
  | cons b l ih => rw [sumB, szB, ih]
theorem held_le {h : Hp} (hk : HOk h) (i : Nat) (u lo : Bool) : h.held i u lo ≤ 1000 := by
  have h0 := hk.m0
  have h1 := hk.m1
  have h2 := hk.e1
  have h3 : h.min i ≤ 256 := by unfold Hp.min; split <;> omega
  unfold Hp.held
  split <;> split <;> omega
theorem take_bounds {z z' : Zn} {order t a : Nat} (h : z.ok) (ho : order ≤ 4) (ht : t < 3) (he : z.take order t = some (z', a)) : z'.f = z.f ∧ z'.e = z.e := by
  by_cases hb : ∃ b ∈ z.l, order ≤ b.o
  · obtain ⟨z1, a1, h1, h2⟩ := Zn.take_some h ho ht hb
    rw [h1] at he
    obtain ⟨rfl, rfl⟩ : z1 = z' ∧ a1 = a := by simpa using he
    exact ⟨h2.f, h2.e⟩
  · rw [Zn.take_none hb] at he
    cases he
set_option maxHeartbeats 4000000 in
set_option maxRecDepth 100000 in
theorem take_pg (G i order t flags : Nat) (X : Nat → Prop) (h : Hp) (c : Hc) (w : World) (hs : HS w G X h c) (hk : HOk h) (hi : i < 2) (hor : order ≤ 4) (ht : t < 3) (hf : flags ≤ 15) (ho : Oth w) :
    Calls Tryd.prog 65 #[.pointer (some ⟨G, 0, none⟩), .int .i64 i, .int .i64 order, .int .i64 t, .int .i64 flags] w fun ev w' =>
      (h.takeZ i order t (h.held i (decide (flags / 8 % 2 = 1)) (decide (flags % 2 = 1))) = none ∧ ev = .returned (.tuple #[.int .i64 0, .bool false]) ∧ HS w' G X h c ∧ Safe X w w') ∨
      (∃ h' a y0 y1, h.takeZ i order t (h.held i (decide (flags / 8 % 2 = 1)) (decide (flags % 2 = 1))) = some (h', a) ∧ ev = .returned (.tuple #[.int .i64 (a : Nat), .bool true]) ∧ HS w' G X h' { c with y0 := y0, y1 := y1 } ∧ Safe X w w') := by
  obtain ⟨g, hg, hgs, hgG, hgX, hgf⟩ := hs.r.zblock
  obtain ⟨k0, k1, k2, k3, k4⟩ := hs.words
  rw [hg] at k0
  obtain ⟨z0, z1, z2, z3⟩ := hs.r.zcells hg hi
  have hGs := hs.r.gs
  have HS0 := Hid.mk hs
  have HZ := Hid.mk (hk.zone i)
  have HK := Hid.mk hk
  have HG := Hid.mk hg
  have HAT := Hid.mk (hs.r.zat hi)
  have HO := Hid.mk ho
  have hi2 : (i : Int) < 2 := by omega
  have hS : szB (h.zone i).l ≤ 256 := szB_le HZ.out
  have hsh := shl_bk hor
  have hpw := pow_bk hor
  obtain ⟨D, hD⟩ : ∃ D, h.held i (decide (flags / 8 % 2 = 1)) (decide (flags % 2 = 1)) = D := ⟨_, rfl⟩
  have hDb : D ≤ 1000 := by rw [← hD]; exact held_le hk _ _ _
  have HTZ : Hid (h.takeZ i order t D = if szB (h.zone i).l < D + 2 ^ order then none else match (h.zone i).take order t with
    | some (z', a) => some (h.setZ i z', a)
    | none => none) := rfl
  rw [hD]
  have HD := Hid.mk hD
  clear hs ho hk hg hgf hD
  have HZE0 : Hid (∃ z, h.zone i = z) := ⟨_, rfl⟩
  obtain ⟨z, hze⟩ := HZE0.out
  have HZE := Hid.mk hze
  rw [hze] at z0 z1 HAT HZ hS HTZ
  clear hze HZE0
  go_enter Tryd.func65, Tryd.ntmps65
  go_wp2_with fail
  refine (pages_ok _ _ _ _ _ _ z _ HAT.out HZ.out).mono ?_
  rintro ev w1 ⟨rfl, hb1⟩
  rw [sumB_szB]
  have HS1 := Hid.mk (HS0.out.below hb1)
  have HSF := Hid.mk (Safe.ofBelow (X := X) hb1)
  have HO1 := Hid.mk (HO.out.below hb1)
  have hGs1 : G < w1.heap.size := Nat.lt_of_lt_of_le hGs hb1.size
  clear k0 k1 k2 k3 k4 z0 z1 z2 z3 HS0 HAT HO hb1 hGs hgs
  obtain ⟨k0, k1, k2, k3, k4⟩ := HS1.out.words
  generalize szB z.l = n at *
  have hn1 : n ≤ 256 := hS
  have hSn : (2 ^ order : Nat) ≤ 16 := hpw.2
  obtain ⟨s, hs⟩ : ∃ s, 2 ^ order = s := ⟨_, rfl⟩
  rw [hs] at hpw hSn HTZ
  have hsh2 : wrap64 (2 ^ order) = (s : Int) := by rw [hsh, hs]
  clear hsh hs
  have hsub : IntKind.i64.wrap ((n : Int) - s) = (n : Int) - s := IntWalk.i64_in _ (by omega)
  have HHD : Hid (∀ W, Below w1.heap.size w1 W → Calls Tryd.prog 75 #[.agg #[.slice c.az 2 c.cz, .slice c.am 2 c.cm, .int .i64 h.cpus, .slice c.al c.lc.length c.cl, .slice c.av h.live.length c.cv], .int .i64 i, .int .i64 flags] W fun ev w' => ev = .returned (.int .i64 (D : Nat)) ∧ Below W.heap.size W w') := fun W hW => by
    have h1 := held_pg _ _ _ _ c.cz c.cm c.cl c.cv _ _ _ _ _ h i flags W (HS1.out.r.at.below hW) HK.out hi hf
    rw [HD.out] at h1
    exact h1
  by_cases hlt : n < D + s
  · have d1 : decide ((n : Int) - s < D) = true := decide_eq_true (by omega)
    go_wp2_with fail
    refine wp_region_ext_lit (by kernel_rfl) (by kernel_rfl) ?_
    repeat (go_big_quiet_step ((go_at_call 75; exact Calls.ext_of (HHD.out _ (ext_below w1 _)))))
    refine wpQuiet_nil ?_
    rintro _ ⟨wx, rfl⟩
    have HS2 := Hid.mk (HS1.out.below (ext_below w1 wx))
    have HSF2 := Hid.mk (HSF.out.then (ext_below w1 wx))
    generalize ext w1 wx = w2 at *
    go_wp2
    go_ret2
    exact .inl ⟨by rw [HTZ.out, if_pos hlt], rfl, HS2.out, HSF2.out⟩
  · have d1 : decide ((n : Int) - s < D) = false := decide_eq_false (by omega)
    go_wp2_with fail
    refine wp_region_ext_lit (by kernel_rfl) (by kernel_rfl) ?_
    repeat (go_big_quiet_step ((go_at_call 75; exact Calls.ext_of (HHD.out _ (ext_below w1 _)))))
    refine wpQuiet_nil ?_
    rintro _ ⟨wx, rfl⟩
    have HS2 := Hid.mk (HS1.out.below (ext_below w1 wx))
    have HSF2 := Hid.mk (HSF.out.then (ext_below w1 wx))
    have HO2 := Hid.mk (HO1.out.below (ext_below w1 wx))
    have hGs2 : G < (ext w1 wx).heap.size := Nat.lt_of_lt_of_le hGs1 (ext_below w1 wx).size
    clear k0 k1 k2 k3 k4 HHD HS1 HSF HO1
    generalize ext w1 wx = w2 at *
    obtain ⟨k0, k1, k2, k3, k4⟩ := HS2.out.words
    rw [HG.out] at k0
    obtain ⟨z0, z1, z2, z3⟩ := HS2.out.r.zcells HG.out hi
    have HAT := HS2.out.r.zat hi
    rw [HZE.out] at z0 z1 HAT
    go_wp2_with fail
    refine (take_ok _ _ _ _ _ _ z order t w2 HAT HZ.out hor ht HO2.out).mono ?_
    rintro ev w3 (⟨hno, rfl, hb3⟩ | ⟨z', at_, a1', a2', n1', c1', c2', hso, rfl, hz3, hb3⟩)
    · have HS3 := Hid.mk (HS2.out.below hb3)
      have HSF3 := Hid.mk (HSF2.out.then hb3)
      have HNO := Hid.mk hno
      clear k0 k1 k2 k3 k4 z0 z1 z2 z3 HAT hno
      have hnew := below_alloc w3 (.cells #[.int .i64 0, .int .i64 0, .slice none 0 0, .slice none 0 0] 55)
      have HS4 := Hid.mk (HS3.out.below hnew)
      have HSF4 := Hid.mk (HSF3.out.then hnew)
      go_wp2
      go_ret2
      exact .inl ⟨by rw [HTZ.out, if_neg hlt, HNO.out], rfl, HS4.out, HSF4.out⟩
    · have HSO := Hid.mk hso
      obtain ⟨K5, F5, hsz5, hbw5⟩ := boxes1 w3 #[.int .i64 (z.f : Int), .int .i64 (z.e : Int), .slice a1' n1' c1', .slice a2' (c.zone i).n2 c2'] 55
      have HB4 := Hid.mk (Below.step hb3 hbw5)
      have HZ4 := Hid.mk (hz3.below hbw5)
      have HS4 := Hid.mk (HS2.out.below HB4.out)
      obtain ⟨z4f, z4e⟩ : z'.f = z.f ∧ z'.e = z.e := take_bounds HZ.out hor ht hso
      clear k0 k1 k2 k3 k4 z0 z1 z2 z3 HAT hso hbw5 hb3 hz3
      obtain ⟨k0, k1, k2, k3, k4⟩ := HS4.out.words
      rw [HG.out] at k0
      have b0 := K5 0
      have b1 := K5 1
      have b2 := K5 2
      have b3 := K5 3
      simp only [List.getElem?_toArray, List.getElem?_cons_zero, List.getElem?_cons_succ] at b0 b1 b2 b3
      clear K5 F5
      go_wp2_with fail
      generalize w3.alloc (.cells #[.int .i64 (z.f : Int), .int .i64 (z.e : Int), .slice a1' n1' c1', .slice a2' (c.zone i).n2 c2'] 55) = w4 at *
      generalize w3.heap.size = B4 at *
      go_still_tail 7, (by kernel_rfl)
      change wpList _ _ _ _ _ w4.drew
      have HB5 := Hid.mk (HB4.out.drew)
      have HZ5 := Hid.mk (HZ4.out.below ((Below.refl w4.heap.size w4).drew))
      have HS5 := Hid.mk (HS4.out.below ((Below.refl w4.heap.size w4).drew))
      clear k0 k1 k2 k3 k4 b0 b1 b2 b3 HB4 HZ4 HS4
      generalize w4.drew = w5 at *
      obtain ⟨x0, x1, x2, x3⟩ := HS5.out.r.zcells HG.out hi
      obtain ⟨f0, f1, f2, f3⟩ := HS5.out.r.zfrz HG.out hi
      obtain ⟨hs6, sf6⟩ := HS2.out.putZ HB5.out hi HZ5.out HG.out
      obtain ⟨y0, y1, ey⟩ := setY_eq c i ⟨z', a1', a2', n1', (c.zone i).n2, c1', c2'⟩
      rw [ey] at hs6
      rw [z4f, z4e] at hs6 sf6
      have HS6 := Hid.mk hs6
      have SF6 := Hid.mk (HSF2.out.trans sf6)
      clear hs6 sf6 ey
      go_wp2
      go_ret2
      exact .inr ⟨h.setZ i z', at_, y0, y1, by rw [HTZ.out, if_neg hlt, HSO.out], rfl, HS6.out, SF6.out⟩
end Go.Proofs.YtjljcifpcljlaaaDoor
/- Contracts of slices.Delete and slices.Insert at api.List, one element (printed by tools/insl.py). -/
namespace Go.Proofs.YtjljcifpcljlaaaDoor
open Go.RowKit
set_option linter.unusedVariables false
attribute [local go_sem ↓] sliced_cut

theorem info_lc : (Tryd.prog.info? 66).map (fun i => (i.zero, i.size, i.bytes)) = some (some (.agg #[.int .i64 0, .int .i64 0, .int .i64 0, .slice none 0 0]), 4, 48) := by kernel_rfl
theorem encLc_one (l : List Lc) : ∀ u ∈ flat encLc l, u.oneCell' = true := by
  intro u hu
  simp only [flat, List.mem_flatMap] at hu
  obtain ⟨r, _, hr⟩ := hu
  simp only [encLc, List.mem_cons, List.not_mem_nil, or_false] at hr
  rcases hr with rfl | rfl | rfl | rfl <;> rfl

theorem zero_lc (w : World) : (zeroValue 66).run Tryd.prog w = .ok (.agg #[.int .i64 0, .int .i64 0, .int .i64 0, .slice none 0 0]) w := by
  obtain ⟨i, hi, hz, hs, hb⟩ := info_parts info_lc
  simp [zeroValue, typeInfo, hi, hz]

set_option maxRecDepth 100000 in
theorem delete_lc (base : Nat) (a : Option Addr) (n c : Nat) (l : List Lc) (i : Nat) (w : World) (hown : w.ownsRow base 66 4 (.slice a n c) n (flat encLc l)) (hi : i < n) (hn : n ≤ 1000) (hbase : base ≤ w.heap.size) :
    Calls Tryd.prog 74 #[.slice a n c, .int .i64 i, .int .i64 (i + 1)] w fun ev w' => ev = .returned (.slice a (n - 1) c) ∧ w'.ownsRow base 66 4 (.slice a (n - 1) c) (n - 1) (flat encLc (l.eraseIdx i)) ∧ w.grownBy w' (Value.ownBlock (.slice a n c)) := by
  have hln : l.length = n := own_flat_len encLc_length (by decide) hown
  have hnc := own_cap hown
  have hcm : c ≤ 9223372036854775807 := by
    rcases hown.2 with ⟨h', h2⟩ | ⟨g, cap, cur, h', _, _, _, hcm, _⟩
    · simp at h'; omega
    · have : c = cap := by simp at h'; exact h'.2
      unfold maxLen at hcm; omega
  have HO := Hid.mk hown
  clear hown
  have b0 : (i : Int) ≤ n := by omega
  have b1 : (i : Int) + 1 ≤ n := by omega
  have b2 : (i : Int) ≤ c := by omega
  have b3 : (i : Int) + 1 ≤ c := by omega
  have b4 : (n : Int) ≤ c := by omega
  have b5 : (0 : Int) ≤ (i : Int) + 1 := by omega
  have b6 : ((i : Int) + 1).toNat = i + 1 := by omega
  go_enter Tryd.func74, Tryd.ntmps74
  go_wp2_with fail
  go_still_tail 6, (by kernel_rfl)
  change wpList _ _ _ _ _ w.drew
  have HO2 := own_below HO.out ((Below.refl w.heap.size w).drew) (Nat.le_refl _)
  have hrow := (own_row HO2).cut (i + 1) c 4 ((n - (i + 1)) * 4) (by omega)
  have hfl := flat_length encLc_length l
  rw [List.take_of_length_le (by rw [List.length_drop, hfl]; omega), flat_drop encLc_length] at hrow
  have hpre := own_prefix HO2 (show i ≤ n by omega)
  rw [flat_take encLc_length] at hpre
  have HG : Hid (∀ w', w.drew.grownBy w' (Value.ownBlock (.slice a i c)) → w.grownBy w' (Value.ownBlock (.slice a n c))) := fun w' h => ⟨h.os, h.tape, h.output, h.size, fun k hk hne => h.block k hk (by cases a with | none => simp [Value.ownBlock] | some x => simpa [Value.ownBlock] using hne)⟩
  have hdw : w.drew.heap.size = w.heap.size := rfl
  clear HO2
  generalize w.drew = w1 at *
  refine wpList_appr rfl _ _ 31 rfl base 66 (.agg #[.int .i64 0, .int .i64 0, .int .i64 0, .slice none 0 0]) 4 48 Tryd.underlying31 info_lc (by decide) a i c _ rfl hpre (cutA a (i + 1) c 4) (n - (i + 1)) (c - (i + 1)) (flat encLc (l.drop (i + 1))) rfl (by rw [flat_length encLc_length, List.length_drop, hln]) hrow (encLc_one _) (by omega) ?_
  intro w2 hown2 hg2
  have hG2 := HG.out w2 hg2
  rw [← flat_append, ← List.eraseIdx_eq_take_drop_succ] at hown2
  have e1 : i + (n - (i + 1)) = n - 1 := by omega
  rw [e1] at hown2 ⊢
  have HO3 := Hid.mk hown2
  have b7 : (n : Int) - 1 ≤ n := by omega
  have b8 : ((n - 1 : Nat) : Int) ≤ n := by omega
  have b9 : n - (n - 1) = 1 := by omega
  clear hown2 hg2 hrow hpre HO hfl
  obtain ⟨w3, hclr, hown3, hg3⟩ := run_clr (P := Tryd.prog) 31 0 66 Tryd.underlying31 4 (.agg #[.int .i64 0, .int .i64 0, .int .i64 0, .slice none 0 0]) zero_lc rfl (by decide) base (n - 1) 1 c (c - (n - 1)) a _ HO3.out (by omega)
  have HO4 := Hid.mk hown3
  have HG4 : Hid (w.grownBy w3 (Value.ownBlock (.slice a n c))) := ⟨hg3.os.trans hG2.os, hg3.tape.trans hG2.tape, hg3.output.trans hG2.output, Nat.le_trans hG2.size hg3.size, fun k hk hne => (hg3.block k (Nat.lt_of_lt_of_le hk hG2.size) (by cases a with | none => simp [Value.ownBlock] | some x => simpa [Value.ownBlock] using hne)).trans (hG2.block k hk hne)⟩
  clear hown3 HO3 hG2 hg3
  go_wp2
  go_ret
  exact ⟨rfl, HO4.out, HG4.out⟩
set_option maxRecDepth 100000 in
theorem insertL_end (base : Nat) (a : Option Addr) (n c g : Nat) (l : List Lc) (b : Lc) (w : World) (hown : w.ownsRow base 66 4 (.slice a n c) n (flat encLc l)) (hn : n ≤ 1000) (hbase : base ≤ w.heap.size) (hv : Row w (some ⟨g, 0, none⟩) (encLc b)) :
    Calls Tryd.prog 71 #[.slice a n c, .int .i64 n, .slice (some ⟨g, 0, none⟩) 1 1] w fun ev w' => ∃ a' c', ev = .returned (.slice a' (n + 1) c') ∧ w'.ownsRow base 66 4 (.slice a' (n + 1) c') (n + 1) (flat encLc (l ++ [b])) ∧ w.grownBy w' (Value.ownBlock (.slice a n c)) ∧ (∀ k, (Value.slice a' (n + 1) c').ownBlock = some k → (Value.slice a n c).ownBlock = some k ∨ w.heap.size ≤ k) := by
  have hnc := own_cap hown
  have HO := Hid.mk hown
  clear hown
  have b2 : (n : Int) ≤ c := by omega
  obtain ⟨ti, hti, htz, hts, htb⟩ := info_parts info_lc
  have hnews : ∀ j u, (encLc b)[j]? = some u → w.cell? ((⟨g, 0, none⟩ : Addr).add j) = some u := fun j u hj => by
    obtain ⟨b', off, e, _, h2⟩ := hv j u hj
    obtain ⟨rfl, rfl⟩ : g = b' ∧ 0 = off := by simpa using e
    rw [Addr.add_lit]; exact h2
  go_enter Tryd.func71, Tryd.ntmps71
  go_wp2_with (at_builtin; refine wpList_append_lies _ rfl _ _ 31 rfl base 66 ti (.agg #[.int .i64 0, .int .i64 0, .int .i64 0, .slice none 0 0]) 4 48 Tryd.underlying31 hti htz hts htb rfl (by decide) _ n _ rfl HO.out ⟨g, 0, none⟩ 1 1 (encLc b) rfl rfl hnews (by simp [encLc, vI, Value.oneCell']) (by decide) (by unfold maxLen; omega) (by omega) hbase _ rfl ?_)
  intro g1 c' w1 hown1 hg hlies hlt1
  rw [show flat encLc l ++ encLc b = flat encLc (l ++ [b]) from by rw [flat_append, flat_one]] at hown1
  have HO1 := Hid.mk hown1
  have HL1 := Hid.mk hlies
  clear hown1 HO hnews hlies
  go_wp2
  go_ret
  exact ⟨_, c', rfl, HO1.out, hg, fun k hk => by
    obtain rfl : g1 = k := by simpa [Value.ownBlock] using hk
    rcases HL1.out with h | h
    · exact .inl h
    · exact .inr (Nat.le_of_eq h.symm)⟩

set_option maxRecDepth 100000 in
theorem insertL_grow (base : Nat) (a : Option Addr) (n c g i : Nat) (l : List Lc) (b : Lc) (w : World) (hown : w.ownsRow base 66 4 (.slice a n c) n (flat encLc l)) (hi : i < n) (hn : n ≤ 1000) (hc : c < n + 1) (hbase : base ≤ w.heap.size) (hv : Row w (some ⟨g, 0, none⟩) (encLc b)) :
    Calls Tryd.prog 71 #[.slice a n c, .int .i64 i, .slice (some ⟨g, 0, none⟩) 1 1] w fun ev w' => ∃ a' c', ev = .returned (.slice a' (n + 1) c') ∧ w'.ownsRow base 66 4 (.slice a' (n + 1) c') (n + 1) (flat encLc (l.take i ++ b :: l.drop i)) ∧ w.grownBy w' (Value.ownBlock (.slice a n c)) ∧ (∀ k, (Value.slice a' (n + 1) c').ownBlock = some k → (Value.slice a n c).ownBlock = some k ∨ w.heap.size ≤ k) := by
  have hnc := own_cap hown
  have hln : l.length = n := own_flat_len encLc_length (by decide) hown
  have hfl := flat_length encLc_length l
  obtain ⟨G, zs, w1, hrz, hzl, hown1, hg1⟩ := run_app0 (P := Tryd.prog) 31 3 31 66 Tryd.underlying31 Tryd.underlying3 (.agg #[.int .i64 0, .int .i64 0, .int .i64 0, .slice none 0 0]) 4 48 info_lc rfl (by decide) a i c _ base (own_prefix hown (show i ≤ n by omega)) (n + 1 - i) (by omega) (by omega) (by omega) (by omega)
  rw [show i + (n + 1 - i) = n + 1 by omega] at hrz hown1
  rw [show ((n + 1 - i : Nat) : Int) = (n : Int) + 1 - (i : Int) by omega] at hrz
  rw [flat_take encLc_length] at hown1
  have HR := Hid.mk (own_row hown)
  have hGn := own_cap hown1
  have HO1 := Hid.mk hown1
  have HG1 := Hid.mk hg1
  have hbw := Hid.mk ((Below.refl w.heap.size w).grown hg1 (Nat.le_refl _) (by simp))
  have b0 : (i : Int) ≤ n := by omega
  have b2 : (i : Int) ≤ c := by omega
  have b3 : ¬ (i : Int) = n := by omega
  have b4 : (c : Int) < (n : Int) + 1 := by omega
  have b5 : (i : Int) ≤ (n : Int) + 1 := by omega
  have b6 : ((n + 1 : Nat) : Int) ≤ G := by omega
  have hsz : (Tryd.prog.info? 66).map (·.size) = some 4 := by kernel_rfl
  have hv1 := hv.mono hbw.out (Nat.le_refl _)
  have htl : (flat encLc (l.take i)).length = i * 4 := by rw [flat_length encLc_length, List.length_take]; omega
  have hcut1 : cutA (some ⟨w.heap.size, 0, none⟩) i G 4 = (some ⟨w.heap.size, 0, none⟩ : Option Addr).map (·.add (i * 4)) := by unfold cutA; rw [if_neg (by omega)]
  have hcut2 : cutA (some ⟨w.heap.size, 0, none⟩) (i + 1) G 4 = (some ⟨w.heap.size, 0, none⟩ : Option Addr).map (·.add ((i + 1) * 4)) := by unfold cutA; rw [if_neg (by omega)]
  obtain ⟨w2, hcp1, hown2, hg2⟩ := run_cp (P := Tryd.prog) 31 31 3 66 Tryd.underlying31 4 hsz (cutA (some ⟨w.heap.size, 0, none⟩) i G 4) (some ⟨g, 0, none⟩) (n + 1 - i) (G - i) 1 1 (encLc b) (by rw [show Nat.min 1 (n + 1 - i) = 1 from Nat.min_eq_left (by omega)]; rfl) hv1 (by simp [encLc, vI, Value.oneCell']) w.heap.size (n + 1) G i (some ⟨w.heap.size, 0, none⟩) _ HO1.out (fun _ => hcut1) (fun h => by rw [hcut1] at h; simp at h) (by rw [encLc_length]; omega)
  rw [encLc_length, List.take_left' htl, ← Nat.succ_mul] at hown2
  have hdrop : (flat encLc (l.take i) ++ zs).drop ((i + 1) * 4) = zs.drop 4 := by rw [List.drop_append, List.drop_eq_nil_of_le (by omega), htl, List.nil_append]; congr 1; omega
  rw [Nat.succ_eq_add_one, hdrop] at hown2
  have hbw2 := (hbw.out.grown hg2 hbw.out.size (by intro k hk; simp [Value.ownBlock] at hk; omega)).drew
  have hown2d := own_below hown2 ((Below.refl w2.heap.size w2).drew) (Nat.le_refl _)
  have hrow := ((own_row hown).mono hbw2 (Nat.le_refl _)).cut i c 4 ((n - i) * 4) (by omega)
  rw [List.take_of_length_le (by rw [List.length_drop, hfl]; omega), flat_drop encLc_length] at hrow
  have hdl : (flat encLc (l.drop i)).length = (n - i) * 4 := by rw [flat_length encLc_length, List.length_drop, hln]
  obtain ⟨w3, hcp2, hown3, hg3⟩ := run_cp (P := Tryd.prog) (w := w2.drew) 31 31 3 66 Tryd.underlying31 4 hsz (cutA (some ⟨w.heap.size, 0, none⟩) (i + 1) G 4) (cutA a i c 4) (n - i) (G - (i + 1)) (n - i) (c - i) (flat encLc (l.drop i)) (by rw [hdl, show Nat.min (n - i) (n - i) = n - i from Nat.min_self _]) hrow (encLc_one _) w.heap.size (n + 1) G (i + 1) (some ⟨w.heap.size, 0, none⟩) _ hown2d (fun _ => hcut2) (fun h => by rw [hcut2] at h; simp at h) (by rw [hdl]; omega)
  rw [show (flat encLc (l.take i) ++ encLc b ++ zs.drop 4).take ((i + 1) * 4) = flat encLc (l.take i) ++ encLc b from List.take_left' (by rw [List.length_append, htl, encLc_length]; omega), hdl, show (flat encLc (l.take i) ++ encLc b ++ zs.drop 4).drop ((i + 1) * 4 + (n - i) * 4) = [] from List.drop_eq_nil_of_le (by simp only [List.length_append, htl, encLc_length, List.length_drop, hzl]; omega), List.append_nil, ← flat_one encLc b, ← flat_append, ← flat_append, List.append_assoc, List.singleton_append] at hown3
  have HO3 := Hid.mk (own_base hown3 hbase)
  have HG3 : Hid (w.grownBy w3 (Value.ownBlock (.slice a n c))) := by
    have h1 := HG1.out
    refine ⟨hg3.os.trans (hg2.os.trans h1.os), hg3.tape.trans (hg2.tape.trans h1.tape), hg3.output.trans (hg2.output.trans h1.output), Nat.le_trans h1.size (Nat.le_trans hg2.size hg3.size), fun k hk hne => ?_⟩
    have e1 : some k ≠ Value.ownBlock (.slice (some ⟨w.heap.size, 0, none⟩) (n + 1) G) := by simp [Value.ownBlock]; omega
    exact (hg3.block k (Nat.lt_of_lt_of_le hk (Nat.le_trans h1.size hg2.size)) e1).trans ((hg2.block k (Nat.lt_of_lt_of_le hk h1.size) e1).trans (h1.block k hk (by simp)))
  have b7 : ((i : Int) + 1) ≤ G := by omega
  have s1 : IntKind.i64.wrap ((i : Int) + 1) = (i : Int) + 1 := IntWalk.i64_in _ (by omega)
  have b8 : 0 ≤ (i : Int) + 1 := by omega
  have b9 : ((i : Int) + 1).toNat = i + 1 := by omega
  have b10 : (i : Int) + 1 ≤ (n : Int) + 1 := by omega
  clear hown hown2 hown2d hown3 hg1 hg2 hg3 hown1 hrow hv1 hbw2 HO1 HR HG1 hdrop hcut1 hcut2
  go_enter Tryd.func71, Tryd.ntmps71
  go_wp2_with (at_builtin; refine wpList_app_run rfl _ _ 31 3 rfl _ _ rfl rfl hrz ?_)
  go_still_tail 8, (by kernel_rfl)
  change wpList _ _ _ _ _ w2.drew
  generalize w2.drew = w2d at *
  go_wp2
  go_ret
  exact ⟨_, _, rfl, HO3.out, HG3.out, fun k hk => .inr (by simp [Value.ownBlock] at hk; omega)⟩
set_option maxHeartbeats 1000000 in
set_option maxRecDepth 100000 in
theorem insertL_shift (base : Nat) (a : Option Addr) (n c g i : Nat) (l : List Lc) (b : Lc) (w : World) (hown : w.ownsRow base 66 4 (.slice a n c) n (flat encLc l)) (hi : i < n) (hn : n ≤ 1000) (hc : n + 1 ≤ c) (hbase : base ≤ w.heap.size) (hgb : w.heap[g]? = some (.cells (encLc b).toArray 66 (0, 0))) (hne : some g ≠ Value.ownBlock (.slice a n c)) (hv : Row w (some ⟨g, 0, none⟩) (encLc b)) :
    Calls Tryd.prog 71 #[.slice a n c, .int .i64 i, .slice (some ⟨g, 0, none⟩) 1 1] w fun ev w' => ∃ a' c', ev = .returned (.slice a' (n + 1) c') ∧ w'.ownsRow base 66 4 (.slice a' (n + 1) c') (n + 1) (flat encLc (l.take i ++ b :: l.drop i)) ∧ w.grownBy w' (Value.ownBlock (.slice a n c)) ∧ (∀ k, (Value.slice a' (n + 1) c').ownBlock = some k → (Value.slice a n c).ownBlock = some k ∨ w.heap.size ≤ k) := by
  have hln : l.length = n := own_flat_len encLc_length (by decide) hown
  have hfl := flat_length encLc_length l
  obtain ⟨g0, cur, rfl, hg0, hcs, hcm⟩ : ∃ g0 cur, a = some ⟨g0, 0, none⟩ ∧ w.heap[g0]? = some (.cells cur 66 (0, 0)) ∧ cur.size = c * 4 ∧ c ≤ maxLen := by
    rcases hown.2 with ⟨h', h2⟩ | ⟨g0, cap, cur, h', _, hg, _, hcm, hs, _⟩
    · omega
    · obtain ⟨rfl, rfl⟩ : a = some ⟨g0, 0, none⟩ ∧ c = cap := by simpa using h'
      exact ⟨g0, cur, rfl, hg, hs, hcm⟩
  have hgg : g ≠ g0 := fun e => hne (by rw [e]; rfl)
  have hcut : ∀ j, j ≤ n → cutA (some ⟨g0, 0, none⟩) j c 4 = (some ⟨g0, 0, none⟩ : Option Addr).map (·.add (j * 4)) := fun j hj => by unfold cutA; rw [if_neg (by omega)]
  have hcutl : cutA (some ⟨g0, 0, none⟩) (i + 1) c 4 = some ⟨g0, (i + 1) * 4, none⟩ := by rw [hcut _ (by omega)]; simp [Addr.add_lit]
  have hsz : (Tryd.prog.info? 66).map (·.size) = some 4 := by kernel_rfl
  have hov : (callFunc 80 #[.slice (some ⟨g, 0, none⟩) 1 1, .slice (cutA (some ⟨g0, 0, none⟩) (i + 1) c 4) (n - i) (c - (i + 1))]).run Tryd.prog w = .ok (.value (.bool false)) w := by
    rw [hcutl, run_callFunc_extern Tryd.func80 (by kernel_rfl) (by kernel_rfl) (by kernel_rfl) (e := Extern.SlicesOverlaps.overlaps #[31, 31] #[4]) (by kernel_rfl),
      Lib.run_overlaps_apart w 31 4 66 Tryd.underlying31 4 Tryd.sizeOf66 ⟨g, 0, none⟩ ⟨g0, (i + 1) * 4, none⟩ 1 1 _ _ hgg 66 66 4 (c * 4) (by simp [World.shape?, hgb, encLc]) (by simp [World.shape?, hg0, hcs]) (by omega) (by simp [World.frozen?, hgb]) (by simp [World.frozen?, hgb])]
    rfl
  obtain ⟨ys, hyl, hroom⟩ := own_room hown (show n ≤ n + 1 by omega) hc
  rw [show (n + 1 - n) * 4 = 4 by omega] at hyl
  have hdl : (flat encLc (l.drop i)).length = (n - i) * 4 := by rw [flat_length encLc_length, List.length_drop, hln]
  have htl : (flat encLc (l.take i)).length = i * 4 := by rw [flat_length encLc_length, List.length_take]; omega
  have hwd : Below w.heap.size w w.drew := (Below.refl w.heap.size w).drew
  have hroomd := own_below hroom hwd (Nat.le_refl _)
  have hrow := ((own_row hown).below hwd).cut i c 4 ((n - i) * 4) (by omega)
  rw [List.take_of_length_le (by rw [List.length_drop, hfl]; omega), flat_drop encLc_length] at hrow
  obtain ⟨w2, hcp1, hown2, hg2⟩ := run_cp (P := Tryd.prog) (w := w.drew) 31 31 3 66 Tryd.underlying31 4 hsz (cutA (some ⟨g0, 0, none⟩) (i + 1) c 4) (cutA (some ⟨g0, 0, none⟩) i c 4) (n - i) (c - (i + 1)) (n + 1 - i) (c - i) (flat encLc (l.drop i)) (by rw [hdl, show Nat.min (n + 1 - i) (n - i) = n - i from Nat.min_eq_right (by omega)]) hrow (encLc_one _) base (n + 1) c (i + 1) (some ⟨g0, 0, none⟩) _ hroomd (fun _ => hcut _ (by omega)) (fun h => by rw [hcut _ (by omega)] at h; simp at h) (by rw [hdl]; omega)
  have hX : ((flat encLc l ++ ys).take ((i + 1) * 4) ++ flat encLc (l.drop i) ++ (flat encLc l ++ ys).drop ((i + 1) * 4 + (flat encLc (l.drop i)).length)) = (flat encLc l ++ ys).take ((i + 1) * 4) ++ flat encLc (l.drop i) := by
    rw [show (flat encLc l ++ ys).drop ((i + 1) * 4 + (flat encLc (l.drop i)).length) = [] from List.drop_eq_nil_of_le (by rw [List.length_append, hfl, hdl]; omega), List.append_nil]
  rw [hX] at hown2
  have hlX : ((flat encLc l ++ ys).take ((i + 1) * 4)).length = (i + 1) * 4 := by rw [List.length_take, List.length_append, hfl]; omega
  have hv2 := row_grown (hv.below hwd) hg2 hne
  obtain ⟨w3, hcp2, hown3, hg3⟩ := run_cp (P := Tryd.prog) (w := w2) 31 31 3 66 Tryd.underlying31 4 hsz (cutA (some ⟨g0, 0, none⟩) i c 4) (some ⟨g, 0, none⟩) (n + 1 - i) (c - i) 1 1 (encLc b) (by rw [show Nat.min 1 (n + 1 - i) = 1 from Nat.min_eq_left (by omega)]; rfl) hv2 (by simp [encLc, vI, Value.oneCell']) base (n + 1) c i (some ⟨g0, 0, none⟩) _ hown2 (fun _ => hcut _ (by omega)) (fun h => by rw [hcut _ (by omega)] at h; simp at h) (by rw [encLc_length]; omega)
  have hY : ((flat encLc l ++ ys).take ((i + 1) * 4) ++ flat encLc (l.drop i)).take (i * 4) ++ encLc b ++ ((flat encLc l ++ ys).take ((i + 1) * 4) ++ flat encLc (l.drop i)).drop (i * 4 + (encLc b).length) = flat encLc (l.take i ++ b :: l.drop i) := by
    rw [encLc_length, show i * 4 + 4 = (i + 1) * 4 by omega, List.drop_left' hlX, List.take_append_of_le_length (by rw [hlX]; omega), List.take_take, show min (i * 4) ((i + 1) * 4) = i * 4 by omega, List.take_append_of_le_length (by rw [hfl]; omega), flat_take encLc_length, flat_append, flat_cons, List.append_assoc]
  rw [hY] at hown3
  have HO3 := Hid.mk hown3
  have HG3 : Hid (w.grownBy w3 (Value.ownBlock (.slice (some ⟨g0, 0, none⟩) n c))) :=
    ⟨hg3.os.trans hg2.os, hg3.tape.trans hg2.tape, hg3.output.trans hg2.output, Nat.le_trans hg2.size hg3.size, fun k hk hnk => (hg3.block k (Nat.lt_of_lt_of_le hk hg2.size) hnk).trans (hg2.block k hk hnk)⟩
  have b0 : (i : Int) ≤ n := by omega
  have b2 : (i : Int) ≤ c := by omega
  have b3 : ¬ (i : Int) = n := by omega
  have b4 : ¬ (c : Int) < (n : Int) + 1 := by omega
  have b5 : (i : Int) ≤ (n : Int) + 1 := by omega
  have b6 : (n : Int) + 1 ≤ c := by omega
  have b7 : ((i : Int) + 1) ≤ c := by omega
  have s1 : IntKind.i64.wrap ((i : Int) + 1) = (i : Int) + 1 := IntWalk.i64_in _ (by omega)
  have b8 : 0 ≤ (i : Int) + 1 := by omega
  have b9 : ((i : Int) + 1).toNat = i + 1 := by omega
  have b10 : (i : Int) + 1 ≤ (n : Int) + 1 := by omega
  have b11 : ((n : Int) + 1).toNat = n + 1 := by omega
  have b12 : c ≤ 9223372036854775807 := by unfold maxLen at hcm; omega
  clear hown hroom hroomd hrow hown2 hown3 hg2 hg3 hX hY hv hv2 hcut hcutl hg0 hgb hcs
  go_enter Tryd.func71, Tryd.ntmps71
  go_wp2_with (simp only [hov])
  go_still_tail 8, (by kernel_rfl)
  change wpList _ _ _ _ _ w.drew
  go_wp2
  go_ret
  exact ⟨_, _, rfl, HO3.out, HG3.out, fun k hk => .inl hk⟩

/-- slices.Insert at Block: one block -/
theorem insert_lc (base : Nat) (a : Option Addr) (n c g i : Nat) (l : List Lc) (b : Lc) (w : World) (hown : w.ownsRow base 66 4 (.slice a n c) n (flat encLc l)) (hi : i ≤ n) (hn : n ≤ 1000) (hbase : base ≤ w.heap.size) (hgb : w.heap[g]? = some (.cells (encLc b).toArray 66 (0, 0))) (hne : some g ≠ Value.ownBlock (.slice a n c)) :
    Calls Tryd.prog 71 #[.slice a n c, .int .i64 i, .slice (some ⟨g, 0, none⟩) 1 1] w fun ev w' => ∃ a' c', ev = .returned (.slice a' (n + 1) c') ∧ w'.ownsRow base 66 4 (.slice a' (n + 1) c') (n + 1) (flat encLc (l.take i ++ b :: l.drop i)) ∧ w.grownBy w' (Value.ownBlock (.slice a n c)) ∧ (∀ k, (Value.slice a' (n + 1) c').ownBlock = some k → (Value.slice a n c).ownBlock = some k ∨ w.heap.size ≤ k) := by
  have hlt : g < w.heap.size := (Array.getElem?_eq_some_iff.1 hgb).1
  have hv : Row w (some ⟨g, 0, none⟩) (encLc b) := by
    intro j v hj
    exact ⟨g, 0, rfl, hlt, by rw [Nat.zero_add, cell_of_row _ _ _ _ _ _ hgb]; simpa using hj⟩
  have hln : l.length = n := own_flat_len encLc_length (by decide) hown
  by_cases he : i = n
  · subst he
    have := insertL_end base a i c g l b w hown hn hbase hv
    rw [List.take_of_length_le (by omega), List.drop_eq_nil_of_le (by omega)]
    exact this
  · by_cases hc : n + 1 ≤ c
    · exact insertL_shift base a n c g i l b w hown (by omega) hn hc hbase hgb hne hv
    · exact insertL_grow base a n c g i l b w hown (by omega) hn (by omega) hbase hv
end Go.Proofs.YtjljcifpcljlaaaDoor
/- Contract of package pages: push, on the heap behind a pointer. -/
namespace Go.Proofs.YtjljcifpcljlaaaDoor
open Go.RowKit
set_option linter.unusedVariables false

/-- ascending keys: there are no more than may be -/
theorem rise_len : ∀ {l : List Ls} {N : Nat}, RiseL l → (∀ x ∈ l, x.key < N) → l.length ≤ N := by
  intro l N h hb
  have key : ∀ (l : List Ls) (a : Nat), RiseL l → (∀ x ∈ l, a ≤ x.key ∧ x.key < N) → l.length ≤ N - a := by
    intro l
    induction l with
    | nil => intro a _ _; simp
    | cons x l ih =>
      intro a hr hx
      have h1 := hx x (by simp)
      have h2 := List.pairwise_cons.1 hr
      have h3 := ih (x.key + 1) h2.2 (fun y hy => ⟨h2.1 y hy, (hx y (by simp [hy])).2⟩)
      simp only [List.length_cons]
      omega
  simpa using key l 0 h (fun x hx => ⟨Nat.zero_le _, hb x hx⟩)
theorem HOk.ls_len {h : Hp} (hk : HOk h) : h.ls.length ≤ 24 := rise_len hk.lk fun x hx => by
  have h1 := hk.lr x hx
  have h2 := hk.cp
  obtain ⟨a, b, d, _⟩ := h1
  unfold Ls.key
  omega
theorem lc_len {W : World} {G : Nat} {X : Nat → Prop} {h : Hp} {c : Hc} (hs : HR W G X h c) : c.lc.length = h.ls.length := by rw [← hs.ll, List.length_map]
theorem lc_get {W : World} {G : Nat} {X : Nat → Prop} {h : Hp} {c : Hc} (hs : HR W G X h c) {i : Nat} (hi : i < c.lc.length) (hi2 : i < h.ls.length) : c.lc[i].l = h.ls[i] := by
  have h3 := congrArg (·[i]?) hs.ll
  simp [hi, hi2] at h3
  exact h3
theorem HR.lcells {W : World} {G : Nat} {X : Nat → Prop} {h : Hp} {c : Hc} (hs : HR W G X h c) {g : Nat} (hg : c.al = some ⟨g, 0, none⟩) {i : Nat} (hi : i < c.lc.length) : W.cell? ⟨g, i * 4, none⟩ = some (.int .i64 c.lc[i].l.c) ∧ W.cell? ⟨g, i * 4 + 1, none⟩ = some (.int .i64 c.lc[i].l.z) ∧ W.cell? ⟨g, i * 4 + 2, none⟩ = some (.int .i64 c.lc[i].l.t) ∧ W.cell? ⟨g, i * 4 + 3, none⟩ = some (.slice c.lc[i].a c.lc[i].n c.lc[i].c) := by
  obtain ⟨b, off, h1, h2, h3⟩ := row_elem encLc_length (by decide) (own_row hs.lsr) hi
  obtain ⟨rfl, rfl⟩ : g = b ∧ 0 = off := by rw [hg] at h1; simpa using h1
  have h4 := encLc_cells h3
  rw [Nat.zero_add] at h4
  exact h4

theorem push_there {ls : List Ls} {l : Ls} {p : Nat} (hh : hasL ls l.key = true) : ∃ hi : lbL ls l.key < ls.length, pushL ls l p = ls.set (lbL ls l.key) { ls[lbL ls l.key] with p := ls[lbL ls l.key].p ++ [p] } := by
  unfold hasL at hh
  cases he : ls[lbL ls l.key]? with
  | none => rw [he] at hh; cases hh
  | some x =>
    rw [he] at hh
    obtain ⟨hi, hx⟩ := List.getElem?_eq_some_iff.1 he
    refine ⟨hi, ?_⟩
    unfold pushL
    rw [he]
    simp only [decide_eq_true_eq] at hh
    simp only [hh, if_true, hx]
theorem push_new {ls : List Ls} {l : Ls} {p : Nat} (hh : hasL ls l.key = false) : pushL ls l p = ls.take (lbL ls l.key) ++ { l with p := [p] } :: ls.drop (lbL ls l.key) := by
  unfold hasL at hh
  unfold pushL
  cases he : ls[lbL ls l.key]? with
  | none => rfl
  | some x =>
    rw [he] at hh
    simp only [decide_eq_false_iff_not] at hh
    simp only [hh, if_false]
theorem set_mid {α : Type} (a b : List α) (x y : α) {i : Nat} (hi : i = a.length) : (a ++ x :: b).set i y = a ++ y :: b := by
  subst hi
  simp
theorem get_mid {α : Type} (a b : List α) (x : α) {i : Nat} (hi : i = a.length) (h : i < (a ++ x :: b).length) : (a ++ x :: b)[i] = x := by
  subst hi
  simp
theorem hc_upd {c c5 : Hc} {al : Option Addr} {cl : Nat} {lc : List Lc} (e : c5 = { c with al := al, cl := cl, lc := lc }) (lc' : List Lc) : ({ c with al := al, cl := cl, lc := lc' } : Hc) = { c5 with lc := lc' } := by subst e; rfl
/-- an empty list -/
def emptyLc (l : Ls) : Lc := ⟨⟨l.c, l.z, l.t, []⟩, none, 0, 0⟩
theorem own_insert {W : World} {G : Nat} {X : Nat → Prop} {h : Hp} {c : Hc} (hs : HR W G X h c) (l : Ls) (I : Nat) : OwnL W 0 ((c.lc.take I ++ emptyLc l :: c.lc.drop I).map pgR) ∧ ∀ r ∈ (c.lc.take I ++ emptyLc l :: c.lc.drop I).map pgR, ∀ g, r.v.ownBlock = some g → ∃ r0 ∈ c.lc.map pgR, r0.v.ownBlock = some g := by
  have h1 : OwnL W 0 (c.lc.map pgR) := hs.own.sub (by unfold Hc.rows; exact ((List.sublist_cons_self _ _).trans (List.sublist_cons_self _ _)).trans (List.sublist_cons_self _ _))
  have hn : (pgR (emptyLc l)).v.ownBlock = none := rfl
  have h2 : OwnL W 0 (pgR (emptyLc l) :: c.lc.map pgR) := ⟨fun r hr => by
    rw [List.mem_cons] at hr
    rcases hr with hr | hr
    · rw [hr]; exact ⟨rfl, .inl ⟨rfl, rfl⟩⟩
    · exact h1.each r hr, List.pairwise_cons.2 ⟨fun r hr g e => by (rw [hn] at e; cases e), h1.dis⟩⟩
  have hp : (pgR (emptyLc l) :: c.lc.map pgR).Perm ((c.lc.take I ++ emptyLc l :: c.lc.drop I).map pgR) := by
    rw [← List.map_cons]
    refine List.Perm.map _ ?_
    have h3 : (c.lc.take I ++ emptyLc l :: c.lc.drop I).Perm (emptyLc l :: (c.lc.take I ++ c.lc.drop I)) := List.perm_middle
    rw [List.take_append_drop] at h3
    exact h3.symm
  refine ⟨h2.perm hp, fun r hr g e => ?_⟩
  have h3 := hp.mem_iff.2 hr
  rw [List.mem_cons] at h3
  rcases h3 with rfl | h3
  · rw [hn] at e; cases e
  · exact ⟨r, h3, e⟩

set_option maxHeartbeats 8000000 in
set_option maxRecDepth 100000 in
theorem push_pg (G p : Nat) (l : Ls) (x : Option Addr) (kx dx : Nat) (X : Nat → Prop) (h : Hp) (c : Hc) (w : World) (hs : HS w G X h c) (hk : HOk h) (hl : l.z < 2 ∧ l.t < 3) :
    Calls Tryd.prog 49 #[.pointer (some ⟨G, 0, none⟩), .agg #[.int .i64 l.c, .int .i64 l.z, .int .i64 l.t, .slice x kx dx], .int .i64 p] w fun ev w' => ev = .returned (.tuple #[]) ∧ (∃ al cl lc, HS w' G X { h with ls := pushL h.ls l p } { c with al := al, cl := cl, lc := lc }) ∧ Safe X w w' := by
  obtain ⟨K4, F4, hsz, hbw⟩ := boxes1 w #[.int .i64 (l.c : Int), .int .i64 (l.z : Int), .int .i64 (l.t : Int), .slice x kx dx] 66
  have HS0 := Hid.mk (hs.new hbw)
  have HSF0 := Hid.mk (Safe.ofBelow (X := X) hbw)
  have HK := Hid.mk hk
  have hG0 : G < (w.alloc (.cells #[.int .i64 (l.c : Int), .int .i64 (l.z : Int), .int .i64 (l.t : Int), .slice x kx dx] 66)).heap.size := HS0.out.r.gs
  obtain ⟨k0, k1, k2, k3, k4⟩ := HS0.out.words
  have b0 := K4 0
  have b1 := K4 1
  have b2 := K4 2
  have b3 := K4 3
  simp only [List.getElem?_toArray, List.getElem?_cons_zero, List.getElem?_cons_succ] at b0 b1 b2 b3
  have hGw := hs.r.gs
  have HXW := Hid.mk hs.r.xs
  have hn24 := hk.ls_len
  have HLN := Hid.mk (lc_len hs.r)
  have hc24 : c.lc.length ≤ 24 := by rw [HLN.out]; exact hn24
  clear hs hk hbw
  go_enter Tryd.func49, Tryd.ntmps49
  go_wp2_with fail
  generalize w.alloc (.cells #[.int .i64 (l.c : Int), .int .i64 (l.z : Int), .int .i64 (l.t : Int), .slice x kx dx] 66) = w1 at *
  refine wp_region_ext_lit (by kernel_rfl) (by kernel_rfl) ?_
  repeat (go_big_quiet_step ((go_at_call 50; exact Calls.ext_of (list_pg _ _ _ _ _ _ _ _ _ _ _ _ _ h l x kx dx _ (HS0.out.r.at.below (ext_below w1 _)) HK.out hl (by omega)))))
  refine wpQuiet_nil ?_
  rintro _ ⟨wx, rfl⟩
  have HS1 := Hid.mk (HS0.out.below (ext_below w1 wx))
  have HSF1 := Hid.mk (HSF0.out.then (ext_below w1 wx))
  have K4' := box_step K4 hsz (ext_below w1 wx)
  have F4' := frz_step F4 hsz (ext_below w1 wx)
  have hsz1 : w.heap.size < (ext w1 wx).heap.size := Nat.lt_of_lt_of_le hsz (ext_below w1 wx).size
  have hszle : w1.heap.size ≤ (ext w1 wx).heap.size := (ext_below w1 wx).size
  clear k0 k1 k2 k3 k4 b0 b1 b2 b3 K4 F4 HS0 HSF0
  generalize ext w1 wx = w2 at *
  obtain ⟨I, hI⟩ : ∃ I, lbL h.ls l.key = I := ⟨_, rfl⟩
  have HI := Hid.mk hI
  have hIle : I ≤ h.ls.length := by rw [← hI]; exact lbL_le _ _
  rw [hI]
  clear hI
  go_upto_if 17 with fail
  go_cut [7, 29] (fun s7 s29 wx => ∃ (h5 : Hp) (c5 : Hc) (hi : I < c5.lc.length), Hid (HS wx G (fun k => X k ∨ (w.heap.size ≤ k ∧ k < w1.heap.size)) h5 c5) ∧ Hid (Safe X w wx) ∧ Hid (∃ al cl lc, c5 = { c with al := al, cl := cl, lc := lc }) ∧ Hid ({ h with ls := pushL h.ls l p } = { h5 with ls := h5.ls.set I { c5.lc[I].l with p := c5.lc[I].l.p ++ [p] } }) ∧ c5.lc[I].n ≤ 8)
  case first =>
    cases hh : hasL h.ls l.key with
    | true =>
      obtain ⟨hi0, hpu⟩ := push_there (p := p) hh
      have hrel : ∃ (h5 : Hp) (c5 : Hc) (hi : I < c5.lc.length), Hid (HS w2 G (fun k => X k ∨ (w.heap.size ≤ k ∧ k < w1.heap.size)) h5 c5) ∧ Hid (Safe X w w2) ∧ Hid (∃ al cl lc, c5 = { c with al := al, cl := cl, lc := lc }) ∧ Hid ({ h with ls := pushL h.ls l p } = { h5 with ls := h5.ls.set I { c5.lc[I].l with p := c5.lc[I].l.p ++ [p] } }) ∧ c5.lc[I].n ≤ 8 := by
        obtain rfl := HI.out
        have h6 : lbL h.ls l.key < c.lc.length := by rw [HLN.out]; exact hi0
        have h7 := lc_get HS1.out.r h6 hi0
        refine ⟨h, c, h6, HS1, HSF1, ⟨c.al, c.cl, c.lc, rfl⟩, ?_, ?_⟩
        · unfold Hid
          rw [hpu, h7]
        · have h8 := pg_len (HS1.out.r.pgs _ (List.getElem_mem h6))
          have h9 := (HK.out.lr _ (List.getElem_mem hi0)).2.2.2.2.1
          rw [h7] at h8
          omega
      have HREL := Hid.mk hrel
      clear hrel hpu
      go_wp2_with fail
      go_meet
      case rel => exact HREL.out
    | false =>
      have HHF := Hid.mk hh
      clear hh
      have hXB : (fun k => X k ∨ (w.heap.size ≤ k ∧ k < w1.heap.size)) w.heap.size := .inr ⟨Nat.le_refl _, hsz⟩
      have HS3 := Hid.mk (HS1.out.far hXB 3 (.slice none 0 0))
      have HSF3 := Hid.mk (HSF1.out.set (g := w.heap.size) (fun e => by have := HXW.out _ e; omega) 3 (.slice none 0 0))
      have K6 := Hid.mk (box_set K4' 3 (.slice none 0 0))
      have HS3Z : Hid ((w2.setCell ⟨w.heap.size, 3, none⟩ (.slice none 0 0)).heap.size = w2.heap.size) := by simp [Hid]
      have b3 := K4' 3
      have f3 := F4' 3
      simp only [List.getElem?_toArray, List.getElem?_cons_zero, List.getElem?_cons_succ] at b3
      clear K4' F4'
      go_wp2_with fail
      generalize w2.setCell ⟨w.heap.size, 3, none⟩ (.slice none 0 0) = w3 at *
      have e0 := K6.out 0
      have e1 := K6.out 1
      have e2 := K6.out 2
      have e3 := K6.out 3
      simp only [List.setIfInBounds_toArray, List.set_cons_zero, List.set_cons_succ, List.getElem?_toArray, List.getElem?_cons_zero, List.getElem?_cons_succ] at e0 e1 e2 e3
      obtain ⟨k0, k1, k2, k3, k4⟩ := HS3.out.words
      clear b3 f3 K6 k0 k1 k2 k4
      have hB4 := ((Below.refl w3.heap.size w3).alloc (Nat.le_refl _) (.cells #[.int .i64 (l.c : Int), .int .i64 (l.z : Int), .int .i64 (l.t : Int), .slice none 0 0] 66)).drew
      have HS4 := Hid.mk (HS3.out.below hB4)
      have HSF4 := Hid.mk (HSF3.out.then hB4)
      have hgb : ((w3.alloc (.cells #[.int .i64 (l.c : Int), .int .i64 (l.z : Int), .int .i64 (l.t : Int), .slice none 0 0] 66)).drew).heap[w3.heap.size]? = some (.cells (encLc (emptyLc l)).toArray 66 (0, 0)) := heap_alloc_new w3 _
      have hneb : some w3.heap.size ≠ Value.ownBlock (.slice c.al c.lc.length c.cl) := fun e => by
        have := (HS3.out.r.own.lt _ (rows_ls c h) _ e.symm).2
        omega
      have hIc : I ≤ c.lc.length := by rw [HLN.out]; exact hIle
      have hGs3 : G < w3.heap.size := HS3.out.r.gs
      have HGB := Hid.mk hgb
      have HNB := Hid.mk hneb
      have hGs4 : G < ((w3.alloc (.cells #[.int .i64 (l.c : Int), .int .i64 (l.z : Int), .int .i64 (l.t : Int), .slice none 0 0] 66)).drew).heap.size := HS4.out.r.gs
      have HKG := Hid.mk HS4.out.k
      have HFG := Hid.mk HS4.out.fz
      have HGL : Hid (some G ≠ (lsR c).v.ownBlock) := fun e => (HS4.out.r.og _ (rows_ls c h) G e.symm).1 rfl
      clear hgb hneb hB4
      go_region_with (go_at_call 71; refine (insert_lc 0 c.al c.lc.length c.cl w3.heap.size I c.lc (emptyLc l) _ HS4.out.r.lsr hIc (by omega) (Nat.zero_le _) HGB.out HNB.out).mono ?_; rintro ev w5 ⟨a', c', rfl, ho5, hg5, hl5⟩; have q3 := box_grown HKG.out hGs4 hg5 HGL.out 3; have x3 := frz_grown HFG.out hGs4 hg5 HGL.out 3; have q3' := q3.trans (show (c.vals h)[3]? = some (.slice c.al c.lc.length c.cl) from rfl); clear q3)
      all_goals
        have hlenL : (c.lc.take I ++ emptyLc l :: c.lc.drop I).length = c.lc.length + 1 := by simp; omega
        obtain ⟨hpo, hpq⟩ := own_insert HS4.out.r l I
        have hpq := fun r hr g e => Or.inl (b := Fresh (w3.alloc (.cells #[.int .i64 (l.c : Int), .int .i64 (l.z : Int), .int .i64 (l.t : Int), .slice none 0 0] 66)).drew G (fun k => X k ∨ (w.heap.size ≤ k ∧ k < w1.heap.size)) h c g) (hpq r hr g e)
        obtain ⟨hs6, sf6⟩ := HS4.out.lists hg5 (al' := a') (cl' := c') (lc' := c.lc.take I ++ emptyLc l :: c.lc.drop I) (by rw [hlenL]; exact ho5) (by rw [hlenL]; exact hl5) hpo hpq
        rw [hlenL] at hs6 sf6
        have HS6 := Hid.mk hs6
        have SF6 := Hid.mk (HSF4.out.trans (sf6.sub (fun k _ hk => .inl hk)))
        have hI6 : I < (c.lc.take I ++ emptyLc l :: c.lc.drop I).length := by rw [hlenL]; omega
        have HG6 := Hid.mk (get_mid (c.lc.take I) (c.lc.drop I) (emptyLc l) (i := I) (by rw [List.length_take]; omega) hI6)
        have HPU : Hid ({ h with ls := pushL h.ls l p } = { h with ls := ((c.lc.take I ++ emptyLc l :: c.lc.drop I).map Lc.l).set I { (c.lc.take I ++ emptyLc l :: c.lc.drop I)[I].l with p := (c.lc.take I ++ emptyLc l :: c.lc.drop I)[I].l.p ++ [p] } }) := by
          unfold Hid
          rw [push_new HHF.out, HI.out, HG6.out, List.map_append, List.map_cons, List.map_take, List.map_drop, HS4.out.r.ll, set_mid _ _ _ _ (by rw [List.length_take]; omega)]
          rfl
        clear hs6 sf6 hpo hpq ho5 hg5 hl5 x3 q3'
        go_wp2_with fail
        go_meet
        case rel => exact ⟨_, _, hI6, HS6, SF6, ⟨a', c', _, rfl⟩, HPU, by rw [HG6.out]; exact Nat.zero_le _⟩
  case rest =>
    obtain ⟨h5, c5, hi5, HS5, SF5, HC5, HPU, hn8⟩ := hcut
    clear HS1 HSF1 K4' F4' hsz1 hszle hIle HI HK HLN hc24 hn24
    obtain ⟨gl, hgl, hgls, hglG, hglX, hglf⟩ := HS5.out.r.lblock (by omega)
    have hI2 : (I : Int) < c5.lc.length := by omega
    obtain ⟨k0, k1, k2, k3, k4⟩ := HS5.out.words
    rw [hgl] at k3
    obtain ⟨x0, x1, x2, x3⟩ := HS5.out.r.lcells hgl hi5
    have hGs5 : G < wc.heap.size := HS5.out.r.gs
    have HGL := Hid.mk hgl
    have hW6 := ((Below.refl wc.heap.size wc).alloc (Nat.le_refl _) (.cells #[.int .i64 (p : Int)] 3)).drew
    have HS6 := Hid.mk (HS5.out.below hW6)
    have SF6 := Hid.mk (SF5.out.then hW6)
    have hnew : ((wc.alloc (.cells #[.int .i64 (p : Int)] 3)).drew).heap[wc.heap.size]? = some (.cells #[.int .i64 (p : Int)] 3 (0, 0)) := heap_alloc_new wc _
    have HNEW := Hid.mk (World.news_of_block hnew)
    have hpm : pgR c5.lc[I] ∈ c5.lc.map pgR := List.mem_map_of_mem (List.getElem_mem hi5)
    have HOWN := Hid.mk (HS6.out.r.pgs _ (List.getElem_mem hi5))
    have hlb : (lsR c5).v.ownBlock = some gl := by unfold lsR; rw [hgl]; rfl
    have HNL : Hid (some gl ≠ (pgR c5.lc[I]).v.ownBlock) := fun e => HS6.out.r.dis.lp _ hpm gl hlb e.symm
    have HNG : Hid (some G ≠ (pgR c5.lc[I]).v.ownBlock) := fun e => (HS6.out.r.og _ (rows_pg hpm) G e.symm).1 rfl
    have hgl6 : gl < ((wc.alloc (.cells #[.int .i64 (p : Int)] 3)).drew).heap.size := Nat.lt_of_lt_of_le hgls hW6.size
    have hG6 : G < ((wc.alloc (.cells #[.int .i64 (p : Int)] 3)).drew).heap.size := HS6.out.r.gs
    have HX3 := Hid.mk (HS6.out.r.lcells hgl hi5).2.2.2
    have HG3 := Hid.mk HS6.out.words.2.2.2.1
    rw [hgl] at HG3
    obtain ⟨_, hgl', _, _, _, hf6⟩ := HS6.out.r.lblock (by omega)
    have HF3 : Hid (((wc.alloc (.cells #[.int .i64 (p : Int)] 3)).drew).frozen? ⟨gl, I * 4 + 3, none⟩ = false) := by
      rw [hgl] at hgl'
      obtain rfl : gl = _ := by simpa using hgl'
      exact hf6 _ (by omega)
    obtain ⟨ti, hti, htz, hts, htb⟩ := info_parts info_int
    clear k0 k1 k2 k4 x0 x1 x2 hgl hnew hpm hlb hgl' hf6 hglf hW6
    go_wp2_with fail
    go_region_law (first | (refine step_append_lies _ rfl _ _ 30 rfl 0 3 ti (.int .i64 0) 1 8 Tryd.underlying30 hti htz hts htb rfl (by decide) (.slice c5.lc[I].a c5.lc[I].n c5.lc[I].c) c5.lc[I].n (flat encT c5.lc[I].l.p) rfl HOWN.out ⟨wc.heap.size, 0, none⟩ 1 1 [.int .i64 (p : Int)] rfl rfl HNEW.out (by simp [Value.oneCell']) (by decide) (by unfold maxLen; omega) (by omega) (Nat.zero_le _) _ rfl ?_; intro g6 cap6 w6 ho6 hg6 hl6 hlt6; have q3 := (hg6.cell_far ⟨gl, I * 4 + 3, none⟩ hgl6 HNL.out).trans HX3.out; have qf := (hg6.frozen_far ⟨gl, I * 4 + 3, none⟩ hgl6 HNL.out).trans HF3.out; have qg := (hg6.cell_far ⟨G, 3, none⟩ hG6 HNG.out).trans HG3.out))
    all_goals
      have ho7 : (pgR ⟨{ c5.lc[I].l with p := c5.lc[I].l.p ++ [p] }, some ⟨g6, 0, none⟩, c5.lc[I].n + 1, cap6⟩).on w6 0 := by
        have e : flat encT (c5.lc[I].l.p ++ [p]) = flat encT c5.lc[I].l.p ++ [.int .i64 (p : Int)] := by rw [flat_append, flat_one]; rfl
        unfold Rs.on pgR
        simp only
        rw [e]
        exact ho6
      obtain ⟨hs7, sf7⟩ := HS6.out.page hi5 hg6 ho7 ⟨rfl, rfl, rfl⟩ (fun k hk => by
        obtain rfl : g6 = k := by simpa [pgR, Value.ownBlock] using hk
        rcases hl6 with h1 | h1
        · exact .inl h1
        · exact .inr (Nat.le_of_eq h1.symm)) HGL.out
      have hfin : ∃ al cl lc, HS (w6.setCell ⟨gl, I * 4 + 3, none⟩ (.slice (some ⟨g6, 0, none⟩) (c5.lc[I].n + 1) cap6)) G X { h with ls := pushL h.ls l p } { c with al := al, cl := cl, lc := lc } := by
        rw [HPU.out]
        obtain ⟨al, cl, lc, e⟩ := HC5.out
        refine ⟨al, cl, c5.lc.set I ⟨{ c5.lc[I].l with p := c5.lc[I].l.p ++ [p] }, some ⟨g6, 0, none⟩, c5.lc[I].n + 1, cap6⟩, ?_⟩
        rw [hc_upd e]
        exact hs7.sub fun k hk => .inl hk
      exact bodyPost_end (v := .tuple #[]) (by simp [results, Tryd.results49, go_sem]) rfl ⟨rfl, hfin, SF6.out.trans (sf7.sub fun k _ hk => .inl hk)⟩
end Go.Proofs.YtjljcifpcljlaaaDoor
/- Heaps: what Free computes, part by part. No program in sight. -/
namespace Go.Proofs.YtjljcifpcljlaaaDoor
set_option linter.unusedVariables false
theorem HOk.erase {h : Hp} (hk : HOk h) {i : Nat} (hi : i < h.live.length) :
    HOk { h with live := h.live.eraseIdx i } ∧ ∀ q, cnt ({ h with live := h.live.eraseIdx i } : Hp).all q + hit ⟨h.live[i].a, h.live[i].o, 0⟩ q = cnt h.all q := by
  have hce : ∀ q, cnt ({ h with live := h.live.eraseIdx i } : Hp).all q + hit ⟨h.live[i].a, h.live[i].o, 0⟩ q = cnt h.all q := fun q => by
    have h1 := cnt_erase hi q
    have h2 : hit ⟨h.live[i].a, h.live[i].o, 0⟩ q = hit h.live[i] q := rfl
    rw [cnt_all, cnt_all, h2]
    simp only
    omega
  exact ⟨⟨hk.o0, hk.o1, hk.f0, hk.e0, hk.e1, hk.m0, hk.m1, hk.cp, hk.lk, hk.lr, fun b hb => hk.lv b ((List.eraseIdx_sublist _ _).subset hb), hk.vs.sublist (List.eraseIdx_sublist _ _), fun q => by have := hce q; have := hk.one q; omega⟩, hce⟩
theorem freeB_big {h : Hp} {cpu i : Nat} {b : Bk} (ho : 0 < b.o) : h.freeB cpu i b = ({ h with live := h.live.eraseIdx i } : Hp).backB b.a b.o := by
  unfold Hp.freeB
  simp only
  rw [if_pos ho]
theorem freeB_one {h : Hp} {cpu i : Nat} {b : Bk} (ho : b.o = 0) : h.freeB cpu i b = ({ h with live := h.live.eraseIdx i } : Hp).give cpu b.a := by
  unfold Hp.freeB
  simp only
  rw [if_neg (by omega)]
/-- the type of a page -/
def Hp.typ (h : Hp) (p : Nat) : Nat := (h.zone (h.zof p)).y.getD ((p - (h.zone (h.zof p)).f) / 8) 0
theorem HOk.typ_lt {h : Hp} (hk : HOk h) (p : Nat) : h.typ p < 3 := by
  unfold Hp.typ
  have hz := (hk.zone (h.zof p)).1.typ
  rw [List.getD_eq_getElem?_getD]
  cases hg : (h.zone (h.zof p)).y[(p - (h.zone (h.zof p)).f) / 8]? with
  | none => simp
  | some u => exact hz u (List.mem_of_getElem? hg)
/-- what a page that comes back finds -/
theorem HOk.giving {h : Hp} (hk : HOk h) {cpu p : Nat} (hc : cpu < h.cpus) (hp : p < 256) (hd : ∀ q, cnt h.all q + hit ⟨p, 0, 0⟩ q ≤ 1) {l : Ls} (hl : l = ⟨cpu, h.zof p, h.typ p, []⟩) :
    (l.c < h.cpus ∧ l.z < 2 ∧ l.t < 3) ∧ RiseL (pushL h.ls l p) ∧ (∀ y ∈ pushL h.ls l p, y.z < 2 ∧ y.t < 3) ∧ (pushL h.ls l p).length ≤ 24 ∧ hasL (pushL h.ls l p) l.key = true ∧
    ∃ x, (pushL h.ls l p)[lbL (pushL h.ls l p) l.key]? = some x ∧ x.key = l.key ∧ x.p.length ≤ 9 ∧ h.give cpu p = (if 8 < x.p.length then { Go.Proofs.YtjljcifpcljlaaaDoor.backAll { h with ls := pushL h.ls l p } (x.p.take 4) with ls := (pushL h.ls l p).set (lbL (pushL h.ls l p) l.key) { x with p := x.p.drop 4 } } else { h with ls := pushL h.ls l p }) ∧ (∀ q ∈ x.p, q < 256) ∧ (∀ q, cnt ({ h with ls := [] } : Hp).all q + cnt (pgs x.p) q ≤ 1) ∧
      ∀ j (hj : j < x.p.length), (∀ (m : List Ls), (({ Go.Proofs.YtjljcifpcljlaaaDoor.backAll { h with ls := pushL h.ls l p } (x.p.take j) with ls := m } : Hp).zone (({ Go.Proofs.YtjljcifpcljlaaaDoor.backAll { h with ls := pushL h.ls l p } (x.p.take j) with ls := m } : Hp).zof x.p[j])).ok ∧ fitsB (({ Go.Proofs.YtjljcifpcljlaaaDoor.backAll { h with ls := pushL h.ls l p } (x.p.take j) with ls := m } : Hp).zone (({ Go.Proofs.YtjljcifpcljlaaaDoor.backAll { h with ls := pushL h.ls l p } (x.p.take j) with ls := m } : Hp).zof x.p[j])).f (({ Go.Proofs.YtjljcifpcljlaaaDoor.backAll { h with ls := pushL h.ls l p } (x.p.take j) with ls := m } : Hp).zone (({ Go.Proofs.YtjljcifpcljlaaaDoor.backAll { h with ls := pushL h.ls l p } (x.p.take j) with ls := m } : Hp).zof x.p[j])).e x.p[j] 0 ∧ ∀ b ∈ (({ Go.Proofs.YtjljcifpcljlaaaDoor.backAll { h with ls := pushL h.ls l p } (x.p.take j) with ls := m } : Hp).zone (({ Go.Proofs.YtjljcifpcljlaaaDoor.backAll { h with ls := pushL h.ls l p } (x.p.take j) with ls := m } : Hp).zof x.p[j])).l, apartB x.p[j] 0 b) := by
  have ht3 := hk.typ_lt p
  have hz2 : h.zof p < 2 := by unfold Hp.zof; split <;> omega
  have hz3 : p < h.z0.e ↔ h.zof p = 0 := by unfold Hp.zof; split <;> simp_all
  have hlr : l.c < h.cpus ∧ l.z < 2 ∧ l.t < 3 := by rw [hl]; exact ⟨hc, hz2, ht3⟩
  have hlz : p < 256 ∧ (p < h.z0.e ↔ l.z = 0) := by rw [hl]; exact ⟨hp, hz3⟩
  obtain ⟨x, hx, hxk, hxl⟩ := push_at hk.lk l p
  have hlen := lenL_le (k := l.key) (fun x hx => (hk.lr x hx).2.2.2.2.1)
  have h9 := push_ok (N := 8) (M := 9) hk.lr hlr hlz (by omega) (by omega) (fun y hy _ => by have := (hk.lr y hy).2.2.2.2.1; omega)
  obtain ⟨hi, hxi⟩ := List.getElem?_eq_some_iff.1 hx
  have hxm : x ∈ pushL h.ls l p := by rw [← hxi]; exact List.getElem_mem hi
  obtain ⟨q1, q2, q3, q4, q5, q6⟩ := h9 x hxm
  have hca : ∀ q, cnt ({ h with ls := [] } : Hp).all q + cnt (pgs x.p) q ≤ 1 := fun q => by
    have h1 := cnt_push h.ls l p q
    have h2 := cnt_lsB_erase hi q
    rw [hxi] at h2
    have h3 := hd q
    rw [cnt_all] at h3
    rw [cnt_all]
    simp only [lsB, cnt]
    omega
  refine ⟨hlr, push_rise hk.lk l p, fun y hy => ⟨(h9 y hy).2.1, (h9 y hy).2.2.1⟩, ?_, ?_, x, hx, hxk, q5, ?_, fun q hq => (q6 q hq).1, ?_, fun j hj m => ?_⟩
  · have hr := push_rise hk.lk l p
    refine rise_len (N := 24) hr fun y hy => ?_
    obtain ⟨g1, g2, g3, _⟩ := h9 y hy
    have := hk.cp.2
    unfold Ls.key
    omega
  · unfold hasL
    rw [hx]
    exact decide_eq_true hxk
  · unfold Hp.give
    have e : (⟨cpu, h.zof p, (h.zone (h.zof p)).y.getD ((p - (h.zone (h.zof p)).f) / 8) 0, []⟩ : Ls) = l := hl.symm
    rw [e]
    simp only
    rw [hx]
  · exact hca
  · have hpg : ∀ q, cnt (pgs x.p) q = cnt (pgs (x.p.take j)) q + cnt (pgs (x.p.drop j)) q := fun q => by rw [← cnt_pgs_append, List.take_append_drop]
    have hk0 : HOk { h with ls := [] } := hk.noLists
    obtain ⟨k1, k2, k3, k4, k5⟩ := hk0.backAll (x.p.take j) (fun q hq => (q6 q (List.mem_of_mem_take hq)).1) (fun q => by have := hca q; have := hpg q; omega)
    have hdj : ∀ q, cnt (Go.Proofs.YtjljcifpcljlaaaDoor.backAll ({ h with ls := [] } : Hp) (x.p.take j)).all q + hit ⟨x.p[j], 0, 0⟩ q ≤ 1 := fun q => by
      rw [k2]
      have h1 := hca q
      have h2 := hpg q
      have h3 : x.p.drop j = x.p[j] :: x.p.drop (j + 1) := List.drop_eq_getElem_cons hj
      have h4 : cnt (pgs (x.p.drop j)) q = hit ⟨x.p[j], 0, 0⟩ q + cnt (pgs (x.p.drop (j + 1))) q := by rw [h3]; rfl
      omega
    have h5 := back_ready_ls k1 m (fits_page (q6 _ (List.getElem_mem hj)).1) hdj
    have e : ({ Go.Proofs.YtjljcifpcljlaaaDoor.backAll ({ h with ls := [] } : Hp) (x.p.take j) with ls := m } : Hp) = { Go.Proofs.YtjljcifpcljlaaaDoor.backAll { h with ls := pushL h.ls l p } (x.p.take j) with ls := m } := by
      have e1 := backAll_ls (x.p.take j) h []
      have e2 := backAll_ls (x.p.take j) h (pushL h.ls l p)
      rw [e1, e2]
    rw [← e]
    exact h5
end Go.Proofs.YtjljcifpcljlaaaDoor
/- What holds of pages that are asked and given back. No program in sight. -/
namespace Go.Proofs.YtjljcifpcljlaaaDoor
set_option linter.unusedVariables false
theorem give_held {m : Nat → Nat} {h : Hp} (hk : HOk h) (hh : HeldAt m h) {cpu p : Nat} (hc : cpu < h.cpus) (hp : p < 256) (hd : ∀ q, cnt h.all q + hit ⟨p, 0, 0⟩ q ≤ 1) : HeldAt m (h.give cpu p) := by
  obtain ⟨g1, g2, g3, g4, g5, x, hx, hxk, hx9, hg, hp9, hc9, _⟩ := hk.giving hc hp hd rfl
  rw [hg]
  split
  · have h1 := backAll_held (x.p.take 4) (h := { h with ls := [] }) hk.noLists hh (fun q hq => hp9 q (List.mem_of_mem_take hq)) (fun q => by
      have h2 := hc9 q
      have h3 : cnt (pgs x.p) q = cnt (pgs (x.p.take 4)) q + cnt (pgs (x.p.drop 4)) q := by rw [← cnt_pgs_append, List.take_append_drop]
      omega)
    have e1 := backAll_ls (x.p.take 4) h []
    have e2 := backAll_ls (x.p.take 4) h (pushL h.ls ⟨cpu, h.zof p, h.typ p, []⟩ p)
    rw [e1] at h1
    rw [e2]
    exact h1
  · exact hh
theorem freeB_held {m : Nat → Nat} {h : Hp} (hk : HOk h) (hh : HeldAt m h) {cpu i : Nat} (hc : cpu < h.cpus) (hi : i < h.live.length) : HeldAt m (h.freeB cpu i h.live[i]) := by
  obtain ⟨k1, k2⟩ := hk.erase hi
  have hb := hk.lv _ (List.getElem_mem hi)
  by_cases ho : 0 < h.live[i].o
  · rw [freeB_big ho]
    exact backB_held k1 hh hb.1 (fun q => by rw [k2]; exact hk.one q)
  · have ho0 : h.live[i].o = 0 := by omega
    rw [freeB_one ho0]
    rw [ho0] at k2
    exact give_held k1 hh hc hb.1.2.2.1 (fun q => by rw [k2]; exact hk.one q)

structure PInv (h0 h : Hp) (away : List Bk) : Prop where
  ok : HOk h
  same : Same h0 h
  cn : ∀ q, cnt h.all q = cnt h0.all q
  lv : (away.map keyB).Perm (h.live.map keyB)
  t0 : ∀ b ∈ away, b.t = 0
theorem rise_lt : ∀ {l : List Bk} {k N : Nat}, Rise l → (∀ x ∈ l, k ≤ x.a ∧ x.a < N) → l.length + k ≤ N ∨ l = []
  | [], _, _, _, _ => .inr rfl
  | c :: m, k, N, q1, q2 => by
    have q3 := List.pairwise_cons.1 q1
    have q4 := q2 c (by simp)
    rcases rise_lt (k := c.a + 1) (N := N) q3.2 fun x hx => ⟨q3.1 x hx, (q2 x (by simp [hx])).2⟩ with q5 | rfl
    · simp only [List.length_cons]; exact .inl (by omega)
    · simp only [List.length_cons, List.length_nil]; exact .inl (by omega)
theorem HOk.live_len {h : Hp} (hk : HOk h) : h.live.length ≤ 256 := by
  rcases rise_lt (k := 0) (N := 256) hk.vs fun x hx => ⟨Nat.zero_le _, (hk.lv x hx).1.2.2.1⟩ with h1 | h1
  · omega
  · rw [h1]; exact Nat.zero_le _
theorem PInv.len {h0 h : Hp} {away : List Bk} (hp : PInv h0 h away) : away.length = h.live.length ∧ away.length ≤ 256 := by
  have h1 := hp.lv.length_eq
  have h2 := hp.ok.live_len
  simp only [List.length_map] at h1
  omega
theorem PInv.start {h0 : Hp} (hk : HOk h0) (hl : h0.live = []) : PInv h0 h0 [] := ⟨hk, Same.refl h0, fun _ => rfl, by rw [hl], by simp⟩
theorem perm_erase {α : Type} (l : List α) {i : Nat} (hi : i < l.length) : l.Perm (l[i] :: l.eraseIdx i) := by
  have h : l = l.take i ++ l[i] :: l.drop (i + 1) := by rw [List.getElem_cons_drop, List.take_append_drop]
  rw [List.eraseIdx_eq_take_drop_succ]
  exact (List.Perm.of_eq h).trans List.perm_middle
/-- what was asked can be given back -/
theorem PInv.has {h0 h : Hp} {away : List Bk} (hp : PInv h0 h away) {j : Nat} (hj : j < away.length) :
    ∃ hi : lb h.live away[j].a < h.live.length, h.live[lb h.live away[j].a].a = away[j].a ∧ h.live[lb h.live away[j].a].o = away[j].o ∧ hasB h.live away[j].a = true ∧ away[j].a < 256 := by
  have h1 : keyB away[j] ∈ h.live.map keyB := hp.lv.mem_iff.1 (List.mem_map_of_mem (List.getElem_mem hj))
  obtain ⟨b, hb, e⟩ := List.mem_map.1 h1
  simp only [keyB, Prod.mk.injEq] at e
  obtain ⟨e1, e2⟩ := e
  have h2 := lb_hit hp.ok.vs hb
  rw [e1] at h2
  obtain ⟨hi, h3⟩ := List.getElem?_eq_some_iff.1 h2
  refine ⟨hi, by rw [h3, e1], by rw [h3, e2], ?_, by have := (hp.ok.lv b hb).1.2.2.1; omega⟩
  exact List.any_eq_true.2 ⟨b, hb, decide_eq_true e1⟩
theorem PInv.free {h0 h : Hp} {away : List Bk} (hp : PInv h0 h away) {cpu j : Nat} (hc : cpu < h0.cpus) (hj : j < away.length) (hi : lb h.live away[j].a < h.live.length) :
    PInv h0 (h.freeB cpu (lb h.live away[j].a) h.live[lb h.live away[j].a]) (away.eraseIdx j) := by
  have hc' : cpu < h.cpus := by rw [hp.same.cpus]; exact hc
  obtain ⟨k1, k2, k3, k4⟩ := hp.ok.freeB hc' hi
  obtain ⟨_, g1, g2, _, _⟩ := hp.has hj
  refine ⟨k1, hp.same.trans k3, fun q => by rw [k2, hp.cn], ?_, fun b hb => hp.t0 b ((List.eraseIdx_sublist _ _).subset hb)⟩
  rw [k4]
  have p1 := (perm_erase away hj).map keyB
  have p2 := (perm_erase h.live hi).map keyB
  have p3 := (p1.symm.trans hp.lv).trans p2
  have e : keyB h.live[lb h.live away[j].a] = keyB away[j] := by unfold keyB; rw [g1, g2]
  simp only [List.map_cons, e] at p3
  exact p3.cons_inv
theorem PInv.drain {h0 h : Hp} {away : List Bk} (hp : PInv h0 h away) : PInv h0 h.drain away := by
  obtain ⟨k1, k2, k3, k4, k5⟩ := hp.ok.drain
  exact ⟨k1, hp.same.trans k3, fun q => by rw [k2, hp.cn], by rw [k5]; exact hp.lv, hp.t0⟩
theorem PInv.alloc {h0 h h' : Hp} {away : List Bk} (hp : PInv h0 h away) {cpu order t a : Nat} {u lo : Bool} (hc : cpu < h0.cpus) (ho : order ≤ 4) (ht : t < 3) (he : h.alloc cpu order t u lo = some (h', a)) : PInv h0 h' (away ++ [⟨a, order, 0⟩]) := by
  obtain ⟨k1, k2, k3, k4, k5⟩ := hp.ok.alloc (by rw [hp.same.cpus]; exact hc) ho ht he
  refine ⟨k1, hp.same.trans k3, fun q => by rw [k2, hp.cn], ?_, fun b hb => ?_⟩
  · rw [k4, List.map_append]
    unfold putIn
    rw [List.map_append, List.map_cons]
    have p1 : ((List.map keyB (h.live.take (lb h.live a))) ++ keyB ⟨a, order, t⟩ :: List.map keyB (h.live.drop (lb h.live a))).Perm (keyB ⟨a, order, t⟩ :: (List.map keyB (h.live.take (lb h.live a)) ++ List.map keyB (h.live.drop (lb h.live a)))) := List.perm_middle
    rw [← List.map_append, List.take_append_drop] at p1
    refine List.Perm.trans ?_ p1.symm
    refine (List.perm_append_comm).trans ?_
    exact List.Perm.cons _ hp.lv
  · rcases List.mem_append.1 hb with h1 | h1
    · exact hp.t0 b h1
    · rw [List.mem_singleton.1 h1]
end Go.Proofs.YtjljcifpcljlaaaDoor
/- Contracts of package boot: end, CheckRegion, list, Check. -/
namespace Go.Proofs.YtjljcifpcljlaaaDoor
open Go.RowKit
set_option linter.unusedVariables false

structure Rg where
  f : Int
  s : Int
deriving DecidableEq

def encRg (r : Rg) : List Value := [vI r.f, vI r.s]
theorem encRg_length (r : Rg) : (encRg r).length = 2 := rfl
def aggRg (r : Rg) : Value := .agg #[.int .i64 r.f, .int .i64 r.s]
def Rg.fin (r : Rg) : Int := r.f + r.s
/-- numbers of a region that no sum leaves -/
def Rg.small (r : Rg) : Prop := -4611686018427387904 ≤ r.f ∧ r.f ≤ 4611686018427387903 ∧ -4611686018427387904 ≤ r.s ∧ r.s ≤ 4611686018427387903

theorem end_any (r : Rg) (w : World) (h : r.small) :
    Calls Tryd.prog 73 #[.agg #[.int .i64 r.f, .int .i64 r.s]] w fun e w' => e = .returned (.int .i64 (r.f + r.s)) ∧ Below w.heap.size w w' := by
  obtain ⟨h1, h2, h3, h4⟩ := h
  go_enter Tryd.func73, Tryd.ntmps73
  go_wp2
  go_ret
  exact ⟨rfl, (Below.refl _ _).alloc (Nat.le_refl _) _⟩

def ckRg (r : Rg) : Bool := decide (0 ≤ r.f ∧ 1 ≤ r.s ∧ r.s ≤ 256 ∧ r.f ≤ 256 - r.s)

theorem ck_parts {r : Rg} (h : ckRg r = true) : 0 ≤ r.f ∧ 1 ≤ r.s ∧ r.s ≤ 256 ∧ r.f ≤ 256 - r.s := of_decide_eq_true h

theorem checkRegion_ok (r : Rg) (w : World) (h : ckRg r = true) :
    Calls Tryd.prog 82 #[.agg #[.int .i64 r.f, .int .i64 r.s]] w fun e w' => e = .returned (.int .i64 0) ∧ Below w.heap.size w w' := by
  obtain ⟨h1, h2, h3, h4⟩ := ck_parts h
  clear h
  go_enter Tryd.func82, Tryd.ntmps82
  go_wp2
  go_ret
  exact ⟨rfl, (Below.refl _ _).alloc (Nat.le_refl _) _⟩

theorem checkRegion_bad (r : Rg) (w : World) (h : ckRg r = false) :
    Calls Tryd.prog 82 #[.agg #[.int .i64 r.f, .int .i64 r.s]] w fun e w' => e = .returned (.int .i64 1) ∧ Below w.heap.size w w' := by
  obtain ⟨f, s⟩ := r
  have h' := of_decide_eq_false h
  simp only at h' ⊢
  clear h
  by_cases h1 : 0 ≤ f
  · by_cases h2 : 1 ≤ s
    · by_cases h3 : s ≤ 256
      · have h4 : 256 - s < f := by omega
        clear h'
        go_enter Tryd.func82, Tryd.ntmps82
        go_wp2
        go_ret
        exact ⟨rfl, (Below.refl _ _).alloc (Nat.le_refl _) _⟩
      · clear h'
        go_enter Tryd.func82, Tryd.ntmps82
        go_wp2
        go_ret
        exact ⟨rfl, (Below.refl _ _).alloc (Nat.le_refl _) _⟩
    · clear h'
      go_enter Tryd.func82, Tryd.ntmps82
      go_wp2
      go_ret
      exact ⟨rfl, (Below.refl _ _).alloc (Nat.le_refl _) _⟩
  · clear h'
    go_enter Tryd.func82, Tryd.ntmps82
    go_wp2
    go_ret
    exact ⟨rfl, (Below.refl _ _).alloc (Nat.le_refl _) _⟩

/-! ## list: do regions rise, without touching? -/
def rgPair : Option Rg → Rg → Bool
  | none, _ => true
  | some p, r => decide (p.f + p.s < r.f)

/-- regions that may be, one behind the other, from behind a first one on -/
def rgFrom : Option Rg → List Rg → Bool
  | _, [] => true
  | p, r :: l => ckRg r && rgPair p r && rgFrom (some r) l

def listOk (l : List Rg) : Bool := decide (l.length ≤ 40) && rgFrom none l

theorem rgFrom_split : ∀ (l : List Rg) (p : Option Rg) (k : Nat), rgFrom p l = (rgFrom p (l.take k) && rgFrom ((l.take k).getLast?.or p) (l.drop k))
  | [], p, k => by simp [rgFrom]
  | r :: l, p, 0 => by simp [rgFrom]
  | r :: l, p, k + 1 => by
    rw [List.take_succ_cons, List.drop_succ_cons, rgFrom, rgFrom, rgFrom_split l (some r) k, ← Bool.and_assoc]
    congr 2
    cases h : l.take k with
    | nil => simp
    | cons x t => simp [List.getLast?_cons]

/-- round k of the check: what is said of the k-th region -/
def rgAt (l : List Rg) (k : Nat) (r : Rg) : Bool := ckRg r && rgPair (l[k - 1]?.bind fun p => if k = 0 then none else some p) r

theorem rgFrom_succ (l : List Rg) (k : Nat) (hk : k < l.length) : rgFrom none (l.take (k + 1)) = (rgFrom none (l.take k) && rgAt l k l[k]) := by
  rw [List.take_succ_eq_append_getElem hk, rgFrom_split (l.take k ++ [l[k]]) none k]
  have hl : (l.take k).length = k := by rw [List.length_take]; omega
  rw [List.take_left' hl, List.drop_left' hl]
  congr 1
  have e : ((l.take k).getLast?.or none) = (l[k - 1]?.bind fun p => if k = 0 then none else some p) := by
    rcases k with _ | k
    · simp
    · rw [List.getLast?_eq_getElem?, hl]
      simp
  rw [e]
  simp [rgFrom, rgAt]

theorem list_any (a : Option Addr) (cap : Nat) (l : List Rg) (w : World) (hl : l.length ≤ 9223372036854775807) (hr : Row w a (flat encRg l)) (hs : ∀ r ∈ l, r.small) :
    Calls Tryd.prog 72 #[.slice a l.length cap] w fun e w' => e = .returned (.bool (listOk l)) ∧ Below w.heap.size w w' := by
  by_cases hlen : l.length ≤ 40
  · have hb0 : decide (40 < (l.length : Int)) = false := decide_eq_false (by omega)
    have hE : listOk l = rgFrom none l := by simp [listOk, hlen]
    have HE := Hid.mk hE
    clear hE
    go_enter Tryd.func72, Tryd.ntmps72
    go_wp2
    go_loopw [3, 4, 10] (fun _ _ s10 wr => ∃ k : Nat, k ≤ l.length ∧ s10 = .int .i64 k ∧ Hid (rgFrom none (l.take k) = true) ∧ Below w.heap.size w wr) (fun _ _ s10 _ => l.length - (intOf s10).toNat)
    case atStart => exact ⟨0, Nat.zero_le _, rfl, by simp [Hid, rgFrom], Below.refl _ _⟩
    case round =>
      obtain ⟨k, hk, rfl, hok, hbw⟩ := hrel
      by_cases hlt : k < l.length
      · obtain ⟨b, off, rfl, hb, hc⟩ := row_elem encRg_length (by decide) (hr.below hbw) hlt
        have hc0 := hc 0 (vI l[k].f) rfl
        have hc1 := hc 1 (vI l[k].s) rfl
        simp only [vI, Nat.add_zero] at hc0 hc1
        go_wp2_with fail
        have h10 : (wr.alloc (.cells #[.int .i64 l[k].f, .int .i64 l[k].s] 47)).cell? ⟨wr.heap.size, 0, none⟩ = some (.int .i64 l[k].f) := by simp [go_sem]
        have h11 : (wr.alloc (.cells #[.int .i64 l[k].f, .int .i64 l[k].s] 47)).cell? ⟨wr.heap.size, 1, none⟩ = some (.int .i64 l[k].s) := by simp [go_sem]
        have hs1 : wr.heap.size < (wr.alloc (.cells #[.int .i64 l[k].f, .int .i64 l[k].s] 47)).heap.size := by simp
        have hb1 : Below w.heap.size w (wr.alloc (.cells #[.int .i64 l[k].f, .int .i64 l[k].s] 47)) := hbw.alloc hbw.size _
        clear hc hc0 hc1
        generalize wr.alloc (.cells #[.int .i64 l[k].f, .int .i64 l[k].s] 47) = w1 at *
        have hsucc := rgFrom_succ l k hlt
        rw [hok.out, Bool.true_and] at hsucc
        have HS := Hid.mk hsucc
        clear hsucc
        cases hck : ckRg l[k] with
        | false =>
          have hfalse : Hid (rgFrom none l = false) := by
            rw [Hid, rgFrom_split l none (k + 1), HS.out]
            simp [rgAt, hck]
          refine wp_region_ext_lit (by kernel_rfl) (by kernel_rfl) ?_
          repeat (first | go_big_quiet_step ((go_at_call 82; exact Calls.ext_of (checkRegion_bad l[k] _ hck))) | quiet_step ((go_at_call 82; exact Calls.ext_of (checkRegion_bad l[k] _ hck))))
          refine wpQuiet_nil ?_
          rintro _ ⟨wx, rfl⟩
          have hbx : Below w.heap.size w (ext w1 wx) := Below.step hb1 (ext_below w1 wx)
          go_wp2
          go_ret
          exact ⟨ret_bool (by rw [HE.out, hfalse.out]), hbx⟩
        | true =>
          by_cases hk0 : 0 < k
          · have hd : decide (0 < (k : Int)) = true := decide_eq_true (by omega)
            have hkk : k - 1 < l.length := by omega
            have hsp := hs l[k - 1] (List.getElem_mem hkk)
            obtain ⟨b', off', e', hb', hc'⟩ := row_elem encRg_length (by decide) (hr.below hb1) hkk
            obtain ⟨rfl, rfl⟩ : b = b' ∧ off = off' := by simpa using e'
            have hc0 := hc' 0 (vI l[k - 1].f) rfl
            have hc1 := hc' 1 (vI l[k - 1].s) rfl
            simp only [vI, Nat.add_zero] at hc0 hc1
            clear hc' e'
            have hi1 : 0 ≤ (k : Int) - 1 := by omega
            have hi2 : (k : Int) - 1 < (l.length : Int) := by omega
            have hi3 : ((k : Int) - 1).toNat = k - 1 := by omega
            have hi4 : IntKind.i64.wrap ((k : Int) - 1) = (k : Int) - 1 := IntWalk.i64_in _ (by omega)
            cases hp : decide (l[k].f ≤ l[k - 1].f + l[k - 1].s) with
            | true =>
              refine wp_region_ext_lit (by kernel_rfl) (by kernel_rfl) ?_
              repeat (first | go_big_quiet_step ((first | (go_at_call 82; exact Calls.ext_of (checkRegion_ok l[k] _ hck)) | (go_at_call 73; exact Calls.ext_of (end_any l[k - 1] _ hsp)))) | quiet_step ((first | (go_at_call 82; exact Calls.ext_of (checkRegion_ok l[k] _ hck)) | (go_at_call 73; exact Calls.ext_of (end_any l[k - 1] _ hsp)))))
              refine wpQuiet_nil ?_
              rintro _ ⟨wx, rfl⟩
              have hbx : Below w.heap.size w (ext w1 wx) := Below.step hb1 (ext_below w1 wx)
              have hfalse : Hid (rgFrom none l = false) := by
                have hp' := of_decide_eq_true hp
                rw [Hid, rgFrom_split l none (k + 1), HS.out]
                have : rgAt l k l[k] = false := by
                  unfold rgAt
                  rw [hck, Bool.true_and, List.getElem?_eq_getElem hkk, Option.bind_some, if_neg (by omega)]
                  exact decide_eq_false (by omega)
                rw [this, Bool.false_and]
              go_wp2
              go_ret
              exact ⟨ret_bool (by rw [HE.out, hfalse.out]), hbx⟩
            | false =>
              have htrue : Hid (rgFrom none (l.take (k + 1)) = true) := by
                have hp' := of_decide_eq_false hp
                rw [Hid, HS.out]
                unfold rgAt
                rw [hck, Bool.true_and, List.getElem?_eq_getElem hkk, Option.bind_some, if_neg (by omega)]
                exact decide_eq_true (by omega)
              refine wp_region_ext_lit (by kernel_rfl) (by kernel_rfl) ?_
              repeat (first | go_big_quiet_step ((first | (go_at_call 82; exact Calls.ext_of (checkRegion_ok l[k] _ hck)) | (go_at_call 73; exact Calls.ext_of (end_any l[k - 1] _ hsp)))) | quiet_step ((first | (go_at_call 82; exact Calls.ext_of (checkRegion_ok l[k] _ hck)) | (go_at_call 73; exact Calls.ext_of (end_any l[k - 1] _ hsp)))))
              refine wpQuiet_nil ?_
              rintro _ ⟨wx, rfl⟩
              have hbx : Below w.heap.size w (ext w1 wx) := Below.step hb1 (ext_below w1 wx)
              go_wp2
              go_roundw
              case rel => exact ⟨k + 1, by omega, by go_num, htrue.out, hbx⟩
              case measure => simp [intOf]; omega
          · have hd : decide (0 < (k : Int)) = false := decide_eq_false (by omega)
            have htrue : Hid (rgFrom none (l.take (k + 1)) = true) := by
              obtain rfl : k = 0 := by omega
              rw [Hid, HS.out]; unfold rgAt; rw [hck, Bool.true_and]
              cases l[0 - 1]? <;> rfl
            refine wp_region_ext_lit (by kernel_rfl) (by kernel_rfl) ?_
            repeat (first | go_big_quiet_step ((go_at_call 82; exact Calls.ext_of (checkRegion_ok l[k] _ hck))) | quiet_step ((go_at_call 82; exact Calls.ext_of (checkRegion_ok l[k] _ hck))))
            refine wpQuiet_nil ?_
            rintro _ ⟨wx, rfl⟩
            have hbx : Below w.heap.size w (ext w1 wx) := Below.step hb1 (ext_below w1 wx)
            go_wp2
            go_roundw
            case rel => exact ⟨k + 1, by omega, by go_num, htrue.out, hbx⟩
            case measure => simp [intOf]; omega
      · obtain rfl : k = l.length := by omega
        have htrue : Hid (rgFrom none l = true) := by rw [List.take_of_length_le (Nat.le_refl _)] at hok; exact hok
        clear hok
        go_wp2
        go_ret
        exact ⟨ret_bool (by rw [HE.out, htrue.out]), hbw⟩
  · have hb0 : decide (40 < (l.length : Int)) = true := decide_eq_true (by omega)
    have hE : Hid (listOk l = false) := by unfold Hid listOk; rw [decide_eq_false hlen, Bool.false_and]
    go_enter Tryd.func72, Tryd.ntmps72
    go_wp2
    go_ret
    exact ⟨ret_bool hE.out.symm, Below.refl _ _⟩

/-- list's contract, the length apart -/
theorem list_n (a : Option Addr) (n cap : Nat) (l : List Rg) (w : World) (hn : l.length = n) (hl : n ≤ 9223372036854775807) (hr : Row w a (flat encRg l)) (hs : ∀ r ∈ l, r.small) (b : Bool) (hb : listOk l = b) :
    Calls Tryd.prog 72 #[.slice a n cap] w fun e w' => e = .returned (.bool b) ∧ Below w.heap.size w w' := by
  subst hn; subst hb
  exact list_any a cap l w hl hr hs

/-! ## Check -/
theorem bootCheck_ok (a1 a2 : Option Addr) (n1 n2 c1 c2 : Nat) (m r : List Rg) (w : World) (hn1 : m.length = n1) (hn2 : r.length = n2) (hl1 : n1 ≤ 9223372036854775807) (hl2 : n2 ≤ 9223372036854775807) (hr1 : Row w a1 (flat encRg m)) (hr2 : Row w a2 (flat encRg r)) (hs1 : ∀ x ∈ m, x.small) (hs2 : ∀ x ∈ r, x.small) (h1 : listOk m = true) (h2 : listOk r = true) :
    Calls Tryd.prog 52 #[.agg #[.slice a1 n1 c1, .slice a2 n2 c2]] w fun e w' => e = .returned (.int .i64 0) ∧ Below w.heap.size w w' := by
  have hal : Below w.heap.size w (w.alloc (.cells #[.slice a1 n1 c1, .slice a2 n2 c2] 25)) := below_alloc _ _
  have hr1' := hr1.below hal
  have hr2' := hr2.below hal
  clear hr1 hr2
  go_enter Tryd.func52, Tryd.ntmps52
  go_wp2_with fail
  refine (list_n _ _ _ m _ hn1 hl1 hr1' hs1 true h1).mono ?_
  rintro e w1 ⟨rfl, hb1⟩
  have B1 := box_call hb1
  go_wp2_with fail
  refine (list_n _ _ _ r _ hn2 hl2 (hr2'.below hb1) hs2 true h2).mono ?_
  rintro e w2 ⟨rfl, hb2⟩
  go_wp2
  go_ret
  exact ⟨rfl, Below.step hal (Below.step hb1 hb2)⟩
end Go.Proofs.YtjljcifpcljlaaaDoor
/- Contracts of package boot: pages (which pages are in regions). -/
namespace Go.Proofs.YtjljcifpcljlaaaDoor
open Go.RowKit
set_option linter.unusedVariables false

def vB (b : Bool) : Value := .bool b
/-- 256 marks -/
def bl (f : Nat → Bool) : List Bool := (List.range 256).map f
theorem bl_length (f : Nat → Bool) : (bl f).length = 256 := by simp [bl]
theorem bl_congr {f g : Nat → Bool} (h : ∀ p, p < 256 → f p = g p) : bl f = bl g := List.map_congr_left fun p hp => h p (List.mem_range.1 hp)
theorem bl_get (f : Nat → Bool) (i : Nat) (h : i < 256) : (bl f)[i]? = some (f i) := by simp [bl, h]
theorem bl_set (f : Nat → Bool) (i : Nat) (v : Bool) : (bl f).set i v = bl (fun p => if p = i then v else f p) := by
  apply List.ext_getElem?
  intro j
  rw [List.getElem?_set]
  by_cases hj : j < 256
  · rw [bl_get _ j hj, bl_get _ j hj, bl_length]
    by_cases e : i = j
    · subst e; simp [hj]
    · rw [if_neg e, if_neg (fun h => e h.symm)]
  · have h1 : (bl f)[j]? = none := List.getElem?_eq_none (by rw [bl_length]; omega)
    have h2 : (bl (fun p => if p = i then v else f p))[j]? = none := List.getElem?_eq_none (by rw [bl_length]; omega)
    rw [h1, h2, bl_length]
    split
    · rw [if_neg (by omega)]
    · rfl

def inOne (r : Rg) (p : Nat) : Bool := decide (r.f ≤ (p : Int) ∧ (p : Int) < r.f + r.s)
def inRg (l : List Rg) (p : Nat) : Bool := l.any fun r => inOne r p

theorem ck_small {r : Rg} (h : ckRg r = true) : r.small := by
  have := ck_parts h
  unfold Rg.small
  omega

theorem rgFrom_all : ∀ (l : List Rg) (p : Option Rg), rgFrom p l = true → ∀ r ∈ l, ckRg r = true
  | [], _, _, r, hr => by simp at hr
  | x :: l, p, h, r, hr => by
    simp only [rgFrom, Bool.and_eq_true] at h
    rcases List.mem_cons.1 hr with rfl | hr
    · exact h.1.1
    · exact rgFrom_all l (some x) h.2 r hr
theorem listOk_all {l : List Rg} (h : listOk l = true) : ∀ r ∈ l, ckRg r = true := by
  simp only [listOk, Bool.and_eq_true] at h
  exact rgFrom_all l none h.2
theorem listOk_small {l : List Rg} (h : listOk l = true) : ∀ r ∈ l, r.small := fun r hr => ck_small (listOk_all h r hr)
theorem listOk_len {l : List Rg} (h : listOk l = true) : l.length ≤ 40 := by
  simp only [listOk, Bool.and_eq_true, decide_eq_true_eq] at h
  exact h.1

theorem info_bool : (Tryd.prog.info? 4).map (fun i => (i.zero, i.size, i.bytes)) = some (some (.bool false), 1, 1) := by kernel_rfl
theorem bl_zero : (List.replicate 256 (Value.bool false)) = (bl fun _ => false).map vB := by
  rw [show (bl fun _ => false) = List.replicate 256 false from by decide +kernel, List.map_replicate]
  rfl

theorem inRg_take_succ (l : List Rg) (k : Nat) (hk : k < l.length) (p : Nat) : inRg (l.take (k + 1)) p = (inRg (l.take k) p || inOne l[k] p) := by
  unfold inRg
  rw [List.take_succ_eq_append_getElem hk, List.any_append]
  simp

set_option maxRecDepth 100000 in
theorem pages_any (a : Option Addr) (n cap : Nat) (l : List Rg) (w : World) (hn : l.length = n) (hr : Row w a (flat encRg l)) (hok : ∀ r ∈ l, ckRg r = true) (hl : n ≤ 9223372036854775807) :
    Calls Tryd.prog 53 #[.slice a n cap] w fun e w' => ∃ a' c', e = .returned (.slice a' 256 c') ∧ w'.ownsRow w.heap.size 4 1 (.slice a' 256 c') 256 ((bl (inRg l)).map vB) ∧ Below w.heap.size w w' := by
  subst hn
  obtain ⟨i0, hi, hz, hsize, hby⟩ := info_parts info_bool
  go_enter Tryd.func53, Tryd.ntmps53
  go_wp2_with (at_make; refine wpList_make_full _ rfl _ _ 99 rfl w.heap.size 4 i0 (.bool false) 1 Tryd.underlying99 hi hz hsize .i64 .i64 _ _ 256 rfl rfl rfl rfl ?q1 ?q2 ?q3 ?_)
  case q1 => rw [hby]; omega
  case q2 => unfold maxLen; omega
  case q3 => exact Nat.le_refl _
  intro w1 hown hgrow
  rw [toList_madeCells_one, bl_zero] at hown
  have HO := Hid.mk hown
  have hbw := (Below.refl w.heap.size w).grown hgrow (Nat.le_refl _) (by simp)
  clear hown hgrow
  go_wp2
  go_loopw [5, 6, 10] (fun _ _ s10 wr => ∃ k : Nat, k ≤ l.length ∧ s10 = .int .i64 k ∧ Hid (wr.ownsRow w.heap.size 4 1 (.slice (some ⟨w.heap.size, 0, none⟩) 256 256) 256 ((bl (inRg (l.take k))).map vB)) ∧ Below w.heap.size w wr) (fun _ _ s10 _ => l.length - (intOf s10).toNat)
  case atStart => exact ⟨0, Nat.zero_le _, rfl, HO, hbw⟩
  case round =>
    obtain ⟨k, hk, rfl, hown, hbw⟩ := hrel
    by_cases hlt : k < l.length
    · obtain ⟨b, off, rfl, hb, hc⟩ := row_elem encRg_length (by decide) (hr.below hbw) hlt
      have hc0 := hc 0 (vI l[k].f) rfl
      have hc1 := hc 1 (vI l[k].s) rfl
      simp only [vI, Nat.add_zero] at hc0 hc1
      have hck := hok l[k] (List.getElem_mem hlt)
      obtain ⟨g1, g2, g3, g4⟩ := ck_parts hck
      have hsm := ck_small hck
      have hsucc := inRg_take_succ l k hlt
      generalize hrr : l[k] = r at *
      clear hrr hok
      obtain ⟨f, s⟩ := r
      simp only at g1 g2 g3 g4 hc0 hc1
      obtain ⟨f, rfl⟩ := Int.eq_ofNat_of_zero_le g1
      obtain ⟨s, rfl⟩ := Int.eq_ofNat_of_zero_le (show (0 : Int) ≤ s by omega)
      have HSUCC := Hid.mk hsucc
      clear hsucc
      go_wp2
      have hb2 : Below w.heap.size w (wr.alloc (.cells #[.int .i64 (f : Int), .int .i64 (s : Int)] 47)) := hbw.alloc hbw.size _
      have B2 := box_new wr #[.int .i64 (f : Int), .int .i64 (s : Int)] 47
      have hs2 : wr.heap.size < (wr.alloc (.cells #[.int .i64 (f : Int), .int .i64 (s : Int)] 47)).heap.size := by simp
      have HO2 := Hid.mk (own_below hown.out (below_alloc wr (.cells #[.int .i64 (f : Int), .int .i64 (s : Int)] 47)) (Nat.le_refl _))
      have hne : w.heap.size < wr.heap.size := by
        obtain ⟨g, v, e, _, h, _⟩ := own_cell hown.out 0 (by simp [bl_length])
        obtain rfl : w.heap.size = g := by simpa using e
        exact h
      generalize wr.alloc (.cells #[.int .i64 (f : Int), .int .i64 (s : Int)] 47) = w2 at *
      generalize wr.heap.size = bb at *
      go_loopw [6] (fun s6 wq => ∃ i : Nat, f ≤ i ∧ i ≤ f + s ∧ s6 = .int .i64 i ∧ Hid (wq.ownsRow w.heap.size 4 1 (.slice (some ⟨w.heap.size, 0, none⟩) 256 256) 256 ((bl (fun p => inRg (l.take k) p || (decide (f ≤ p) && decide (p < i)))).map vB)) ∧ Below w.heap.size w wq ∧ Hid (∀ o, wq.cell? ⟨bb, o, none⟩ = (#[.int .i64 (f : Int), .int .i64 (s : Int)] : Array Value)[o]?) ∧ bb < wq.heap.size) (fun s6 _ => 256 - (intOf s6).toNat)
      case atStart =>
        refine ⟨f, Nat.le_refl _, by omega, rfl, ?_, hb2, B2, hs2⟩
        rw [show bl (fun p => inRg (l.take k) p || (decide (f ≤ p) && decide (p < f))) = bl (inRg (l.take k)) from bl_congr fun p _ => by
          have : (decide (f ≤ p) && decide (p < f)) = false := by
            by_cases h : f ≤ p
            · rw [decide_eq_false (show ¬ p < f by omega), Bool.and_false]
            · rw [decide_eq_false h, Bool.false_and]
          rw [this, Bool.or_false]]
        exact HO2
      case round =>
        obtain ⟨i, hi1, hi2, rfl, hown3, hb3, HB3, hs3⟩ := hrel
        have B3 := HB3.out
        clear B2 HO2 HO hs2 hb2
        by_cases hlti : i < f + s
        · go_wp2_with fail
          refine (end_any ⟨(f : Int), (s : Int)⟩ _ hsm).mono ?_
          rintro e w4 ⟨rfl, hb4⟩
          have B4 := box_step B3 hs3 hb4
          have hown4 := own_below hown3.out hb4 (Nat.le_refl _)
          have hb5 := Below.step hb3 hb4
          have hs4 : bb < w4.heap.size := Nat.lt_of_lt_of_le hs3 hb4.size
          obtain ⟨g, v, e, hg, hgs, hcg, hfg⟩ := own_cell hown4 i (by rw [List.length_map, bl_length]; omega)
          obtain rfl : w.heap.size = g := by simpa using e
          have HO4 := Hid.mk hown4
          clear B3 hown4 hown3 e
          go_wp2
          go_roundw
          case rel =>
            refine ⟨i + 1, by omega, by omega, by go_num, ?_, hb5.setCell (Nat.le_refl _) _, ?_, by simpa using hs4⟩
            · have h := (World.ownsRow.stored HO4.out i (vB true)).1
              rw [← List.map_set, bl_set] at h
              rw [show bl (fun p => inRg (l.take k) p || (decide (f ≤ p) && decide (p < i + 1))) = bl (fun p => if p = i then true else inRg (l.take k) p || (decide (f ≤ p) && decide (p < i))) from bl_congr fun p _ => by
                by_cases e : p = i
                · subst e
                  rw [if_pos rfl, decide_eq_true hi1, decide_eq_true (Nat.lt_succ_self p)]; simp
                · rw [if_neg e, decide_eq_decide.2 (show p < i + 1 ↔ p < i by omega)]]
              exact h
            · intro o
              simp [go_sem, B4]
          case measure => simp [intOf]; omega
        · obtain rfl : i = f + s := by omega
          go_wp2_with fail
          refine (end_any ⟨(f : Int), (s : Int)⟩ _ hsm).mono ?_
          rintro e w4 ⟨rfl, hb4⟩
          have hb5 := Below.step hb3 hb4
          have hown4 := Hid.mk (own_below hown3.out hb4 (Nat.le_refl _))
          clear B3 hown3
          go_wp2
          go_roundw
          case rel =>
            refine ⟨k + 1, by omega, by go_num, ?_, hb5⟩
            rw [show bl (inRg (l.take (k + 1))) = bl (fun p => inRg (l.take k) p || (decide (f ≤ p) && decide (p < f + s))) from bl_congr fun p _ => by
              rw [HSUCC.out p]
              congr 1
              unfold inOne
              rw [← Bool.decide_and]
              exact decide_eq_decide.2 (by simp only; omega)]
            exact hown4.out
          case measure => simp [intOf]; omega
    · obtain rfl : k = l.length := by omega
      rw [List.take_of_length_le (Nat.le_refl _)] at hown
      go_wp2
      go_ret
      exact ⟨_, _, rfl, hown.out, hbw⟩
end Go.Proofs.YtjljcifpcljlaaaDoor
/- Plain facts on regions: the regions of a set of pages, in their one form. -/
namespace Go.Proofs.YtjljcifpcljlaaaDoor

/-- one page more behind the regions of those below it -/
def regPush (l : List Rg) (i : Nat) : List Rg :=
  match l.getLast? with
  | some r => if r.f + r.s = i then l.dropLast ++ [⟨r.f, r.s + 1⟩] else l ++ [⟨i, 1⟩]
  | none => [⟨i, 1⟩]

def regTo (f : Nat → Bool) : Nat → List Rg
  | 0 => []
  | i + 1 => if f i then regPush (regTo f i) i else regTo f i

def regionsOf (f : Nat → Bool) : List Rg := regTo f 256

/-- what holds of the regions of the pages below i -/
structure RegInv (f : Nat → Bool) (i : Nat) (l : List Rg) : Prop where
  chain : ∀ k (h : k + 1 < l.length), (l[k]'(by omega)).f + (l[k]'(by omega)).s < l[k + 1].f
  low : ∀ r ∈ l, 0 ≤ r.f ∧ 1 ≤ r.s ∧ r.f + r.s ≤ i
  mem : ∀ p, inRg l p = (decide (p < i) && f p)

theorem inRg_append (l m : List Rg) (p : Nat) : inRg (l ++ m) p = (inRg l p || inRg m p) := by simp [inRg]
theorem inRg_one (r : Rg) (p : Nat) : inRg [r] p = inOne r p := by simp [inRg]

theorem regPush_inv {f : Nat → Bool} {i : Nat} {l : List Rg} (h : RegInv f i l) (hf : f i = true) : RegInv f (i + 1) (regPush l i) := by
  unfold regPush
  rcases List.eq_nil_or_concat l with rfl | ⟨L, r, rfl⟩
  · refine ⟨fun k hk => by simp at hk, fun r hr => ?_, fun p => ?_⟩
    · simp only [List.getLast?_nil, List.mem_singleton] at hr; subst hr; simp only; omega
    · have hm := h.mem p
      simp only [inRg, List.any_nil] at hm
      show inRg [⟨i, 1⟩] p = _
      rw [inRg_one]
      unfold inOne
      by_cases e : p = i
      · subst e; simp [hf]; omega
      · rw [decide_eq_false (by simp only; omega)]
        by_cases h1 : p < i
        · rw [decide_eq_true h1, Bool.true_and] at hm; rw [← hm]; simp
        · rw [decide_eq_false (by omega)]; simp
  · simp only [List.concat_eq_append, List.getLast?_concat, List.dropLast_concat]
    rw [List.concat_eq_append] at h
    have hrl := h.low r (by simp)
    by_cases e : r.f + r.s = i
    · rw [if_pos e]
      refine ⟨fun k hk => ?_, fun x hx => ?_, fun p => ?_⟩
      · have hc := h.chain k (by simpa using hk)
        simp only [List.length_append, List.length_cons, List.length_nil] at hk
        by_cases hkl : k + 1 < L.length
        · rw [List.getElem_append_left (by omega), List.getElem_append_left hkl] at hc ⊢; exact hc
        · have e1 : ∀ (x : Rg) (h : k + 1 < (L ++ [x]).length), (L ++ [x])[k + 1] = x := fun x h => by rw [List.getElem_append_right (by omega)]; simp
          rw [List.getElem_append_left (by omega), e1] at hc ⊢
          exact hc
      · rw [List.mem_append, List.mem_singleton] at hx
        rcases hx with hx | rfl
        · have := h.low x (by simp [hx]); omega
        · simp only; omega
      · have hm := h.mem p
        rw [inRg_append, inRg_one] at hm ⊢
        by_cases ep : p = i
        · subst ep
          rw [show inOne ⟨r.f, r.s + 1⟩ p = true from decide_eq_true (by simp only; omega), hf]; simp
        · rw [show inOne ⟨r.f, r.s + 1⟩ p = inOne r p from decide_eq_decide.2 (by simp only; omega), hm, decide_eq_decide.2 (show p < i ↔ p < i + 1 by omega)]
    · rw [if_neg e]
      refine ⟨fun k hk => ?_, fun x hx => ?_, fun p => ?_⟩
      · simp only [List.length_append, List.length_cons, List.length_nil] at hk
        by_cases hkl : k + 1 < (L ++ [r]).length
        · rw [List.getElem_append_left (by omega), List.getElem_append_left hkl]; exact h.chain k hkl
        · have hkk : k = L.length := by simp only [List.length_append, List.length_cons, List.length_nil] at hkl; omega
          subst hkk
          rw [List.getElem_append_left (by simp), List.getElem_append_right (by simp)]
          simp; omega
      · rw [List.mem_append, List.mem_singleton] at hx
        rcases hx with hx | rfl
        · have := h.low x hx; omega
        · simp only; omega
      · have hm := h.mem p
        rw [inRg_append, hm, inRg_one]
        unfold inOne
        by_cases ep : p = i
        · subst ep; simp [hf]; omega
        · rw [decide_eq_false (show ¬ ((i : Int) ≤ (p : Int) ∧ (p : Int) < (i : Int) + 1) by omega), Bool.or_false, decide_eq_decide.2 (show p < i ↔ p < i + 1 by omega)]

theorem regTo_inv (f : Nat → Bool) : ∀ i, RegInv f i (regTo f i)
  | 0 => ⟨fun k hk => by simp [regTo] at hk, fun r hr => by simp [regTo] at hr, fun p => by simp [regTo, inRg]⟩
  | i + 1 => by
    unfold regTo
    have ih := regTo_inv f i
    cases hf : f i with
    | true => rw [if_pos rfl]; exact regPush_inv ih hf
    | false =>
      rw [if_neg (by simp)]
      refine ⟨ih.chain, fun r hr => by have := ih.low r hr; omega, fun p => ?_⟩
      rw [ih.mem]
      by_cases e : p = i
      · subst e; simp [hf]
      · rw [decide_eq_decide.2 (show p < i ↔ p < i + 1 by omega)]

theorem rgFrom_of_chain : ∀ (l : List Rg) (p : Option Rg), (∀ r ∈ l, ckRg r = true) → (∀ k (h : k + 1 < l.length), (l[k]'(by omega)).f + (l[k]'(by omega)).s < l[k + 1].f) → (∀ r q, l.head? = some r → p = some q → q.f + q.s < r.f) → rgFrom p l = true
  | [], _, _, _, _ => rfl
  | r :: l, p, h1, h2, h3 => by
    unfold rgFrom
    rw [h1 r (by simp), Bool.true_and]
    rw [rgFrom_of_chain l (some r) (fun x hx => h1 x (by simp [hx])) (fun k hk => h2 (k + 1) (by simpa using hk)) (fun x q hx hq => by
      obtain rfl : r = q := by simpa using hq
      cases l with
      | nil => simp at hx
      | cons y l =>
        obtain rfl : y = x := by simpa using hx
        exact h2 0 (by simp)), Bool.and_true]
    cases p with
    | none => rfl
    | some q => exact decide_eq_true (h3 r q rfl rfl)

theorem regionsOf_ck (f : Nat → Bool) : ∀ r ∈ regionsOf f, ckRg r = true := fun r hr => by
  have := (regTo_inv f 256).low r hr
  exact decide_eq_true (by omega)
theorem regionsOf_from (f : Nat → Bool) : rgFrom none (regionsOf f) = true :=
  rgFrom_of_chain _ none (regionsOf_ck f) (regTo_inv f 256).chain (fun _ _ _ h => by cases h)
theorem regionsOf_ok (f : Nat → Bool) (h : (regionsOf f).length ≤ 40) : listOk (regionsOf f) = true := by
  unfold listOk
  rw [decide_eq_true h, regionsOf_from, Bool.true_and]
theorem regionsOf_mem (f : Nat → Bool) (p : Nat) (hp : p < 256) : inRg (regionsOf f) p = f p := by
  rw [regionsOf, (regTo_inv f 256).mem p, decide_eq_true hp, Bool.true_and]
theorem regionsOf_out (f : Nat → Bool) (p : Nat) (hp : 256 ≤ p) : inRg (regionsOf f) p = false := by
  rw [regionsOf, (regTo_inv f 256).mem p, decide_eq_false (by omega), Bool.false_and]
theorem regTo_congr {f g : Nat → Bool} : ∀ i, (∀ p, p < i → f p = g p) → regTo f i = regTo g i
  | 0, _ => rfl
  | i + 1, h => by
    unfold regTo
    rw [h i (by omega), regTo_congr i fun p hp => h p (by omega)]
theorem regionsOf_congr {f g : Nat → Bool} (h : ∀ p, p < 256 → f p = g p) : regionsOf f = regionsOf g := regTo_congr 256 h

/-! ## How many regions -/
def startB (f : Nat → Bool) (p : Nat) : Bool := f p && !(decide (0 < p) && f (p - 1))
def starts (f : Nat → Bool) : Nat → Nat
  | 0 => 0
  | i + 1 => starts f i + if startB f i then 1 else 0

theorem regPush_last (l : List Rg) (i : Nat) : ∃ r, (regPush l i).getLast? = some r ∧ r.f + r.s = (i : Int) + 1 := by
  unfold regPush
  split
  · split
    · rename_i r hr e
      exact ⟨_, List.getLast?_concat .., by simp only; omega⟩
    · exact ⟨_, List.getLast?_concat .., rfl⟩
  · exact ⟨_, rfl, rfl⟩

theorem last_fin (f : Nat → Bool) (i : Nat) : (∃ r, (regTo f i).getLast? = some r ∧ r.f + r.s = (i : Int)) ↔ (0 < i ∧ f (i - 1) = true) := by
  rcases i with _ | i
  · simp [regTo]
  · rw [Nat.add_sub_cancel]
    unfold regTo
    cases hf : f i with
    | true =>
      rw [if_pos rfl]
      obtain ⟨r, h1, h2⟩ := regPush_last (regTo f i) i
      exact ⟨fun _ => ⟨by omega, rfl⟩, fun _ => ⟨r, h1, by omega⟩⟩
    | false =>
      rw [if_neg (by simp)]
      constructor
      · rintro ⟨r, h1, h2⟩
        have := (regTo_inv f i).low r (List.mem_of_getLast? h1)
        omega
      · rintro ⟨_, h⟩; cases h

theorem regTo_length (f : Nat → Bool) : ∀ i, (regTo f i).length = starts f i
  | 0 => rfl
  | i + 1 => by
    have ih := regTo_length f i
    have hl := last_fin f i
    unfold regTo starts startB
    cases hf : f i with
    | false => rw [if_neg (by simp), ih, Bool.false_and]; rfl
    | true =>
      rw [if_pos rfl, Bool.true_and]
      unfold regPush
      split
      · rename_i r hr
        by_cases e : r.f + r.s = (i : Int)
        · rw [if_pos e]
          obtain ⟨h0, h1⟩ := hl.1 ⟨r, hr, e⟩
          rw [h1, decide_eq_true h0]
          have hne : regTo f i ≠ [] := by intro h; rw [h] at hr; cases hr
          have := List.length_pos_iff.2 hne
          simp [List.length_dropLast]; omega
        · rw [if_neg e]
          have hn : ¬ (0 < i ∧ f (i - 1) = true) := fun h => by
            obtain ⟨r', h1, h2⟩ := hl.2 h
            rw [hr] at h1; obtain rfl : r = r' := by simpa using h1
            exact e h2
          have hb : (decide (0 < i) && f (i - 1)) = false := by
            by_cases h0 : 0 < i
            · rw [decide_eq_true h0, Bool.true_and]
              cases h : f (i - 1) with
              | false => rfl
              | true => exact absurd ⟨h0, h⟩ hn
            · rw [decide_eq_false h0, Bool.false_and]
          rw [hb, List.length_append, ih]; rfl
      · rename_i hr
        rw [List.getLast?_eq_none_iff] at hr
        rw [hr] at ih hl
        have hn : ¬ (0 < i ∧ f (i - 1) = true) := fun h => by
          obtain ⟨r', h1, h2⟩ := hl.2 h
          cases h1
        have hb : (decide (0 < i) && f (i - 1)) = false := by
          by_cases h0 : 0 < i
          · rw [decide_eq_true h0, Bool.true_and]
            cases h : f (i - 1) with
            | false => rfl
            | true => exact absurd ⟨h0, h⟩ hn
          · rw [decide_eq_false h0, Bool.false_and]
        rw [hb, ← ih]; rfl

/-- marks from a on below b -/
def upd (f : Nat → Bool) (a b : Nat) (v : Bool) (p : Nat) : Bool := if a ≤ p ∧ p < b then v else f p

theorem startB_upd (f : Nat → Bool) (a b : Nat) (v : Bool) (hab : a < b) (p : Nat) : (if startB (upd f a b v) p then 1 else 0) ≤ (if startB f p then 1 else 0) + if p = (if v then a else b) then 1 else 0 := by
  have key : startB (upd f a b v) p = true → startB f p = true ∨ p = (if v then a else b) := by
    intro h
    unfold startB at h ⊢
    simp only [Bool.and_eq_true, Bool.not_eq_true', Bool.and_eq_false_iff, decide_eq_false_iff_not] at h ⊢
    obtain ⟨h1, h2⟩ := h
    unfold upd at h1 h2
    cases v with
    | true =>
      simp only [if_true] at h1 h2 ⊢
      by_cases hin : a ≤ p ∧ p < b
      · by_cases e : p = a
        · exact .inr e
        · exfalso
          rw [if_pos (by omega)] at h2
          rcases h2 with h2 | h2
          · omega
          · cases h2
      · rw [if_neg hin] at h1
        by_cases e : p = b
        · exfalso
          rw [if_pos (by omega)] at h2
          rcases h2 with h2 | h2
          · omega
          · cases h2
        · left
          refine ⟨h1, ?_⟩
          by_cases h0 : 0 < p
          · rw [if_neg (by omega)] at h2; exact h2
          · exact .inl h0
    | false =>
      simp only [Bool.false_eq_true, if_false] at h1 h2 ⊢
      by_cases hin : a ≤ p ∧ p < b
      · rw [if_pos hin] at h1; cases h1
      · rw [if_neg hin] at h1
        by_cases e : p = b
        · exact .inr e
        · left
          refine ⟨h1, ?_⟩
          by_cases h0 : 0 < p
          · rw [if_neg (by omega)] at h2; exact h2
          · exact .inl h0
  cases hs : startB (upd f a b v) p with
  | false => simp
  | true =>
    rcases key hs with h | h
    · rw [h]; simp
    · rw [if_pos h]; simp

theorem starts_upd (f : Nat → Bool) (a b : Nat) (v : Bool) (hab : a < b) : ∀ n, starts (upd f a b v) n ≤ starts f n + if (if v then a else b) < n then 1 else 0
  | 0 => by simp [starts]
  | n + 1 => by
    have ih := starts_upd f a b v hab n
    have h := startB_upd f a b v hab n
    unfold starts
    generalize (if v then a else b) = c at *
    by_cases h1 : n = c
    · subst h1
      have e1 : (if n < n then 1 else 0 : Nat) = 0 := if_neg (by omega)
      have e2 : (if n < n + 1 then 1 else 0 : Nat) = 1 := if_pos (by omega)
      rw [e1] at ih
      rw [if_pos rfl] at h
      rw [e2]; omega
    · rw [if_neg h1] at h
      by_cases h2 : c < n
      · have e1 : (if c < n then 1 else 0 : Nat) = 1 := if_pos h2
        have e2 : (if c < n + 1 then 1 else 0 : Nat) = 1 := if_pos (by omega)
        rw [e1] at ih; rw [e2]; omega
      · have e1 : (if c < n then 1 else 0 : Nat) = 0 := if_neg h2
        have e2 : (if c < n + 1 then 1 else 0 : Nat) = 0 := if_neg (by omega)
        rw [e1] at ih; rw [e2]; omega

theorem ite_le_one (c : Prop) [Decidable c] : (if c then 1 else 0 : Nat) ≤ 1 := by split <;> omega

theorem regionsOf_upd_len (f : Nat → Bool) (a b : Nat) (v : Bool) (hab : a < b) : (regionsOf (upd f a b v)).length ≤ (regionsOf f).length + 1 := by
  unfold regionsOf
  rw [regTo_length, regTo_length]
  have h1 := starts_upd f a b v hab 256
  have h2 := ite_le_one ((if v then a else b) < 256)
  omega

/-! ## Regions that may be are the regions of their pages -/
theorem rgFrom_low : ∀ (l : List Rg) (q : Rg), rgFrom (some q) l = true → ∀ r ∈ l, q.f + q.s < r.f
  | [], _, _, r, hr => by simp at hr
  | x :: l, q, h, r, hr => by
    simp only [rgFrom, Bool.and_eq_true] at h
    have hx : q.f + q.s < x.f := of_decide_eq_true h.1.2
    rcases List.mem_cons.1 hr with rfl | hr
    · exact hx
    · have h1 := rgFrom_low l x h.2 r hr
      have h2 := ck_parts h.1.1
      omega

theorem inRg_iff (l : List Rg) (p : Nat) : inRg l p = true ↔ ∃ r ∈ l, r.f ≤ (p : Int) ∧ (p : Int) < r.f + r.s := by
  unfold inRg inOne
  simp [List.any_eq_true]

theorem rg_unique : ∀ (l m : List Rg) (q q' : Option Rg), rgFrom q l = true → rgFrom q' m = true → (∀ p, inRg l p = inRg m p) → l = m
  | [], [], _, _, _, _, _ => rfl
  | [], y :: m, _, q', _, h2, h => by
    simp only [rgFrom, Bool.and_eq_true] at h2
    have hy := ck_parts h2.1.1
    obtain ⟨n, hn⟩ := Int.eq_ofNat_of_zero_le hy.1
    have : inRg (y :: m) n = true := (inRg_iff _ _).2 ⟨y, by simp, by omega, by omega⟩
    rw [← h n] at this
    simp [inRg] at this
  | x :: l, [], q, _, h1, _, h => by
    simp only [rgFrom, Bool.and_eq_true] at h1
    have hy := ck_parts h1.1.1
    obtain ⟨n, hn⟩ := Int.eq_ofNat_of_zero_le hy.1
    have : inRg (x :: l) n = true := (inRg_iff _ _).2 ⟨x, by simp, by omega, by omega⟩
    rw [h n] at this
    simp [inRg] at this
  | x :: l, y :: m, q, q', h1, h2, h => by
    simp only [rgFrom, Bool.and_eq_true] at h1 h2
    obtain ⟨⟨hx, _⟩, hl⟩ := h1
    obtain ⟨⟨hy, _⟩, hm⟩ := h2
    have px := ck_parts hx
    have py := ck_parts hy
    have lx := rgFrom_low l x hl
    have ly := rgFrom_low m y hm
    have lower : ∀ (z : Rg) (t : List Rg), 1 ≤ z.s → (∀ r ∈ t, z.f + z.s < r.f) → ∀ p : Nat, inRg (z :: t) p = true → z.f ≤ p := fun z t hz ht p hp => by
      obtain ⟨r, hr, h3, h4⟩ := (inRg_iff _ _).1 hp
      rcases List.mem_cons.1 hr with rfl | hr
      · exact h3
      · have := ht r hr; omega
    obtain ⟨n, hn⟩ := Int.eq_ofNat_of_zero_le px.1
    obtain ⟨n', hn'⟩ := Int.eq_ofNat_of_zero_le py.1
    have e1 : y.f ≤ x.f := by
      have : inRg (x :: l) n = true := (inRg_iff _ _).2 ⟨x, by simp, by omega, by omega⟩
      rw [h n] at this
      have := lower y m py.2.1 ly n this; omega
    have e2 : x.f ≤ y.f := by
      have : inRg (y :: m) n' = true := (inRg_iff _ _).2 ⟨y, by simp, by omega, by omega⟩
      rw [← h n'] at this
      have := lower x l px.2.1 lx n' this; omega
    have ef : x.f = y.f := by omega
    have gap : ∀ (z z' : Rg) (t t' : List Rg), z.f = z'.f → 0 ≤ z.f → 1 ≤ z.s → (∀ r ∈ t, z.f + z.s < r.f) → (∀ p, inRg (z :: t) p = inRg (z' :: t') p) → ¬ z.s < z'.s := fun z z' t t' hf h0 hs ht hpp hlt => by
      obtain ⟨k, hk⟩ := Int.eq_ofNat_of_zero_le (show 0 ≤ z.f + z.s by omega)
      have h3 : inRg (z' :: t') k = true := (inRg_iff _ _).2 ⟨z', by simp, by omega, by omega⟩
      rw [← hpp k] at h3
      obtain ⟨r, hr, h4, h5⟩ := (inRg_iff _ _).1 h3
      rcases List.mem_cons.1 hr with rfl | hr
      · omega
      · have := ht r hr; omega
    have es : x.s = y.s := by
      have g1 := gap x y l m ef px.1 px.2.1 lx h
      have g2 := gap y x m l ef.symm py.1 py.2.1 ly (fun p => (h p).symm)
      omega
    have exy : x = y := by
      obtain ⟨a, b⟩ := x; obtain ⟨c, d⟩ := y
      simp only at ef es; rw [ef, es]
    subst exy
    congr 1
    refine rg_unique l m (some x) (some x) hl hm fun p => ?_
    have hp := h p
    by_cases hin : x.f ≤ (p : Int) ∧ (p : Int) < x.f + x.s
    · have n1 : inRg l p = false := by
        rw [Bool.eq_false_iff]; intro hh
        obtain ⟨r, hr, h4, h5⟩ := (inRg_iff _ _).1 hh
        have := lx r hr; omega
      have n2 : inRg m p = false := by
        rw [Bool.eq_false_iff]; intro hh
        obtain ⟨r, hr, h4, h5⟩ := (inRg_iff _ _).1 hh
        have := ly r hr; omega
      rw [n1, n2]
    · have n0 : inOne x p = false := decide_eq_false hin
      simp only [inRg, List.any_cons] at hp ⊢
      rw [n0, Bool.false_or, Bool.false_or] at hp
      exact hp

theorem listOk_regions {l : List Rg} (h : listOk l = true) : l = regionsOf (inRg l) := by
  have hall := listOk_all h
  simp only [listOk, Bool.and_eq_true] at h
  refine rg_unique l _ none none h.2 (regionsOf_from _) fun p => ?_
  by_cases hp : p < 256
  · rw [regionsOf_mem _ p hp]
  · rw [regionsOf_out _ p (by omega), Bool.eq_false_iff]
    intro hh
    obtain ⟨r, hr, h4, h5⟩ := (inRg_iff _ _).1 hh
    have := ck_parts (hall r hr)
    omega
end Go.Proofs.YtjljcifpcljlaaaDoor
/- Contracts of package boot: regions (of marked pages). -/
namespace Go.Proofs.YtjljcifpcljlaaaDoor
open Go.RowKit
set_option linter.unusedVariables false

theorem info_rg : (Tryd.prog.info? 47).map (fun i => (i.zero, i.size, i.bytes)) = some (some (.agg #[.int .i64 0, .int .i64 0]), 2, 16) := by kernel_rfl
theorem encRg_one (l : List Rg) : ∀ u ∈ flat encRg l, u.oneCell' = true := by
  intro u hu
  obtain ⟨r, _, hr⟩ := List.mem_flatMap.1 hu
  simp only [encRg, List.mem_cons, List.not_mem_nil, or_false] at hr
  rcases hr with rfl | rfl <;> rfl

/-- cells of a new block -/
theorem row_new (w : World) (vs : List Value) (t : TypeId) : Row (w.alloc (.cells vs.toArray t)) (some ⟨w.heap.size, 0, none⟩) vs := by
  intro j u hj
  exact ⟨w.heap.size, 0, rfl, by simp, by rw [Nat.zero_add, box_new]; simpa using hj⟩

theorem regTo_len (f : Nat → Bool) : ∀ i, (regTo f i).length ≤ i
  | 0 => by simp [regTo]
  | i + 1 => by
    have ih := regTo_len f i
    unfold regTo
    split
    · unfold regPush
      split
      · split
        · have : 0 < i + 1 := by omega
          simp only [List.length_append, List.length_dropLast, List.length_cons, List.length_nil]; omega
        · simp; omega
      · simp
    · omega

theorem bool_at {w : World} {a : Option Addr} {f : Nat → Bool} (hr : Row w a ((bl f).map vB)) {k : Nat} (h : k < 256) :
    ∃ b off, a = some ⟨b, off, none⟩ ∧ b < w.heap.size ∧ w.cell? ⟨b, off + k, none⟩ = some (.bool (f k)) :=
  hr k (vB (f k)) (by rw [List.getElem?_map, bl_get f k h]; rfl)

set_option maxRecDepth 100000 in
theorem regions_any (a : Option Addr) (cap : Nat) (f : Nat → Bool) (w : World) (hr : Row w a ((bl f).map vB)) :
    Calls Tryd.prog 54 #[.slice a 256 cap] w fun e w' => ∃ a' c', e = .returned (.slice a' (regionsOf f).length c') ∧ w'.ownsRow w.heap.size 47 2 (.slice a' (regionsOf f).length c') (regionsOf f).length (flat encRg (regionsOf f)) ∧ Below w.heap.size w w' := by
  go_enter Tryd.func54, Tryd.ntmps54
  go_wp2
  go_loopw [3, 4, 5, 6, 9] (fun s3 _ _ _ s9 wr => ∃ (i : Nat) (a3 : Option Addr) (c3 : Nat), i ≤ 256 ∧ s9 = .int .i64 i ∧ s3 = .slice a3 (regTo f i).length c3 ∧ Hid (wr.ownsRow w.heap.size 47 2 (.slice a3 (regTo f i).length c3) (regTo f i).length (flat encRg (regTo f i))) ∧ Below w.heap.size w wr) (fun _ _ _ _ s9 _ => 256 - (intOf s9).toNat)
  case atStart => exact ⟨0, none, 0, by omega, rfl, rfl, World.ownsRow_nil _ _ _ _, Below.refl _ _⟩
  case round =>
    obtain ⟨i, a3, c3, hi, rfl, rfl, hown, hbw⟩ := hrel
    by_cases hlt : i < 256
    · obtain ⟨b, off, rfl, hb, hc⟩ := bool_at (hr.below hbw) hlt
      have hlen := regTo_len f i
      cases hf : f i with
      | false =>
        have hs : regTo f (i + 1) = regTo f i := by conv => lhs; unfold regTo; rw [hf]; simp
        have HS := Hid.mk hs
        rw [hf] at hc
        clear hs hf
        go_wp2
        go_roundw
        case rel => exact ⟨i + 1, a3, c3, by omega, by go_num, by rw [HS.out], by rw [HS.out]; exact hown, hbw⟩
        case measure => simp [intOf]; omega
      | true =>
        have hs : regTo f (i + 1) = regPush (regTo f i) i := by conv => lhs; unfold regTo; rw [hf]; simp
        have HS := Hid.mk hs
        rw [hf] at hc
        clear hs hf
        generalize hL : regTo f i = L at *
        have hinv : RegInv f i L := by rw [← hL]; exact regTo_inv f i
        clear hL
        rcases List.eq_nil_or_concat L with rfl | ⟨M, r, rfl⟩
        · have HO := Hid.mk (own_below hown.out (below_alloc wr (.cells #[.int .i64 (i : Int), .int .i64 1] 47)) (Nat.le_refl _))
          have HN := Hid.mk (row_new wr (encRg ⟨i, 1⟩) 47)
          have hsz := hbw.size
          have hb1 : Below w.heap.size w (wr.alloc (.cells #[.int .i64 (i : Int), .int .i64 1] 47)) := Below.step hbw (below_alloc _ _)
          go_wp2_with (at_builtin; refine wpList_app rfl _ _ 23 rfl w.heap.size 47 (.agg #[.int .i64 0, .int .i64 0]) 2 16 Tryd.underlying23 info_rg rfl (by decide) (by decide) _ _ _ _ rfl HO.out (some ⟨wr.heap.size, 0, none⟩) 1 1 (encRg ⟨i, 1⟩) rfl rfl HN.out (by simp [encRg, vI, Value.oneCell']) (by simp) (by simp; omega) ?_)
          intro a' c' w2 hown2 hgrow
          have hb2 := below_grown hb1 HO.out hgrow (Nat.le_refl _) (by simp; omega)
          have HO2 := Hid.mk hown2
          clear hown2 HO HN hgrow
          go_wp2
          go_roundw
          case rel => exact ⟨i + 1, a', c', by omega, by go_num, by rw [HS.out]; rfl, by rw [HS.out]; exact HO2.out, hb2⟩
          case measure => simp [intOf]; omega
        · simp only [List.concat_eq_append, List.length_append, List.length_cons, List.length_nil, Nat.zero_add] at hown hlen HS hinv ⊢
          have hlow := hinv.low r (by simp)
          have hsm : r.small := by unfold Rg.small; omega
          obtain ⟨g, rfl, hg, hgs, hcell, hfrz⟩ := own_elem encRg_length (by decide) hown.out (j := M.length) (by simp)
          have hmr : (M ++ [r])[M.length]'(by simp) = r := by simp
          rw [hmr] at hcell
          have hc0 := hcell 0 (vI r.f) rfl
          have hc1 := hcell 1 (vI r.s) rfl
          have hf1 := hfrz (M.length * 2 + 1)
          simp only [vI, Nat.add_zero] at hc0 hc1
          have hlm : M.length ≤ 255 := by omega
          have hsz := hbw.size
          clear hcell hfrz hmr hinv
          cases he : (r.f + r.s == (i : Int)) with
          | true =>
            have hp : regPush (M ++ [r]) i = M ++ [⟨r.f, r.s + 1⟩] := by
              unfold regPush
              rw [List.getLast?_concat]
              simp only [List.dropLast_concat]
              rw [if_pos (eq_of_beq he)]
            rw [hp] at HS
            clear hp
            go_wp2_with (go_at_call 73; refine (end_any r _ hsm).mono ?_; rintro e w4 ⟨rfl, hb4⟩; have hc40 := (hb4.cell (p := ⟨g, M.length * 2, none⟩) hgs).trans hc0; have hc41 := (hb4.cell (p := ⟨g, M.length * 2 + 1, none⟩) hgs).trans hc1; have hf41 := (hb4.frozen (p := ⟨g, M.length * 2 + 1, none⟩) hgs).trans hf1)
            have h := (World.ownsRow.stored (own_below hown.out hb4 (Nat.le_refl _)) (M.length * 2 + 1) (vI (r.s + 1))).1
            have hset : (flat encRg (M ++ [r])).set (M.length * 2 + 1) (vI (r.s + 1)) = flat encRg (M ++ [⟨r.f, r.s + 1⟩]) := by
              rw [flat_append, flat_append, List.set_append_right _ _ (by rw [flat_length encRg_length]; omega), flat_length encRg_length, Nat.add_sub_cancel_left]
              rfl
            rw [hset] at h
            have HH := Hid.mk h
            clear h hset
            go_roundw
            case rel =>
              refine ⟨i + 1, some ⟨g, 0, none⟩, c3, by omega, by go_num, by rw [HS.out]; simp, ?_, (Below.step hbw hb4).setCell hg _⟩
              rw [HS.out]
              have h2 := HH.out
              simp only [List.length_append, List.length_cons, List.length_nil, Nat.zero_add] at h2 ⊢
              exact h2
            case measure => simp [intOf]; omega
          | false =>
            have hp : regPush (M ++ [r]) i = (M ++ [r]) ++ [⟨i, 1⟩] := by
              unfold regPush
              rw [List.getLast?_concat]
              simp only
              rw [if_neg (by rw [beq_eq_false_iff_ne] at he; exact he)]
            rw [hp] at HS
            clear hp
            go_wp2_with fail
            refine (end_any r _ hsm).mono ?_
            rintro e w4 ⟨rfl, hb4⟩
            have HO4 := Hid.mk (own_below (own_below hown.out hb4 (Nat.le_refl _)) (below_alloc w4 (.cells #[.int .i64 (i : Int), .int .i64 1] 47)) (Nat.le_refl _))
            have HN4 := Hid.mk (row_new w4 (encRg ⟨i, 1⟩) 47)
            have hb5 := Below.step hbw hb4
            have hsz4 := hb5.size
            have hb6 : Below w.heap.size w (w4.alloc (.cells #[.int .i64 (i : Int), .int .i64 1] 47)) := Below.step hb5 (below_alloc _ _)
            go_wp2_with (at_builtin; refine wpList_app rfl _ _ 23 rfl w.heap.size 47 (.agg #[.int .i64 0, .int .i64 0]) 2 16 Tryd.underlying23 info_rg rfl (by decide) (by decide) _ _ _ _ rfl HO4.out (some ⟨w4.heap.size, 0, none⟩) 1 1 (encRg ⟨i, 1⟩) rfl rfl HN4.out (by simp [encRg, vI, Value.oneCell']) (by omega) (by simp; omega) ?_)
            intro a' c' w5 hown5 hgrow
            have hb7 := below_grown hb6 HO4.out hgrow (Nat.le_refl _) (by simp; omega)
            have HO5 := Hid.mk hown5
            clear hown5 HO4 HN4 hgrow
            go_wp2
            go_roundw
            case rel =>
              refine ⟨i + 1, a', c', by omega, by go_num, by rw [HS.out]; simp, ?_, hb7⟩
              rw [HS.out]
              have h2 := HO5.out
              rw [flat_append]
              simp only [List.length_append, List.length_cons, List.length_nil, Nat.zero_add] at h2 ⊢
              exact h2
            case measure => simp [intOf]; omega
    · obtain rfl : i = 256 := by omega
      go_wp2
      go_ret
      exact ⟨a3, c3, rfl, hown.out, hbw⟩
end Go.Proofs.YtjljcifpcljlaaaDoor
/- Boots in memory. -/
namespace Go.Proofs.YtjljcifpcljlaaaDoor
open Go.RowKit
set_option linter.unusedVariables false

structure Bt where
  m : List Rg
  r : List Rg
def Bt.ok (b : Bt) : Bool := listOk b.m && listOk b.r
/-- a Boot in memory -/
structure BtAt (w : World) (a1 a2 : Option Addr) (n1 n2 : Nat) (b : Bt) : Prop where
  l1 : b.m.length = n1
  l2 : b.r.length = n2
  r1 : Row w a1 (flat encRg b.m)
  r2 : Row w a2 (flat encRg b.r)
theorem BtAt.below {w w' : World} {a1 a2 : Option Addr} {n1 n2 : Nat} {b : Bt} (h : BtAt w a1 a2 n1 n2 b) (hb : Below w.heap.size w w') : BtAt w' a1 a2 n1 n2 b := ⟨h.l1, h.l2, h.r1.below hb, h.r2.below hb⟩

/-- a Boot with two fresh lists -/
structure BtOwn (w : World) (base : Nat) (a1 a2 : Option Addr) (n1 n2 c1 c2 : Nat) (b : Bt) : Prop where
  l1 : b.m.length = n1
  l2 : b.r.length = n2
  o1 : w.ownsRow base 47 2 (.slice a1 n1 c1) n1 (flat encRg b.m)
  o2 : w.ownsRow base 47 2 (.slice a2 n2 c2) n2 (flat encRg b.r)
theorem BtOwn.at {w : World} {base : Nat} {a1 a2 : Option Addr} {n1 n2 c1 c2 : Nat} {b : Bt} (h : BtOwn w base a1 a2 n1 n2 c1 c2 b) : BtAt w a1 a2 n1 n2 b := ⟨h.l1, h.l2, own_row h.o1, own_row h.o2⟩
theorem BtOwn.below {w w' : World} {base : Nat} {a1 a2 : Option Addr} {n1 n2 c1 c2 : Nat} {b : Bt} (h : BtOwn w base a1 a2 n1 n2 c1 c2 b) (hb : Below w.heap.size w w') : BtOwn w' base a1 a2 n1 n2 c1 c2 b := ⟨h.l1, h.l2, own_below h.o1 hb (Nat.le_refl _), own_below h.o2 hb (Nat.le_refl _)⟩
theorem BtOwn.base {w : World} {base base' : Nat} {a1 a2 : Option Addr} {n1 n2 c1 c2 : Nat} {b : Bt} (h : BtOwn w base a1 a2 n1 n2 c1 c2 b) (hb : base' ≤ base) : BtOwn w base' a1 a2 n1 n2 c1 c2 b := ⟨h.l1, h.l2, own_base h.o1 hb, own_base h.o2 hb⟩
theorem BtOwn.set {w : World} {base : Nat} {a1 a2 : Option Addr} {n1 n2 c1 c2 : Nat} {b : Bt} (h : BtOwn w base a1 a2 n1 n2 c1 c2 b) {g : Nat} (hg : (Value.slice a1 n1 c1).ownBlock ≠ some g ∧ (Value.slice a2 n2 c2).ownBlock ≠ some g) (i : Nat) (u : Value) : BtOwn (w.setCell ⟨g, i, none⟩ u) base a1 a2 n1 n2 c1 c2 b := ⟨h.l1, h.l2, own_set h.o1 hg.1 u, own_set h.o2 hg.2 u⟩
theorem BtOwn.ne {w : World} {base : Nat} {a1 a2 : Option Addr} {n1 n2 c1 c2 : Nat} {b : Bt} (h : BtOwn w base a1 a2 n1 n2 c1 c2 b) {g : Nat} (hg : g < base ∨ w.heap.size ≤ g) : (Value.slice a1 n1 c1).ownBlock ≠ some g ∧ (Value.slice a2 n2 c2).ownBlock ≠ some g := ⟨own_ne h.o1 hg, own_ne h.o2 hg⟩
end Go.Proofs.YtjljcifpcljlaaaDoor
/- Contracts of package boot: Ranges. -/
namespace Go.Proofs.YtjljcifpcljlaaaDoor
open Go.RowKit
set_option linter.unusedVariables false

/-- the pages that are there and not reserved -/
def freeF (b : Bt) (p : Nat) : Bool := inRg b.m p && !inRg b.r p
def freeOf (b : Bt) : List Rg := regionsOf (freeF b)

set_option maxHeartbeats 2000000 in
set_option maxRecDepth 100000 in
theorem ranges_ok (a1 a2 : Option Addr) (n1 n2 c1 c2 : Nat) (b : Bt) (w : World) (hat : BtAt w a1 a2 n1 n2 b) (h1 : listOk b.m = true) (h2 : listOk b.r = true) :
    Calls Tryd.prog 30 #[.agg #[.slice a1 n1 c1, .slice a2 n2 c2]] w fun e w' => ∃ a' c', e = .returned (.tuple #[.slice a' (freeOf b).length c', .int .i64 0]) ∧ w'.ownsRow w.heap.size 47 2 (.slice a' (freeOf b).length c') (freeOf b).length (flat encRg (freeOf b)) ∧ Below w.heap.size w w' := by
  have hb1 := listOk_len h1
  have hb2 := listOk_len h2
  obtain ⟨K0, F0, hsz, hbw⟩ := boxes1 w #[.slice a1 n1 c1, .slice a2 n2 c2] 25
  obtain ⟨l1, l2, q1, q2⟩ := hat.below hbw
  have hsm1 := listOk_small h1
  have hsm2 := listOk_small h2
  have hok1 := listOk_all h1
  have hok2 := listOk_all h2
  generalize hF : freeOf b = F
  have HF := Hid.mk hF
  clear hat hF
  go_enter Tryd.func30, Tryd.ntmps30
  go_wp2_with fail
  generalize w.alloc (.cells #[.slice a1 n1 c1, .slice a2 n2 c2] 25) = w0 at *
  refine (bootCheck_ok _ _ _ _ _ _ b.m b.r _ l1 l2 (by omega) (by omega) q1 q2 hsm1 hsm2 h1 h2).mono ?_
  rintro e w1 ⟨rfl, hb1'⟩
  have K0a := box_step K0 hsz hb1'
  have q1a := q1.below hb1'
  have q2a := q2.below hb1'
  have hbw1 := Below.step hbw hb1'
  have hsz1 : w.heap.size < w1.heap.size := Nat.lt_of_lt_of_le hsz hb1'.size
  clear K0 F0 q1 q2 hsm1 hsm2 hb1' h1 h2
  have LK0 : ∀ W, Below w1.heap.size w1 W → ∀ o, W.cell? ⟨w.heap.size, o, none⟩ = (#[.slice a1 n1 c1, .slice a2 n2 c2] : Array Value)[o]? := fun W h o => box_step K0a hsz1 h o
  go_upto_region 4 with fail
  go_cut [5, 6] (fun s5 s6 wx => ∃ (g5 g6 : Nat) (c5 c6 : Nat), s5 = .slice (some ⟨g5, 0, none⟩) 256 c5 ∧ s6 = .slice (some ⟨g6, 0, none⟩) 256 c6 ∧ wx.ownsRow w1.heap.size 4 1 (.slice (some ⟨g5, 0, none⟩) 256 c5) 256 ((bl (inRg b.m)).map vB) ∧ wx.ownsRow w1.heap.size 4 1 (.slice (some ⟨g6, 0, none⟩) 256 c6) 256 ((bl (inRg b.r)).map vB) ∧ g5 ≠ g6 ∧ Below w1.heap.size w1 wx)
  case first =>
    go_region_held3 (fun W => Below w1.heap.size w1 W) ((repeat (first | assumption | exact Below.refl _ _ | apply Below.drew | refine Below.step ?_ (by assumption)))) (first | (go_at_call_of 53 (Value.slice a1 n1 c1); refine (pages_any _ _ _ b.m _ l1 (q1a.below (by assumption)) hok1 (by omega)).mono ?_; rintro e wm ⟨am, cm, rfl, hom, hbm⟩) | (go_at_call_of 53 (Value.slice a2 n2 c2); refine (pages_any _ _ _ b.r _ l2 (q2a.below (by assumption)) hok2 (by omega)).mono ?_; rintro e wr ⟨ar, cr, rfl, hor, hbr⟩))
    all_goals (go_wp2_with fail; go_meet)
    · obtain ⟨g5, _, rfl, hg5, hs5, _, _⟩ := own_cell hom 0 (by rw [List.length_map, bl_length]; omega)
      obtain ⟨g6, _, rfl, hg6, hs6, _, _⟩ := own_cell hor 0 (by rw [List.length_map, bl_length]; omega)
      exact ⟨g5, g6, cm, cr, rfl, rfl, own_base (own_below hom hbr (Nat.le_refl _)) (Nat.le_refl _), own_base hor (by have := hbm.size; simpa using this), by omega, by assumption⟩
  case rest =>
    obtain ⟨g5, g6, c5, c6, rfl, rfl, ho5, ho6, hne, hbx⟩ := hcut
    have hbw2 := Below.step hbw1 hbx
    have HO5 := Hid.mk ho5
    have HO6 := Hid.mk ho6
    clear LK0 K0a q1a q2a hok1 hok2 ho5 ho6
    go_wp2
    go_loopw [7, 21] (fun _ s21 wq => ∃ i : Nat, i ≤ 256 ∧ s21 = .int .i64 i ∧ Hid (wq.ownsRow w1.heap.size 4 1 (.slice (some ⟨g5, 0, none⟩) 256 c5) 256 ((bl (fun p => inRg b.m p && !(decide (p < i) && inRg b.r p))).map vB)) ∧ Hid (wq.ownsRow w1.heap.size 4 1 (.slice (some ⟨g6, 0, none⟩) 256 c6) 256 ((bl (inRg b.r)).map vB)) ∧ Below w.heap.size w wq) (fun _ s21 _ => 256 - (intOf s21).toNat)
    case atStart =>
      refine ⟨0, by omega, rfl, ?_, HO6, hbw2⟩
      rw [show bl (fun p => inRg b.m p && !(decide (p < 0) && inRg b.r p)) = bl (inRg b.m) from bl_congr fun p _ => by simp]
      exact HO5
    case round =>
      obtain ⟨i, hi, rfl, hown5, hown6, hb3⟩ := hrel
      clear HO5 HO6
      by_cases hlt : i < 256
      · obtain ⟨b5, off5, e5, hb5, hc5⟩ := bool_at (own_row hown5.out) hlt
        obtain ⟨rfl, rfl⟩ : g5 = b5 ∧ 0 = off5 := by simpa using e5
        obtain ⟨b6, off6, e6, hb6, hc6⟩ := bool_at (own_row hown6.out) hlt
        obtain ⟨rfl, rfl⟩ : g6 = b6 ∧ 0 = off6 := by simpa using e6
        obtain ⟨g, v, eg, hg, hgs, hcg, hfg⟩ := own_cell hown5.out i (by rw [List.length_map, bl_length]; omega)
        obtain rfl : g5 = g := by simpa using eg
        rw [decide_eq_false (show ¬ i < i by omega), Bool.false_and, Bool.not_false, Bool.and_true, Nat.zero_add] at hc5
        rw [Nat.zero_add] at hc6
        have HN : Hid (∀ v, v = (inRg b.m i && !inRg b.r i) → ((wr.setCell ⟨g5, i, none⟩ (.bool v)).ownsRow w1.heap.size 4 1 (.slice (some ⟨g5, 0, none⟩) 256 c5) 256 ((bl (fun p => inRg b.m p && !(decide (p < i + 1) && inRg b.r p))).map vB))) := fun v hv => by
          have h := (World.ownsRow.stored hown5.out i (vB v)).1
          rw [← List.map_set, bl_set] at h
          rw [show bl (fun p => inRg b.m p && !(decide (p < i + 1) && inRg b.r p)) = bl (fun p => if p = i then v else inRg b.m p && !(decide (p < i) && inRg b.r p)) from bl_congr fun p _ => by
            by_cases e : p = i
            · subst e
              rw [if_pos rfl, hv, decide_eq_true (Nat.lt_succ_self p), Bool.true_and]
            · rw [if_neg e, decide_eq_decide.2 (show p < i + 1 ↔ p < i by omega)]]
          exact h
        have HM : Hid (∀ v, ((wr.setCell ⟨g5, i, none⟩ (.bool v)).ownsRow w1.heap.size 4 1 (.slice (some ⟨g6, 0, none⟩) 256 c6) 256 ((bl (inRg b.r)).map vB))) := fun v => own_set hown6.out (by simp [Value.ownBlock]; exact fun h => hne h.symm) _
        have hz := hbw1.size
        clear hown5 hown6 hcg e5 e6 eg
        cases hm : inRg b.m i with
        | false =>
          rw [hm] at hc5
          go_wp2
          go_roundw
          case rel => exact ⟨i + 1, by omega, by go_num, HN.out _ (by rw [hm]; rfl), HM.out _, hb3.setCell (by simp only; omega) _⟩
          case measure => simp [intOf]; omega
        | true =>
          rw [hm] at hc5
          cases hr : inRg b.r i with
          | false =>
            rw [hr] at hc6
            go_wp2
            go_roundw
            case rel => exact ⟨i + 1, by omega, by go_num, HN.out _ (by rw [hm, hr]; rfl), HM.out _, hb3.setCell (by simp only; omega) _⟩
            case measure => simp [intOf]; omega
          | true =>
            rw [hr] at hc6
            go_wp2
            go_roundw
            case rel => exact ⟨i + 1, by omega, by go_num, HN.out _ (by rw [hm, hr]; rfl), HM.out _, hb3.setCell (by simp only; omega) _⟩
            case measure => simp [intOf]; omega
      · obtain rfl : i = 256 := by omega
        have hrow := own_row hown5.out
        clear hown5 hown6
        go_wp2_with fail
        refine (regions_any _ _ _ _ hrow).mono ?_
        rw [show regionsOf (fun p => inRg b.m p && !(decide (p < 256) && inRg b.r p)) = F from by
          rw [← HF.out]
          exact regionsOf_congr fun p hp => by rw [decide_eq_true hp, Bool.true_and]; rfl]
        rintro e w5 ⟨a', c', rfl, hown5, hb6⟩
        have H5 := Hid.mk (own_base hown5 hb3.size)
        clear hown5
        go_wp2
        go_ret2
        exact ⟨a', c', rfl, H5.out, Below.step hb3 hb6⟩
end Go.Proofs.YtjljcifpcljlaaaDoor
/- Pages that are given one by one to a zone that has others. No program in sight. -/
namespace Go.Proofs.YtjljcifpcljlaaaDoor
set_option linter.unusedVariables false
theorem giveG_ok {z : Zn} {p n : Nat} (h : z.ok) (hd : ∀ q, p ≤ q → q < p + n → ¬ covL z.l q) (hp : z.f ≤ p) (hn : p + n ≤ z.e) : ∀ i, i ≤ n → (giveTo z p i).ok ∧ (giveTo z p i).f = z.f ∧ (giveTo z p i).e = z.e ∧ ∀ q, covL (giveTo z p i).l q ↔ (covL z.l q ∨ (p ≤ q ∧ q < p + i))
  | 0, _ => ⟨h, rfl, rfl, fun q => by
      show covL z.l q ↔ _
      constructor
      · exact .inl
      · rintro (h | h)
        · exact h
        · omega⟩
  | i + 1, hi => by
    obtain ⟨g1, g2, g3, g4⟩ := giveG_ok h hd hp hn i (by omega)
    have hfit : fitsB (giveTo z p i).f (giveTo z p i).e (p + i) 0 := by rw [g2, g3]; exact ⟨by omega, by omega, by omega, by simp [Nat.mod_one]⟩
    have hap : ∀ x ∈ (giveTo z p i).l, apartB (p + i) 0 x := fun x hx => apart_of_disj fun q hq hxq => by
      unfold inB at hq
      simp only [Nat.pow_zero] at hq
      rcases (g4 q).1 ⟨x, hx, hxq⟩ with h1 | h1
      · exact hd q (by omega) (by omega) h1
      · omega
    obtain ⟨k1, k2⟩ := Zn.back_ok g1 hfit hap
    refine ⟨k1, g2, g3, fun q => ?_⟩
    show covL ((giveTo z p i).back (p + i) 0).l q ↔ _
    rw [k2, g4]
    unfold inB
    simp only [Nat.pow_zero, or_assoc]
    constructor
    · rintro (h | h | h)
      · exact .inl h
      · exact .inr (by omega)
      · exact .inr (by omega)
    · rintro (h | h)
      · exact .inl h
      · exact .inr (by omega)
theorem giveG_step {z : Zn} {p n i : Nat} (h : z.ok) (hd : ∀ q, p ≤ q → q < p + n → ¬ covL z.l q) (hp : z.f ≤ p) (hn : p + n ≤ z.e) (hi : i < n) : fitsB (giveTo z p i).f (giveTo z p i).e (p + i) 0 ∧ ∀ x ∈ (giveTo z p i).l, apartB (p + i) 0 x := by
  obtain ⟨g1, g2, g3, g4⟩ := giveG_ok h hd hp hn i (by omega)
  refine ⟨by rw [g2, g3]; exact ⟨by omega, by omega, by omega, by simp [Nat.mod_one]⟩, fun x hx => apart_of_disj fun q hq hxq => ?_⟩
  unfold inB at hq
  simp only [Nat.pow_zero] at hq
  rcases (g4 q).1 ⟨x, hx, hxq⟩ with h1 | h1
  · exact hd q (by omega) (by omega) h1
  · omega
end Go.Proofs.YtjljcifpcljlaaaDoor
