/- Hn, GiveG, Pn1, Pp13: texts of this claim, joined. -/
import Derived.Test.YtjljcifpcljlaaaDoorPM2
import Derived.Test.YtjljcifpcljlaaaDoorPM3
import Derived.Test.YtjljcifpcljlaaaDoorPM4
import Derived.Test.YtjljcifpcljlaaaDoorPM6
/- A new heap of pages, in plain words. No program in sight. -/
namespace Go.Proofs.YtjljcifpcljlaaaDoor
set_option linter.unusedVariables false
def Rg.lo (r : Rg) (split : Nat) : Nat := min (r.f.toNat + r.s.toNat) split - r.f.toNat
def newStep (split : Nat) (z : Zn × Zn) (r : Rg) : Zn × Zn := (giveTo z.1 r.f.toNat (r.lo split), giveTo z.2 (r.f.toNat + r.lo split) (r.s.toNat - r.lo split))
def newZs (split : Nat) (l : List Rg) : Zn × Zn := l.foldl (newStep split) (⟨0, split, [], List.replicate (split / 8) 1⟩, ⟨split, 256, [], List.replicate ((256 - split) / 8) 1⟩)
def newH (l : List Rg) (split least cpus : Nat) : Hp := ⟨(newZs split l).1, (newZs split l).2, least, least, cpus, [], []⟩

theorem rg_pairs : ∀ (l : List Rg) (q : Option Rg), rgFrom q l = true → l.Pairwise fun a b => a.f + a.s < b.f
  | [], _, _ => List.Pairwise.nil
  | r :: l, q, h => by
    simp only [rgFrom, Bool.and_eq_true] at h
    exact List.Pairwise.cons (rgFrom_low l r h.2) (rg_pairs l _ h.2)
structure NewInv (split : Nat) (l : List Rg) (z : Zn × Zn) : Prop where
  o0 : z.1.ok
  o1 : z.2.ok
  f0 : z.1.f = 0
  e0 : z.1.e = split
  f1 : z.2.f = split
  e1 : z.2.e = 256
  c0 : ∀ q, covL z.1.l q ↔ (q < split ∧ inRg l q = true)
  c1 : ∀ q, covL z.2.l q ↔ (split ≤ q ∧ inRg l q = true)
theorem zn_empty {f e : Nat} (h1 : f ≤ e) (h2 : e ≤ 256) (h3 : f % 16 = 0) (h4 : e % 16 = 0) : (⟨f, e, [], List.replicate ((e - f) / 8) 1⟩ : Zn).ok :=
  ⟨(okZ_iff _ _ _).2 ⟨h1, h2, h3, h4, by simp, fun t ht => by rw [(List.mem_replicate.1 ht).2]; omega⟩, (okL_iff _ _ _).2 ⟨by simp, List.Pairwise.nil, by simp⟩⟩
theorem newInv_nil {split : Nat} (h1 : split ≤ 256) (h2 : split % 16 = 0) : NewInv split [] (⟨0, split, [], List.replicate (split / 8) 1⟩, ⟨split, 256, [], List.replicate ((256 - split) / 8) 1⟩) :=
  ⟨zn_empty (Nat.zero_le _) h1 rfl h2, zn_empty h1 (Nat.le_refl _) h2 rfl, rfl, rfl, rfl, rfl, fun q => by simp [covL, inRg], fun q => by simp [covL, inRg]⟩
/-- what one region asks of both zones, and what comes of it -/
structure NewStep (split : Nat) (l : List Rg) (r : Rg) (z : Zn × Zn) : Prop where
  f : r.f = (r.f.toNat : Int)
  s : r.s = (r.s.toNat : Int)
  fs : r.f.toNat + r.s.toNat ≤ 256
  s1 : 1 ≤ r.s.toNat
  lo : r.lo split ≤ r.s.toNat
  le : 0 < r.lo split → r.f.toNat + r.lo split ≤ split
  hi : r.lo split < r.s.toNat → split ≤ r.f.toNat + r.lo split
  d0 : ∀ q, r.f.toNat ≤ q → q < r.f.toNat + r.lo split → ¬ covL z.1.l q
  d1 : ∀ q, r.f.toNat + r.lo split ≤ q → q < r.f.toNat + r.lo split + (r.s.toNat - r.lo split) → ¬ covL z.2.l q
  next : NewInv split (l ++ [r]) (newStep split z r)
theorem newInv_step {split : Nat} {l : List Rg} {r : Rg} {z : Zn × Zn} (h : NewInv split l z) (hck : ckRg r = true) (hlt : ∀ x ∈ l, x.f + x.s < r.f) (hsp : split ≤ 256) : NewStep split l r z := by
  have hc := ck_parts hck
  have hf : r.f = (r.f.toNat : Int) := by omega
  have hs : r.s = (r.s.toNat : Int) := by omega
  obtain ⟨F, hF⟩ : ∃ F, r.f.toNat = F := ⟨_, rfl⟩
  obtain ⟨S, hS⟩ : ∃ S, r.s.toNat = S := ⟨_, rfl⟩
  have hno : ∀ q, F ≤ q → inRg l q = false := fun q hq => by
    rw [Bool.eq_false_iff]
    intro hi
    obtain ⟨x, hx, h1, h2⟩ := (inRg_iff l q).1 hi
    have := hlt x hx
    omega
  have hone : ∀ q, inRg (l ++ [r]) q = true ↔ (inRg l q = true ∨ (F ≤ q ∧ q < F + S)) := fun q => by
    rw [inRg_append, inRg_one, Bool.or_eq_true]
    unfold inOne
    rw [decide_eq_true_eq]
    refine or_congr Iff.rfl ⟨fun h => ?_, fun h => ?_⟩ <;> omega
  have hlo : r.lo split = min (F + S) split - F := by unfold Rg.lo; rw [hF, hS]
  have d0 : ∀ q, F ≤ q → q < F + r.lo split → ¬ covL z.1.l q := fun q h1 h2 hc => by
    have := ((h.c0 q).1 hc).2
    rw [hno q h1] at this
    cases this
  have d1 : ∀ q, F + r.lo split ≤ q → q < F + r.lo split + (S - r.lo split) → ¬ covL z.2.l q := fun q h1 h2 hc => by
    have := ((h.c1 q).1 hc).2
    rw [hno q (by omega)] at this
    cases this
  rw [← hF] at d0 d1
  rw [← hS] at d1
  have g0 : (giveTo z.1 F (r.lo split)).ok ∧ (giveTo z.1 F (r.lo split)).f = z.1.f ∧ (giveTo z.1 F (r.lo split)).e = z.1.e ∧ ∀ q, covL (giveTo z.1 F (r.lo split)).l q ↔ (covL z.1.l q ∨ (F ≤ q ∧ q < F + r.lo split)) := by
    by_cases h0 : r.lo split = 0
    · rw [h0]
      refine ⟨h.o0, rfl, rfl, fun q => ⟨.inl, ?_⟩⟩
      rintro (h1 | h1)
      · exact h1
      · omega
    · rw [hF] at d0
      exact giveG_ok h.o0 d0 (by rw [h.f0]; exact Nat.zero_le _) (by rw [h.e0]; omega) _ (Nat.le_refl _)
  have g1 : (giveTo z.2 (F + r.lo split) (S - r.lo split)).ok ∧ (giveTo z.2 (F + r.lo split) (S - r.lo split)).f = z.2.f ∧ (giveTo z.2 (F + r.lo split) (S - r.lo split)).e = z.2.e ∧ ∀ q, covL (giveTo z.2 (F + r.lo split) (S - r.lo split)).l q ↔ (covL z.2.l q ∨ (F + r.lo split ≤ q ∧ q < F + r.lo split + (S - r.lo split))) := by
    by_cases h0 : S - r.lo split = 0
    · rw [h0]
      refine ⟨h.o1, rfl, rfl, fun q => ⟨.inl, ?_⟩⟩
      rintro (h1 | h1)
      · exact h1
      · omega
    · rw [hF, hS] at d1
      exact giveG_ok h.o1 d1 (by rw [h.f1]; omega) (by rw [h.e1]; omega) _ (Nat.le_refl _)
  refine ⟨hf, hs, by omega, by omega, by omega, by omega, by omega, d0, d1, ?_⟩
  unfold newStep
  rw [hF, hS]
  refine ⟨g0.1, g1.1, by rw [g0.2.1]; exact h.f0, by rw [g0.2.2.1]; exact h.e0, by rw [g1.2.1]; exact h.f1, by rw [g1.2.2.1]; exact h.e1, fun q => ?_, fun q => ?_⟩
  · simp only
    rw [g0.2.2.2, h.c0, hone]
    constructor
    · rintro (⟨h1, h2⟩ | h1)
      · exact ⟨h1, .inl h2⟩
      · exact ⟨by omega, .inr (by omega)⟩
    · rintro ⟨h1, h2 | h2⟩
      · exact .inl ⟨h1, h2⟩
      · exact .inr (by omega)
  · simp only
    rw [g1.2.2.2, h.c1, hone]
    constructor
    · rintro (⟨h1, h2⟩ | h1)
      · exact ⟨h1, .inl h2⟩
      · exact ⟨by omega, .inr (by omega)⟩
    · rintro ⟨h1, h2 | h2⟩
      · exact .inl ⟨h1, h2⟩
      · exact .inr (by omega)
theorem newZs_take (split : Nat) (l : List Rg) (k : Nat) (hk : k < l.length) : newZs split (l.take (k + 1)) = newStep split (newZs split (l.take k)) l[k] := by
  unfold newZs
  rw [List.take_succ_eq_append_getElem hk, List.foldl_append]
  rfl
theorem newInv_take {split : Nat} {l : List Rg} (hl : listOk l = true) (h1 : split ≤ 256) (h2 : split % 16 = 0) : ∀ k, k ≤ l.length → NewInv split (l.take k) (newZs split (l.take k))
  | 0, _ => newInv_nil h1 h2
  | k + 1, hk => by
    rw [newZs_take split l k hk, List.take_succ_eq_append_getElem hk]
    refine (newInv_step (newInv_take hl h1 h2 k (by omega)) (listOk_all hl _ (List.getElem_mem hk)) (fun x hx => ?_) h1).next
    simp only [listOk, Bool.and_eq_true] at hl
    obtain ⟨j, hj, rfl⟩ := List.mem_take_iff_getElem.1 hx
    exact List.pairwise_iff_getElem.1 (rg_pairs l none hl.2) _ _ _ hk (by omega)
theorem newInv_at {split : Nat} {l : List Rg} (hl : listOk l = true) (h1 : split ≤ 256) (h2 : split % 16 = 0) {k : Nat} (hk : k < l.length) : NewStep split (l.take k) l[k] (newZs split (l.take k)) := by
  refine newInv_step (newInv_take hl h1 h2 k (by omega)) (listOk_all hl _ (List.getElem_mem hk)) (fun x hx => ?_) h1
  simp only [listOk, Bool.and_eq_true] at hl
  obtain ⟨j, hj, rfl⟩ := List.mem_take_iff_getElem.1 hx
  exact List.pairwise_iff_getElem.1 (rg_pairs l none hl.2) _ _ _ hk (by omega)
/-- what a new heap is -/
theorem newH_ok {l : List Rg} (hl : listOk l = true) {split least cpus : Nat} (h1 : split ≤ 256) (h2 : split % 16 = 0) (h3 : least ≤ 256) (h4 : 1 ≤ cpus ∧ cpus ≤ 4) :
    HOk (newH l split least cpus) ∧ ∀ p, cnt (newH l split least cpus).all p = if inRg l p then 1 else 0 := by
  have hi := newInv_take hl h1 h2 l.length (Nat.le_refl _)
  rw [List.take_length] at hi
  have hc : ∀ p, cnt (newH l split least cpus).all p = if inRg l p then 1 else 0 := fun p => by
    rw [cnt_all]
    show cnt (newZs split l).1.l p + cnt (newZs split l).2.l p + 0 + 0 = _
    have a0 := cnt_apart (sep_apart hi.o0.2.sep) p
    have a1 := cnt_apart (sep_apart hi.o1.2.sep) p
    have b0 := (cnt_pos (l := (newZs split l).1.l) (p := p)).trans (hi.c0 p)
    have b1 := (cnt_pos (l := (newZs split l).2.l) (p := p)).trans (hi.c1 p)
    cases hp : inRg l p with
    | true =>
      simp only [hp, and_true] at b0 b1
      simp only [if_true]
      omega
    | false =>
      simp only [hp, Bool.false_eq_true, and_false, iff_false] at b0 b1
      simp
      omega
  refine ⟨⟨hi.o0, hi.o1, hi.f0, hi.e0.trans hi.f1.symm, hi.e1, h3, h3, h4, List.Pairwise.nil, by simp [newH], by simp [newH], List.Pairwise.nil, fun p => ?_⟩, hc⟩
  rw [hc]
  split <;> omega
end Go.Proofs.YtjljcifpcljlaaaDoor
/- Contract of package buddy: Give, for a zone that has pages. -/
namespace Go.Proofs.YtjljcifpcljlaaaDoor
open Go.RowKit
set_option linter.unusedVariables false
theorem okL_len {z : Zn} (hz : z.ok) : z.l.length ≤ 256 := by
  refine Nat.le_trans ?_ (szB_le hz)
  generalize z.l = l
  induction l with
  | nil => simp
  | cons b l ih =>
    have := pow_pos' b.o
    simp only [szB, List.length_cons]
    omega

set_option maxHeartbeats 4000000 in
set_option maxRecDepth 100000 in
theorem give_gen (a1 a2 : Option Addr) (n1 n2 c1 c2 : Nat) (z : Zn) (p n : Nat) (w : World) (hat : ZAt w a1 a2 n1 n2 z) (hz : z.ok) (hd0 : ∀ q, p ≤ q → q < p + n → ¬ covL z.l q) (hp : z.f ≤ p) (hn : p + n ≤ z.e) :
    Calls Tryd.prog 56 #[.agg #[.int .i64 z.f, .int .i64 z.e, .slice a1 n1 c1, .slice a2 n2 c2], .int .i64 p, .int .i64 n] w fun ev w' => ∃ a1' a2' n1' c1' c2', ev = .returned (.tuple #[.agg #[.int .i64 z.f, .int .i64 z.e, .slice a1' n1' c1', .slice a2' n2 c2'], .int .i64 0]) ∧ ZOwn w' w.heap.size a1' a2' n1' n2 c1' c2' (giveTo z p n) ∧ Below w.heap.size w w' := by
  have hee := hz.1.e2
  have l1 := hat.l1
  have l2 := hat.l2
  have hl0 : z.l.length ≤ 256 := okL_len hz
  have HD := Hid.mk hd0
  have hy32 : z.y.length ≤ 32 := by rw [hz.1.len]; omega
  obtain ⟨K3, K6, F3, F6, hsz, hbw⟩ := boxes2 w #[.int .i64 (z.f : Int), .int .i64 (z.e : Int), .slice a1 n1 c1, .slice a2 n2 c2] 55 #[.int .i64 0, .int .i64 0, .slice none 0 0, .slice none 0 0] 55
  have hat0 := hat.below hbw
  have d1 : decide (p < z.f) = false := decide_eq_false (by omega)
  have d2 : decide ((z.e : Int) < p) = false := decide_eq_false (by omega)
  have d3 : decide ((z.e : Int) - p < n) = false := decide_eq_false (by omega)
  have d4 : decide (z.e < p) = false := decide_eq_false (by omega)
  have d5 : (p : Int) ≤ z.e := by omega
  clear hat hd0
  go_enter Tryd.func56, Tryd.ntmps56
  go_wp2_with fail
  generalize (w.alloc (.cells #[.int .i64 (z.f : Int), .int .i64 (z.e : Int), .slice a1 n1 c1, .slice a2 n2 c2] 55)).alloc (.cells #[.int .i64 0, .int .i64 0, .slice none 0 0, .slice none 0 0] 55) = w0 at *
  refine (check_ok _ _ _ _ _ _ z _ hat0 hz).mono ?_
  rintro ev w1 ⟨rfl, hb1⟩
  have K3b := box_step K3 (by omega) hb1
  have K6b := box_step K6 (by omega) hb1
  have F3b := frz_step F3 (by omega) hb1
  have F6b := frz_step F6 (by omega) hb1
  have hat1 := hat0.below hb1
  have hbw1 := Below.step hbw hb1
  have hB : w.heap.size + 2 ≤ w1.heap.size := by have := hb1.size; omega
  clear K3 K6 F3 F6 hb1 hat0 hbw hsz
  go_wp2_with fail
  refine (copy_ok _ _ _ _ _ _ z.f z.e z _ hat1 (by omega) (by omega)).mono ?_
  rintro ev w5 ⟨a3, a4, c3, c4, rfl, hown, hb5⟩
  have K3e := box_step K3b (by omega) hb5
  have K6e := box_step K6b (by omega) hb5
  have F3e := frz_step F3b (by omega) hb5
  have F6e := frz_step F6b (by omega) hb5
  have hbw5 := Below.step hbw1 hb5
  have hnn := (hown.ne (g := w.heap.size) (.inl (by omega)))
  have I1 : GInv w ((((w5.setCell ⟨w.heap.size, 0, none⟩ (.int .i64 z.f)).setCell ⟨w.heap.size, 1, none⟩ (.int .i64 z.e)).setCell ⟨w.heap.size, 2, none⟩ (.slice a3 n1 c3)).setCell ⟨w.heap.size, 3, none⟩ (.slice a4 n2 c4)) a3 a4 n1 n2 c3 c4 z := by
    have h5 := hb5.size
    exact ⟨box_set (box_set (box_set (box_set K3e 0 _) 1 _) 2 _) 3 _, frz_set (frz_set (frz_set (frz_set F3e _ _) _ _) _ _) _ _, box_set_other (box_set_other (box_set_other (box_set_other K6e (by omega) _ _) (by omega) _ _) (by omega) _ _) (by omega) _ _, frz_set (frz_set (frz_set (frz_set F6e _ _) _ _) _ _) _ _, (((((hown.base hB).set hnn _ _).set hnn _ _).set hnn _ _).set hnn _ _), by simp only [World.size_setCell]; omega, Below.setCell (Below.setCell (Below.setCell (Below.setCell hbw5 (by simp only; omega) _) (by simp only; omega) _) (by simp only; omega) _) (by simp only; omega) _⟩
  have HI := Hid.mk I1
  clear I1 K6e F6e hown hbw5 K3b K6b F3b F6b hat1 hbw1 hb5 hnn d1 d2 d3 d4 d5
  go_wp2
  clear K3e F3e
  generalize (((w5.setCell ⟨w.heap.size, 0, none⟩ (.int .i64 z.f)).setCell ⟨w.heap.size, 1, none⟩ (.int .i64 z.e)).setCell ⟨w.heap.size, 2, none⟩ (.slice a3 n1 c3)).setCell ⟨w.heap.size, 3, none⟩ (.slice a4 n2 c4) = w6 at *
  go_loopw [9] (fun s9 wr => ∃ (i : Nat) (b1 b2 : Option Addr) (m1 e1 e2 : Nat), i ≤ n ∧ s9 = .int .i64 ((p + i : Nat) : Int) ∧ Hid (GInv w wr b1 b2 m1 n2 e1 e2 (giveTo z p i))) (fun s9 _ => p + n - (intOf s9).toNat)
  case atStart => exact ⟨0, a3, a4, n1, c3, c4, Nat.zero_le _, by simp, HI⟩
  case round =>
    obtain ⟨i, b1, b2, m1, e1, e2, hin, rfl, HK⟩ := hrel
    clear HI
    by_cases hlt : i < n
    · obtain ⟨g1, g2, g3, g4⟩ := giveG_ok (p := p) (n := n) hz HD.out hp hn i (by omega)
      obtain ⟨s1, s2⟩ := giveG_step (p := p) (n := n) hz HD.out hp hn (i := i) hlt
      have I := HK.out
      have hHi := I.hi
      have k0 := I.k3 0
      have k1 := I.k3 1
      have k2 := I.k3 2
      have k3 := I.k3 3
      simp only [List.getElem?_toArray, List.getElem?_cons_zero, List.getElem?_cons_succ] at k0 k1 k2 k3
      have hwr : w.heap.size < wr.heap.size := by omega
      have dl : decide ((p : Int) + i < p + n) = true := decide_eq_true (by omega)
      have dl2 : decide (p + i < p + n) = true := decide_eq_true (by omega)
      have HGE : Hid (giveTo z p (i + 1) = (giveTo z p i).back (p + i) 0) := rfl
      have HS1 := Hid.mk s1
      have HS2 := Hid.mk s2
      have HG1 := Hid.mk g1
      have HG2 := Hid.mk g2
      have HG3 := Hid.mk g3
      clear g4 s1 s2 g1 g2 g3
      generalize giveTo z p i = y at *
      have HK2 := Hid.mk I
      clear I HK
      go_wp2_with fail
      refine (back_ok _ _ _ _ _ _ y (p + i) 0 _ HK2.out.own.at HG1.out HS1.out HS2.out).mono ?_
      rintro ev w7 ⟨b3, b4, m3, e3, e4, rfl, hown, hb7⟩
      have hHi7 := hb7.size
      have HK4 := Hid.mk (HK2.out.below hb7)
      have hown8 : ZOwn w7 (w.heap.size + 2) b3 b4 m3 n2 e3 e4 (y.back (p + i) 0) := hown.base hHi
      have HK5 : Hid (GInv w ((((w7.setCell ⟨w.heap.size, 0, none⟩ (.int .i64 y.f)).setCell ⟨w.heap.size, 1, none⟩ (.int .i64 y.e)).setCell ⟨w.heap.size, 2, none⟩ (.slice b3 m3 e3)).setCell ⟨w.heap.size, 3, none⟩ (.slice b4 n2 e4)) b3 b4 m3 n2 e3 e4 (y.back (p + i) 0)) := HK4.out.put hown8
      have HK6 := Hid.mk (HK5.out.below (below_alloc _ (.cells #[.int .i64 (y.f : Int), .int .i64 (y.e : Int), .slice b3 m3 e3, .slice b4 n2 e4] 55)))
      have ff3 := HK4.out.f3
      have k30 := HK4.out.k3 0
      have k31 := HK4.out.k3 1
      have k32 := HK4.out.k3 2
      have k33 := HK4.out.k3 3
      simp only [List.getElem?_toArray, List.getElem?_cons_zero, List.getElem?_cons_succ] at k30 k31 k32 k33
      have hwr7 : w.heap.size < w7.heap.size := by omega
      clear hown hown8 k0 k1 k2 k3 HK2 HK4 HK5 hb7
      go_wp2
      go_roundw
      case rel => exact ⟨i + 1, b3, b4, m3, e3, e4, by omega, by go_num, by rw [HGE.out]; exact HK6⟩
      case measure => simp [intOf]; omega
    · obtain rfl : i = n := by omega
      have HG := giveG_ok (p := p) (n := i) hz HD.out hp hn i (by omega)
      have I := HK.out
      have hHi := I.hi
      have k0 := I.k3 0
      have k1 := I.k3 1
      have k2 := I.k3 2
      have k3 := I.k3 3
      rw [HG.2.1, HG.2.2.1] at *
      simp only [List.getElem?_toArray, List.getElem?_cons_zero, List.getElem?_cons_succ] at k0 k1 k2 k3
      have x6 := I.k6
      have xf6 := I.f6
      have hwr : w.heap.size < wr.heap.size := by omega
      have HK2 := Hid.mk I
      clear I HK
      go_wp2
      refine bodyPost_ret (v := .tuple #[.agg #[.int .i64 z.f, .int .i64 z.e, .slice b1 m1 e1, .slice b2 n2 e2], .int .i64 0]) (by simp [results, Tryd.results56, go_sem, x6]) rfl ⟨b1, b2, m1, e1, e2, rfl, ?_, ?_⟩
      · have no := HK2.out.own.ne (g := w.heap.size + 1) (.inl (by omega))
        exact ((((HK2.out.own.set no _ _).set no _ _).set no _ _).set no _ _).base (base' := w.heap.size) (by omega)
      · have hbb := HK2.out.bw
        exact Below.setCell (Below.setCell (Below.setCell (Below.setCell hbb (by simp only; omega) _) (by simp only; omega) _) (by simp only; omega) _) (by simp only; omega) _
end Go.Proofs.YtjljcifpcljlaaaDoor
/- A zone in a box. No program in sight. -/
namespace Go.Proofs.YtjljcifpcljlaaaDoor
open Go.RowKit
set_option linter.unusedVariables false
def zvals (z : Zn) (a1 a2 : Option Addr) (n1 n2 c1 c2 : Nat) : Array Value := #[.int .i64 z.f, .int .i64 z.e, .slice a1 n1 c1, .slice a2 n2 c2]
structure ZBox (W : World) (Z B : Nat) (X : Nat → Prop) (a1 a2 : Option Addr) (n1 n2 c1 c2 : Nat) (z : Zn) : Prop where
  k : ∀ o, W.cell? ⟨B, o, none⟩ = (zvals z a1 a2 n1 n2 c1 c2)[o]?
  fz : ∀ o, W.frozen? ⟨B, o, none⟩ = false
  own : ZOwn W Z a1 a2 n1 n2 c1 c2 z
  lt : B < W.heap.size
  xs : ∀ k, X k → k < W.heap.size
  ne : ∀ g, X g → (Value.slice a1 n1 c1).ownBlock ≠ some g ∧ (Value.slice a2 n2 c2).ownBlock ≠ some g
section
variable {W W' : World} {Z B : Nat} {X : Nat → Prop} {a1 a2 : Option Addr} {n1 n2 c1 c2 : Nat} {z : Zn}
theorem ZBox.below (h : ZBox W Z B X a1 a2 n1 n2 c1 c2 z) (hb : Below W.heap.size W W') : ZBox W' Z B X a1 a2 n1 n2 c1 c2 z :=
  ⟨box_step h.k h.lt hb, frz_step h.fz h.lt hb, h.own.below hb, Nat.lt_of_lt_of_le h.lt hb.size, fun k hk => Nat.lt_of_lt_of_le (h.xs k hk) hb.size, h.ne⟩
theorem ZBox.cells (h : ZBox W Z B X a1 a2 n1 n2 c1 c2 z) : W.cell? ⟨B, 0, none⟩ = some (.int .i64 z.f) ∧ W.cell? ⟨B, 1, none⟩ = some (.int .i64 z.e) ∧ W.cell? ⟨B, 2, none⟩ = some (.slice a1 n1 c1) ∧ W.cell? ⟨B, 3, none⟩ = some (.slice a2 n2 c2) := ⟨h.k 0, h.k 1, h.k 2, h.k 3⟩
theorem ZBox.far (h : ZBox W Z B X a1 a2 n1 n2 c1 c2 z) {g : Nat} (hg : X g) (hne : B ≠ g) (i : Nat) (u : Value) : ZBox (W.setCell ⟨g, i, none⟩ u) Z B X a1 a2 n1 n2 c1 c2 z :=
  ⟨box_set_other h.k hne i u, frz_set h.fz _ _, h.own.set (h.ne g hg) i u, by simpa using h.lt, fun k hk => by simpa using h.xs k hk, h.ne⟩
theorem ZBox.far4 (h : ZBox W Z B X a1 a2 n1 n2 c1 c2 z) {g : Nat} (hg : X g) (hne : B ≠ g) (u0 u1 u2 u3 : Value) : ZBox ((((W.setCell ⟨g, 0, none⟩ u0).setCell ⟨g, 1, none⟩ u1).setCell ⟨g, 2, none⟩ u2).setCell ⟨g, 3, none⟩ u3) Z B X a1 a2 n1 n2 c1 c2 z :=
  (((h.far hg hne 0 u0).far hg hne 1 u1).far hg hne 2 u2).far hg hne 3 u3
/-- another zone comes into the box -/
theorem ZBox.put (h : ZBox W Z B X a1 a2 n1 n2 c1 c2 z) (hB : X B) (hZ : Z ≤ W.heap.size) (hb : Below W.heap.size W W') {b1 b2 : Option Addr} {m1 m2 d1 d2 : Nat} {y : Zn} (ho : ZOwn W' W.heap.size b1 b2 m1 m2 d1 d2 y) :
    ZBox ((((W'.setCell ⟨B, 0, none⟩ (.int .i64 y.f)).setCell ⟨B, 1, none⟩ (.int .i64 y.e)).setCell ⟨B, 2, none⟩ (.slice b1 m1 d1)).setCell ⟨B, 3, none⟩ (.slice b2 m2 d2)) Z B X b1 b2 m1 m2 d1 d2 y := by
  have h' := h.below hb
  have nn : ∀ g, X g → (Value.slice b1 m1 d1).ownBlock ≠ some g ∧ (Value.slice b2 m2 d2).ownBlock ≠ some g := fun g hg => ho.ne (.inl (h.xs g hg))
  have nB := nn B hB
  exact ⟨box_set (box_set (box_set (box_set h'.k 0 (.int .i64 y.f)) 1 (.int .i64 y.e)) 2 (.slice b1 m1 d1)) 3 (.slice b2 m2 d2), frz_set (frz_set (frz_set (frz_set h'.fz _ _) _ _) _ _) _ _, ((((ho.base hZ).set nB _ _).set nB _ _).set nB _ _).set nB _ _, by simpa using h'.lt, fun k hk => by simpa using h'.xs k hk, nn⟩
theorem ZBox.new (h : ZBox W Z B X a1 a2 n1 n2 c1 c2 z) (hb : Below W.heap.size W W') {Y : Nat → Prop} (hY : ∀ k, Y k → X k ∨ (W.heap.size ≤ k ∧ k < W'.heap.size)) : ZBox W' Z B Y a1 a2 n1 n2 c1 c2 z := by
  have h' := h.below hb
  refine ⟨h'.k, h'.fz, h'.own, h'.lt, fun k hk => ?_, fun g hg => ?_⟩
  · rcases hY k hk with h1 | h1
    · exact h'.xs k h1
    · exact h1.2
  · rcases hY g hg with h1 | h1
    · exact h'.ne g h1
    · exact h.own.ne (.inr h1.1)
theorem zbox_new {base : Nat} (ho : ZOwn W base a1 a2 n1 n2 c1 c2 z) (hZ : Z ≤ base) (hX : ∀ k, X k → (k < base ∨ W.heap.size ≤ k) ∧ k ≤ W.heap.size) : ZBox (W.alloc (.cells (zvals z a1 a2 n1 n2 c1 c2) 55)) Z W.heap.size X a1 a2 n1 n2 c1 c2 z :=
  ⟨box_new W _ _, box_frz W _ _, (ho.below (below_alloc _ _)).base hZ, by simp, fun k hk => by have := (hX k hk).2; simp; omega, fun g hg => ho.ne (hX g hg).1⟩
end
theorem own_new (W : World) {base : Nat} {e : TypeId} {size n : Nat} {xs : List Value} (hb : base ≤ W.heap.size) (hl : xs.length = n * size) (hn : n ≤ maxLen) : (W.alloc (.cells xs.toArray e)).ownsRow base e size (.slice (some ⟨W.heap.size, 0, none⟩) n n) n xs :=
  ⟨hl, .inr ⟨W.heap.size, n, xs.toArray, rfl, hb, heap_alloc_new W _, Nat.le_refl _, hn, by simp [hl], by simp [List.take_of_length_le, hl]⟩⟩
/-- the parts of a new heap -/
theorem newH_hr {wx W5 : World} {G N : Nat} {z0 z1 : Zn} {x1 x2 y1 y2 : Option Addr} {m1 m2 d1 d2 k1 k2 e1 e2 least : Nat}
    (r1 : wx.ownsRow 0 55 4 (.slice (some ⟨N, 0, none⟩) 2 2) 2 (flat encZc [⟨z0, x1, x2, m1, m2, d1, d2⟩, ⟨z1, y1, y2, k1, k2, e1, e2⟩]))
    (r2 : wx.ownsRow 0 3 1 (.slice (some ⟨N + 1, 0, none⟩) 2 2) 2 (flat encT [least, least]))
    (t0 : ZOwn wx G x1 x2 m1 m2 d1 d2 z0) (t1 : ZOwn wx G y1 y2 k1 k2 e1 e2 z1) (u0 : ZOwn W5 G x1 x2 m1 m2 d1 d2 z0) (u1 : ZOwn W5 G y1 y2 k1 k2 e1 e2 z1) (hs : W5.heap.size = N)
    (n0 : (Value.slice x1 m1 d1).ownBlock ≠ some G ∧ (Value.slice x2 m2 d2).ownBlock ≠ some G) (n1 : (Value.slice y1 k1 e1).ownBlock ≠ some G ∧ (Value.slice y2 k2 e2).ownBlock ≠ some G) (hG : G < N) (hx : N ≤ wx.heap.size) (h : Hp)
    (q0 : h.z0 = z0) (q1 : h.z1 = z1) (q2 : h.m0 = least) (q3 : h.m1 = least) (q4 : h.ls = []) (q5 : h.live = []) :
    HNew wx G h ⟨some ⟨N, 0, none⟩, 2, some ⟨N + 1, 0, none⟩, 2, none, 0, none, 0, ⟨z0, x1, x2, m1, m2, d1, d2⟩, ⟨z1, y1, y2, k1, k2, e1, e2⟩, []⟩ := by
  have b0 := u0.o1.lt
  have b1 := u0.o2.lt
  have b2 := u1.o1.lt
  have b3 := u1.o2.lt
  refine ⟨⟨fun r hr => ?_, ?_⟩, fun r hr => ?_, fun r hr s hs' g hg1 hg2 => ?_, fun r hr g hg => ?_, fun r hr e => ?_, fun r hr g hg e => ?_, Nat.lt_of_lt_of_le hG hx, Nat.lt_irrefl _, fun k hk => by have : k < G := hk; omega, q0.symm, q1.symm, q4.symm⟩
  · simp only [Hc.rows, List.map_nil, List.mem_cons, List.not_mem_nil, or_false] at hr
    rcases hr with rfl | rfl | rfl
    · exact r1
    · exact ⟨rfl, .inl ⟨rfl, rfl⟩⟩
    · unfold lvR Rs.on; rw [q5]; exact ⟨rfl, .inl ⟨rfl, rfl⟩⟩
  · simp only [Hc.rows, List.map_nil]
    refine List.Pairwise.cons (fun s hs' g hg1 hg2 => ?_) (List.Pairwise.cons (fun s hs' g hg1 hg2 => ?_) (List.Pairwise.cons (fun s hs' => by simp at hs') List.Pairwise.nil))
    · simp only [List.mem_cons, List.not_mem_nil, or_false] at hs'
      rcases hs' with rfl | rfl <;> cases hg2
    · cases hg1
  · simp only [Hc.reads, List.mem_cons, List.not_mem_nil, or_false] at hr
    rcases hr with rfl | rfl | rfl | rfl | rfl
    · unfold mnR Rs.on; rw [q2, q3]; exact r2
    · exact own_base t0.o1 (Nat.zero_le _)
    · exact own_base t0.o2 (Nat.zero_le _)
    · exact own_base t1.o1 (Nat.zero_le _)
    · exact own_base t1.o2 (Nat.zero_le _)
  · simp only [Hc.rows, List.map_nil, List.mem_cons, List.not_mem_nil, or_false] at hs'
    rcases hs' with rfl | rfl | rfl
    · obtain rfl : N = g := by simpa [zsR, Value.ownBlock] using hg2
      simp only [Hc.reads, List.mem_cons, List.not_mem_nil, or_false] at hr
      rcases hr with rfl | rfl | rfl | rfl | rfl
      · simp [mnR, Value.ownBlock] at hg1
      · have := (b0 _ hg1).2; omega
      · have := (b1 _ hg1).2; omega
      · have := (b2 _ hg1).2; omega
      · have := (b3 _ hg1).2; omega
    · cases hg2
    · cases hg2
  · simp only [Hc.rows, List.map_nil, List.mem_cons, List.not_mem_nil, or_false] at hr
    rcases hr with rfl | rfl | rfl
    · obtain rfl : N = g := by simpa [zsR, Value.ownBlock] using hg
      exact ⟨by omega, by omega⟩
    · cases hg
    · cases hg
  · simp only [Hc.reads, List.mem_cons, List.not_mem_nil, or_false] at hr
    rcases hr with rfl | rfl | rfl | rfl | rfl
    · have : N + 1 = G := by simpa [mnR, Value.ownBlock] using e
      omega
    · exact n0.1 e
    · exact n0.2 e
    · exact n1.1 e
    · exact n1.2 e
  · have e : g < G := e
    simp only [Hc.reads, List.mem_cons, List.not_mem_nil, or_false] at hr
    rcases hr with rfl | rfl | rfl | rfl | rfl
    · have : N + 1 = g := by simpa [mnR, Value.ownBlock] using hg
      omega
    · have := (b0 _ hg).1; omega
    · have := (b1 _ hg).1; omega
    · have := (b2 _ hg).1; omega
    · have := (b3 _ hg).1; omega
end Go.Proofs.YtjljcifpcljlaaaDoor
/- Contract of package pages: drain, on the heap behind a pointer. -/
namespace Go.Proofs.YtjljcifpcljlaaaDoor
open Go.RowKit
set_option linter.unusedVariables false

set_option maxHeartbeats 8000000 in
set_option maxRecDepth 100000 in
theorem drain_pg (G : Nat) (X : Nat → Prop) (h : Hp) (c : Hc) (w : World) (hs : HS w G X h c) (hk : HOk h) :
    Calls Tryd.prog 42 #[.pointer (some ⟨G, 0, none⟩)] w fun ev w' => ev = .returned (.tuple #[]) ∧ (∃ c', HS w' G X h.drain c') ∧ Safe X w w' := by
  have HS0 := Hid.mk hs
  have HK := Hid.mk hk
  have HLN := Hid.mk (lc_len hs.r)
  have hn24 := hk.ls_len
  have hc24 : c.lc.length ≤ 24 := by rw [HLN.out]; exact hn24
  obtain ⟨k0, k1, k2, k3, k4⟩ := hs.words
  have hGs := hs.r.gs
  clear hs hk
  go_enter Tryd.func42, Tryd.ntmps42
  go_wp2_with fail
  clear k0 k1 k2 k3 k4
  obtain ⟨n, hn⟩ : ∃ n, c.lc.length = n := ⟨_, rfl⟩
  have HN := Hid.mk hn
  obtain ⟨A, hA⟩ : ∃ A, c.al = A := ⟨_, rfl⟩
  have HA := Hid.mk hA
  rw [hn] at hc24 ⊢
  rw [hA]
  clear hn hA
  go_loopw [11] (fun s11 wr => ∃ (i : Nat) (y0 y1 : Zc), i ≤ n ∧ s11 = .int .i64 (i : Int) ∧ Hid (HS wr G X (drainL h (h.ls.take i)) { c with y0 := y0, y1 := y1 }) ∧ Hid (Safe X w wr)) (fun s11 _ => n - (intOf s11).toNat)
  case atStart => exact ⟨0, c.y0, c.y1, Nat.zero_le _, rfl, HS0, Safe.refl _ _⟩
  case round =>
    obtain ⟨i, y0, y1, hi, rfl, HSr, SFr⟩ := hrel
    clear HS0
    have hGr : G < wr.heap.size := HSr.out.r.gs
    by_cases hlt : i < n
    · have hlt2 : (i : Int) < n := by omega
      have hi1 : i < c.lc.length := by rw [HN.out]; exact hlt
      have hi2 : i < h.ls.length := by rw [← HLN.out]; exact hi1
      obtain ⟨gl, hgl, hgls, hglG, hglX, hglf⟩ := HSr.out.r.lblock (show 0 < c.lc.length by omega)
      obtain ⟨x0, x1, x2, x3⟩ := HSr.out.r.lcells hgl hi1
      have h7 : c.lc[i].l = h.ls[i] := by
        have h8 := lc_get HSr.out.r hi1 (by rw [(drainL_all h _).1]; exact hi2)
        simp only [(drainL_all h _).1] at h8
        exact h8
      have hgl' : c.al = some ⟨gl, 0, none⟩ := hgl
      have x0' : wr.cell? ⟨gl, i * 4, none⟩ = some (.int .i64 (c.lc[i].l.c : Int)) := x0
      have x1' : wr.cell? ⟨gl, i * 4 + 1, none⟩ = some (.int .i64 (c.lc[i].l.z : Int)) := x1
      have x2' : wr.cell? ⟨gl, i * 4 + 2, none⟩ = some (.int .i64 (c.lc[i].l.t : Int)) := x2
      have x3' : wr.cell? ⟨gl, i * 4 + 3, none⟩ = some (.slice c.lc[i].a c.lc[i].n c.lc[i].c) := x3
      clear x0 x1 x2 x3 hgl hglf
      have hrm : c.lc[i] ∈ c.lc := List.getElem_mem hi1
      have HOWN := HSr.out.r.pgs _ hrm
      have hlen := pg_len HOWN
      have hok := HK.out.lr _ (List.getElem_mem hi2)
      have h88 := hok.2.2.2.2.1
      have hpos := hok.2.2.2.1
      have HRDY : Hid (∀ j (hj : j < h.ls[i].p.length), _) := fun j hj => drain_ready HK.out hi2 hj
      have HNX := Hid.mk (drainL_next h h.ls hi2)
      rw [h7] at hlen
      have HOWN' : Hid ((pgR c.lc[i]).on wr 0) := HOWN
      have H7 := Hid.mk h7
      obtain rfl : A = some ⟨gl, 0, none⟩ := HA.out.symm.trans hgl'
      have HRM := Hid.mk hrm
      clear HOWN h7 hok hrm
      obtain ⟨r, hr⟩ : ∃ r, c.lc[i] = r := ⟨_, rfl⟩
      simp only [hr] at x0' x1' x2' x3' hlen HOWN' H7 HRM
      obtain ⟨pb, poff, hpa, _, _⟩ := row_elem encT_length (by decide) (own_row HOWN'.out) (j := 0) (by show 0 < r.l.p.length; rw [H7.out]; omega)
      rw [hpa] at x3'
      have HPA := Hid.mk hpa
      clear hr hpa hgl'
      go_wp2_with fail
      have hbw := below_alloc wr (.cells #[.int .i64 (r.l.c : Int), .int .i64 (r.l.z : Int), .int .i64 (r.l.t : Int), .slice (some ⟨pb, poff, none⟩) r.n r.c] 66)
      have HS5 := Hid.mk (HSr.out.below hbw)
      have SF5 := Hid.mk (SFr.out.then hbw)
      obtain ⟨we, rfl⟩ : ∃ we, we = wr := ⟨_, rfl⟩
      clear hbw HSr SFr x0' x1' x2' x3' hGr hgls
      generalize we.alloc (.cells #[.int .i64 (r.l.c : Int), .int .i64 (r.l.z : Int), .int .i64 (r.l.t : Int), .slice (some ⟨pb, poff, none⟩) r.n r.c] 66) = w5 at *
      go_loopw [18] (fun s18 wq => ∃ (j : Nat) (z0 z1 : Zc), j ≤ r.n ∧ s18 = .int .i64 (j : Int) ∧ Hid (HS wq G X (backAll (drainL h (h.ls.take i)) (h.ls[i].p.take j)) { c with y0 := z0, y1 := z1 }) ∧ Hid (Safe X w wq)) (fun s18 _ => r.n - (intOf s18).toNat)
      case atStart => exact ⟨0, y0, y1, Nat.zero_le _, rfl, HS5, SF5⟩
      case round =>
        obtain ⟨j, z0, z1, hj, rfl, HSq, SFq⟩ := hrel
        clear HS5 SF5
        by_cases hjl : j < r.n
        · have hjl2 : (j : Int) < r.n := by omega
          have hjp : j < h.ls[i].p.length := by omega
          have hjr : j < r.l.p.length := by rw [H7.out]; exact hjp
          obtain ⟨pb', poff', hp9, hpb, hpc⟩ := row_elem encT_length (by decide) (own_row (HSq.out.r.pgs r HRM.out)) (j := j) hjr
          obtain ⟨rfl, rfl⟩ : pb = pb' ∧ poff = poff' := by
            rw [HPA.out] at hp9
            simpa using hp9
          have hpc0 := encT_cells hpc
          rw [Nat.mul_one] at hpc0
          obtain ⟨P, hP⟩ : ∃ P, r.l.p[j] = P := ⟨_, rfl⟩
          have hP2 : h.ls[i].p[j] = P := by rw [← hP]; simp only [H7.out]
          obtain ⟨g1, g2, g3⟩ := drain_ready HK.out hi2 hjp
          have HBN := Hid.mk (backAll_next (drainL h (h.ls.take i)) h.ls[i].p hjp)
          rw [hP2] at g1 g2 g3 HBN
          rw [hP] at hpc0
          have G1 := Hid.mk g1
          have G2 := Hid.mk g2
          have G3 := Hid.mk g3
          clear hpc hP hP2 g1 g2 g3 hp9
          go_wp2_with fail
          refine (back_gen G P 0 X _ _ wr HSq.out G1.out G2.out G3.out).mono ?_
          rintro ev w6 ⟨rfl, ⟨u0, u1, hs6⟩, sf6⟩
          rw [← HBN.out] at hs6
          have HS6 := Hid.mk hs6
          have SF6 := Hid.mk (SFq.out.trans sf6)
          clear hs6 sf6 hpc0
          go_wp2
          go_roundw
          case rel => exact ⟨j + 1, u0, u1, by omega, by go_num, HS6, SF6⟩
          case measure => simp [intOf]; omega
        · obtain rfl : j = r.n := by omega
          have HS6 : Hid (HS wr G X (drainL h (h.ls.take (i + 1))) { c with y0 := z0, y1 := z1 }) := by
            unfold Hid
            rw [HNX.out]
            have h1 := HSq.out
            rw [List.take_of_length_le (show h.ls[i].p.length ≤ r.n by omega)] at h1
            exact h1
          go_wp2
          go_roundw
          case rel => exact ⟨i + 1, z0, z1, by omega, by go_num, HS6, SFq⟩
          case measure => simp [intOf]; omega
    · obtain rfl : i = n := by omega
      obtain ⟨hs6, sf6⟩ := HSr.out.lists (World.grownBy.refl wr _) (al' := none) (cl' := 0) (lc' := []) ⟨rfl, .inl ⟨rfl, rfl⟩⟩ (fun k hk => by cases hk) (OwnL.nil _ _) (fun r hr => by cases hr)
      have e : ({ drainL h (h.ls.take i) with ls := ([] : List Lc).map Lc.l } : Hp) = h.drain := by
        rw [List.take_of_length_le (by rw [← HLN.out, HN.out]; exact Nat.le_refl _)]
        rfl
      rw [e] at hs6
      have HS6 : Hid (HS (wr.setCell ⟨G, 3, none⟩ (.slice none 0 0)) G X h.drain _) := hs6
      have SF6 : Hid (Safe X w (wr.setCell ⟨G, 3, none⟩ (.slice none 0 0))) := SFr.out.trans sf6
      obtain ⟨k0, k1, k2, k3, k4⟩ := HSr.out.words
      have kf := HSr.out.fz 3
      clear hs6 sf6 e
      go_wp2
      refine bodyPost_end (v := .tuple #[]) (by simp [results, Tryd.results42, go_sem]) rfl ⟨rfl, ⟨_, HS6.out⟩, SF6.out⟩
end Go.Proofs.YtjljcifpcljlaaaDoor
