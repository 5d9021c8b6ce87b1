/- GiveG, Pn1, Sy7: texts of this claim, joined. -/
import Derived.Test.YtkcaheebaicinaaGreatDoorSN10
import Derived.Test.YtkcaheebaicinaaGreatDoorSN11
import Derived.Test.YtkcaheebaicinaaGreatDoorSN16
import Derived.Test.YtkcaheebaicinaaGreatDoorSN23
import Derived.Test.YtkcaheebaicinaaGreatDoorSN35
import Derived.Test.YtkcaheebaicinaaGreatDoorSN42
/- Contract of package buddy: Give, for a zone that has pages. -/
namespace Go.Proofs.YtkcaheebaicinaaGreatDoor
open Go.RowKit
set_option linter.unusedVariables false
theorem okL_len {z : Zn} (hz : z.ok) : z.l.length ≤ 256 := by
  refine Nat.le_trans ?_ (szB_le hz)
  generalize z.l = l
  induction l with
  | nil => simp
  | cons b l ih =>
    have := pow_pos' b.o
    simp only [szB, List.length_cons]
    omega

set_option maxHeartbeats 4000000 in
set_option maxRecDepth 100000 in
theorem give_gen (a1 a2 : Option Addr) (n1 n2 c1 c2 : Nat) (z : Zn) (p n : Nat) (w : World) (hat : ZAt w a1 a2 n1 n2 z) (hz : z.ok) (hd0 : ∀ q, p ≤ q → q < p + n → ¬ covL z.l q) (hp : z.f ≤ p) (hn : p + n ≤ z.e) :
    Calls Tryz.prog 54 #[.agg #[.int .i64 z.f, .int .i64 z.e, .slice a1 n1 c1, .slice a2 n2 c2], .int .i64 p, .int .i64 n] w fun ev w' => ∃ a1' a2' n1' c1' c2', ev = .returned (.tuple #[.agg #[.int .i64 z.f, .int .i64 z.e, .slice a1' n1' c1', .slice a2' n2 c2'], .int .i64 0]) ∧ ZOwn w' w.heap.size a1' a2' n1' n2 c1' c2' (giveTo z p n) ∧ Below w.heap.size w w' := by
  have hee := hz.1.e2
  have l1 := hat.l1
  have l2 := hat.l2
  have hl0 : z.l.length ≤ 256 := okL_len hz
  have HD := Hid.mk hd0
  have hy32 : z.y.length ≤ 32 := by rw [hz.1.len]; omega
  obtain ⟨K3, K6, F3, F6, hsz, hbw⟩ := boxes2 w #[.int .i64 (z.f : Int), .int .i64 (z.e : Int), .slice a1 n1 c1, .slice a2 n2 c2] 110 #[.int .i64 0, .int .i64 0, .slice none 0 0, .slice none 0 0] 110
  have hat0 := hat.below hbw
  have d1 : decide (p < z.f) = false := decide_eq_false (by omega)
  have d2 : decide ((z.e : Int) < p) = false := decide_eq_false (by omega)
  have d3 : decide ((z.e : Int) - p < n) = false := decide_eq_false (by omega)
  have d4 : decide (z.e < p) = false := decide_eq_false (by omega)
  have d5 : (p : Int) ≤ z.e := by omega
  clear hat hd0
  go_enter Tryz.func54, Tryz.ntmps54
  go_wp2_with fail
  generalize (w.alloc (.cells #[.int .i64 (z.f : Int), .int .i64 (z.e : Int), .slice a1 n1 c1, .slice a2 n2 c2] 110)).alloc (.cells #[.int .i64 0, .int .i64 0, .slice none 0 0, .slice none 0 0] 110) = w0 at *
  refine (check_ok _ _ _ _ _ _ z _ hat0 hz).mono ?_
  rintro ev w1 ⟨rfl, hb1⟩
  have K3b := box_step K3 (by omega) hb1
  have K6b := box_step K6 (by omega) hb1
  have F3b := frz_step F3 (by omega) hb1
  have F6b := frz_step F6 (by omega) hb1
  have hat1 := hat0.below hb1
  have hbw1 := Below.step hbw hb1
  have hB : w.heap.size + 2 ≤ w1.heap.size := by have := hb1.size; omega
  clear K3 K6 F3 F6 hb1 hat0 hbw hsz
  go_wp2_with fail
  refine (copy_ok _ _ _ _ _ _ z.f z.e z _ hat1 (by omega) (by omega)).mono ?_
  rintro ev w5 ⟨a3, a4, c3, c4, rfl, hown, hb5⟩
  have K3e := box_step K3b (by omega) hb5
  have K6e := box_step K6b (by omega) hb5
  have F3e := frz_step F3b (by omega) hb5
  have F6e := frz_step F6b (by omega) hb5
  have hbw5 := Below.step hbw1 hb5
  have hnn := (hown.ne (g := w.heap.size) (.inl (by omega)))
  have I1 : GInv w ((((w5.setCell ⟨w.heap.size, 0, none⟩ (.int .i64 z.f)).setCell ⟨w.heap.size, 1, none⟩ (.int .i64 z.e)).setCell ⟨w.heap.size, 2, none⟩ (.slice a3 n1 c3)).setCell ⟨w.heap.size, 3, none⟩ (.slice a4 n2 c4)) a3 a4 n1 n2 c3 c4 z := by
    have h5 := hb5.size
    exact ⟨box_set (box_set (box_set (box_set K3e 0 _) 1 _) 2 _) 3 _, frz_set (frz_set (frz_set (frz_set F3e _ _) _ _) _ _) _ _, box_set_other (box_set_other (box_set_other (box_set_other K6e (by omega) _ _) (by omega) _ _) (by omega) _ _) (by omega) _ _, frz_set (frz_set (frz_set (frz_set F6e _ _) _ _) _ _) _ _, (((((hown.base hB).set hnn _ _).set hnn _ _).set hnn _ _).set hnn _ _), by simp only [World.size_setCell]; omega, Below.setCell (Below.setCell (Below.setCell (Below.setCell hbw5 (by simp only; omega) _) (by simp only; omega) _) (by simp only; omega) _) (by simp only; omega) _⟩
  have HI := Hid.mk I1
  clear I1 K6e F6e hown hbw5 K3b K6b F3b F6b hat1 hbw1 hb5 hnn d1 d2 d3 d4 d5
  go_wp2
  clear K3e F3e
  generalize (((w5.setCell ⟨w.heap.size, 0, none⟩ (.int .i64 z.f)).setCell ⟨w.heap.size, 1, none⟩ (.int .i64 z.e)).setCell ⟨w.heap.size, 2, none⟩ (.slice a3 n1 c3)).setCell ⟨w.heap.size, 3, none⟩ (.slice a4 n2 c4) = w6 at *
  go_loopw [9] (fun s9 wr => ∃ (i : Nat) (b1 b2 : Option Addr) (m1 e1 e2 : Nat), i ≤ n ∧ s9 = .int .i64 ((p + i : Nat) : Int) ∧ Hid (GInv w wr b1 b2 m1 n2 e1 e2 (giveTo z p i))) (fun s9 _ => p + n - (intOf s9).toNat)
  case atStart => exact ⟨0, a3, a4, n1, c3, c4, Nat.zero_le _, by simp, HI⟩
  case round =>
    obtain ⟨i, b1, b2, m1, e1, e2, hin, rfl, HK⟩ := hrel
    clear HI
    by_cases hlt : i < n
    · obtain ⟨g1, g2, g3, g4⟩ := giveG_ok (p := p) (n := n) hz HD.out hp hn i (by omega)
      obtain ⟨s1, s2⟩ := giveG_step (p := p) (n := n) hz HD.out hp hn (i := i) hlt
      have I := HK.out
      have hHi := I.hi
      have k0 := I.k3 0
      have k1 := I.k3 1
      have k2 := I.k3 2
      have k3 := I.k3 3
      simp only [List.getElem?_toArray, List.getElem?_cons_zero, List.getElem?_cons_succ] at k0 k1 k2 k3
      have hwr : w.heap.size < wr.heap.size := by omega
      have dl : decide ((p : Int) + i < p + n) = true := decide_eq_true (by omega)
      have dl2 : decide (p + i < p + n) = true := decide_eq_true (by omega)
      have HGE : Hid (giveTo z p (i + 1) = (giveTo z p i).back (p + i) 0) := rfl
      have HS1 := Hid.mk s1
      have HS2 := Hid.mk s2
      have HG1 := Hid.mk g1
      have HG2 := Hid.mk g2
      have HG3 := Hid.mk g3
      clear g4 s1 s2 g1 g2 g3
      generalize giveTo z p i = y at *
      have HK2 := Hid.mk I
      clear I HK
      go_wp2_with fail
      refine (back_ok _ _ _ _ _ _ y (p + i) 0 _ HK2.out.own.at HG1.out HS1.out HS2.out).mono ?_
      rintro ev w7 ⟨b3, b4, m3, e3, e4, rfl, hown, hb7⟩
      have hHi7 := hb7.size
      have HK4 := Hid.mk (HK2.out.below hb7)
      have hown8 : ZOwn w7 (w.heap.size + 2) b3 b4 m3 n2 e3 e4 (y.back (p + i) 0) := hown.base hHi
      have HK5 : Hid (GInv w ((((w7.setCell ⟨w.heap.size, 0, none⟩ (.int .i64 y.f)).setCell ⟨w.heap.size, 1, none⟩ (.int .i64 y.e)).setCell ⟨w.heap.size, 2, none⟩ (.slice b3 m3 e3)).setCell ⟨w.heap.size, 3, none⟩ (.slice b4 n2 e4)) b3 b4 m3 n2 e3 e4 (y.back (p + i) 0)) := HK4.out.put hown8
      have HK6 := Hid.mk (HK5.out.below (below_alloc _ (.cells #[.int .i64 (y.f : Int), .int .i64 (y.e : Int), .slice b3 m3 e3, .slice b4 n2 e4] 110)))
      have ff3 := HK4.out.f3
      have k30 := HK4.out.k3 0
      have k31 := HK4.out.k3 1
      have k32 := HK4.out.k3 2
      have k33 := HK4.out.k3 3
      simp only [List.getElem?_toArray, List.getElem?_cons_zero, List.getElem?_cons_succ] at k30 k31 k32 k33
      have hwr7 : w.heap.size < w7.heap.size := by omega
      clear hown hown8 k0 k1 k2 k3 HK2 HK4 HK5 hb7
      go_wp2
      go_roundw
      case rel => exact ⟨i + 1, b3, b4, m3, e3, e4, by omega, by go_num, by rw [HGE.out]; exact HK6⟩
      case measure => simp [intOf]; omega
    · obtain rfl : i = n := by omega
      have HG := giveG_ok (p := p) (n := i) hz HD.out hp hn i (by omega)
      have I := HK.out
      have hHi := I.hi
      have k0 := I.k3 0
      have k1 := I.k3 1
      have k2 := I.k3 2
      have k3 := I.k3 3
      rw [HG.2.1, HG.2.2.1] at *
      simp only [List.getElem?_toArray, List.getElem?_cons_zero, List.getElem?_cons_succ] at k0 k1 k2 k3
      have x6 := I.k6
      have xf6 := I.f6
      have hwr : w.heap.size < wr.heap.size := by omega
      have HK2 := Hid.mk I
      clear I HK
      go_wp2
      refine bodyPost_ret (v := .tuple #[.agg #[.int .i64 z.f, .int .i64 z.e, .slice b1 m1 e1, .slice b2 n2 e2], .int .i64 0]) (by simp [results, Tryz.results54, go_sem, x6]) rfl ⟨b1, b2, m1, e1, e2, rfl, ?_, ?_⟩
      · have no := HK2.out.own.ne (g := w.heap.size + 1) (.inl (by omega))
        exact ((((HK2.out.own.set no _ _).set no _ _).set no _ _).set no _ _).base (base' := w.heap.size) (by omega)
      · have hbb := HK2.out.bw
        exact Below.setCell (Below.setCell (Below.setCell (Below.setCell hbb (by simp only; omega) _) (by simp only; omega) _) (by simp only; omega) _) (by simp only; omega) _
end Go.Proofs.YtkcaheebaicinaaGreatDoor
/- A zone in a box. No program in sight. -/
namespace Go.Proofs.YtkcaheebaicinaaGreatDoor
open Go.RowKit
set_option linter.unusedVariables false
def zvals (z : Zn) (a1 a2 : Option Addr) (n1 n2 c1 c2 : Nat) : Array Value := #[.int .i64 z.f, .int .i64 z.e, .slice a1 n1 c1, .slice a2 n2 c2]
structure ZBox (W : World) (Z B : Nat) (X : Nat → Prop) (a1 a2 : Option Addr) (n1 n2 c1 c2 : Nat) (z : Zn) : Prop where
  k : ∀ o, W.cell? ⟨B, o, none⟩ = (zvals z a1 a2 n1 n2 c1 c2)[o]?
  fz : ∀ o, W.frozen? ⟨B, o, none⟩ = false
  own : ZOwn W Z a1 a2 n1 n2 c1 c2 z
  lt : B < W.heap.size
  xs : ∀ k, X k → k < W.heap.size
  ne : ∀ g, X g → (Value.slice a1 n1 c1).ownBlock ≠ some g ∧ (Value.slice a2 n2 c2).ownBlock ≠ some g
section
variable {W W' : World} {Z B : Nat} {X : Nat → Prop} {a1 a2 : Option Addr} {n1 n2 c1 c2 : Nat} {z : Zn}
theorem ZBox.below (h : ZBox W Z B X a1 a2 n1 n2 c1 c2 z) (hb : Below W.heap.size W W') : ZBox W' Z B X a1 a2 n1 n2 c1 c2 z :=
  ⟨box_step h.k h.lt hb, frz_step h.fz h.lt hb, h.own.below hb, Nat.lt_of_lt_of_le h.lt hb.size, fun k hk => Nat.lt_of_lt_of_le (h.xs k hk) hb.size, h.ne⟩
theorem ZBox.cells (h : ZBox W Z B X a1 a2 n1 n2 c1 c2 z) : W.cell? ⟨B, 0, none⟩ = some (.int .i64 z.f) ∧ W.cell? ⟨B, 1, none⟩ = some (.int .i64 z.e) ∧ W.cell? ⟨B, 2, none⟩ = some (.slice a1 n1 c1) ∧ W.cell? ⟨B, 3, none⟩ = some (.slice a2 n2 c2) := ⟨h.k 0, h.k 1, h.k 2, h.k 3⟩
theorem ZBox.far (h : ZBox W Z B X a1 a2 n1 n2 c1 c2 z) {g : Nat} (hg : X g) (hne : B ≠ g) (i : Nat) (u : Value) : ZBox (W.setCell ⟨g, i, none⟩ u) Z B X a1 a2 n1 n2 c1 c2 z :=
  ⟨box_set_other h.k hne i u, frz_set h.fz _ _, h.own.set (h.ne g hg) i u, by simpa using h.lt, fun k hk => by simpa using h.xs k hk, h.ne⟩
theorem ZBox.far4 (h : ZBox W Z B X a1 a2 n1 n2 c1 c2 z) {g : Nat} (hg : X g) (hne : B ≠ g) (u0 u1 u2 u3 : Value) : ZBox ((((W.setCell ⟨g, 0, none⟩ u0).setCell ⟨g, 1, none⟩ u1).setCell ⟨g, 2, none⟩ u2).setCell ⟨g, 3, none⟩ u3) Z B X a1 a2 n1 n2 c1 c2 z :=
  (((h.far hg hne 0 u0).far hg hne 1 u1).far hg hne 2 u2).far hg hne 3 u3
/-- another zone comes into the box -/
theorem ZBox.put (h : ZBox W Z B X a1 a2 n1 n2 c1 c2 z) (hB : X B) (hZ : Z ≤ W.heap.size) (hb : Below W.heap.size W W') {b1 b2 : Option Addr} {m1 m2 d1 d2 : Nat} {y : Zn} (ho : ZOwn W' W.heap.size b1 b2 m1 m2 d1 d2 y) :
    ZBox ((((W'.setCell ⟨B, 0, none⟩ (.int .i64 y.f)).setCell ⟨B, 1, none⟩ (.int .i64 y.e)).setCell ⟨B, 2, none⟩ (.slice b1 m1 d1)).setCell ⟨B, 3, none⟩ (.slice b2 m2 d2)) Z B X b1 b2 m1 m2 d1 d2 y := by
  have h' := h.below hb
  have nn : ∀ g, X g → (Value.slice b1 m1 d1).ownBlock ≠ some g ∧ (Value.slice b2 m2 d2).ownBlock ≠ some g := fun g hg => ho.ne (.inl (h.xs g hg))
  have nB := nn B hB
  exact ⟨box_set (box_set (box_set (box_set h'.k 0 (.int .i64 y.f)) 1 (.int .i64 y.e)) 2 (.slice b1 m1 d1)) 3 (.slice b2 m2 d2), frz_set (frz_set (frz_set (frz_set h'.fz _ _) _ _) _ _) _ _, ((((ho.base hZ).set nB _ _).set nB _ _).set nB _ _).set nB _ _, by simpa using h'.lt, fun k hk => by simpa using h'.xs k hk, nn⟩
theorem ZBox.new (h : ZBox W Z B X a1 a2 n1 n2 c1 c2 z) (hb : Below W.heap.size W W') {Y : Nat → Prop} (hY : ∀ k, Y k → X k ∨ (W.heap.size ≤ k ∧ k < W'.heap.size)) : ZBox W' Z B Y a1 a2 n1 n2 c1 c2 z := by
  have h' := h.below hb
  refine ⟨h'.k, h'.fz, h'.own, h'.lt, fun k hk => ?_, fun g hg => ?_⟩
  · rcases hY k hk with h1 | h1
    · exact h'.xs k h1
    · exact h1.2
  · rcases hY g hg with h1 | h1
    · exact h'.ne g h1
    · exact h.own.ne (.inr h1.1)
theorem zbox_new {base : Nat} (ho : ZOwn W base a1 a2 n1 n2 c1 c2 z) (hZ : Z ≤ base) (hX : ∀ k, X k → (k < base ∨ W.heap.size ≤ k) ∧ k ≤ W.heap.size) : ZBox (W.alloc (.cells (zvals z a1 a2 n1 n2 c1 c2) 110)) Z W.heap.size X a1 a2 n1 n2 c1 c2 z :=
  ⟨box_new W _ _, box_frz W _ _, (ho.below (below_alloc _ _)).base hZ, by simp, fun k hk => by have := (hX k hk).2; simp; omega, fun g hg => ho.ne (hX g hg).1⟩
end
theorem own_new (W : World) {base : Nat} {e : TypeId} {size n : Nat} {xs : List Value} (hb : base ≤ W.heap.size) (hl : xs.length = n * size) (hn : n ≤ maxLen) : (W.alloc (.cells xs.toArray e)).ownsRow base e size (.slice (some ⟨W.heap.size, 0, none⟩) n n) n xs :=
  ⟨hl, .inr ⟨W.heap.size, n, xs.toArray, rfl, hb, heap_alloc_new W _, Nat.le_refl _, hn, by simp [hl], by simp [List.take_of_length_le, hl]⟩⟩
/-- the parts of a new heap -/
theorem newH_hr {wx W5 : World} {G N : Nat} {z0 z1 : Zn} {x1 x2 y1 y2 : Option Addr} {m1 m2 d1 d2 k1 k2 e1 e2 least : Nat}
    (r1 : wx.ownsRow 0 110 4 (.slice (some ⟨N, 0, none⟩) 2 2) 2 (flat encZc [⟨z0, x1, x2, m1, m2, d1, d2⟩, ⟨z1, y1, y2, k1, k2, e1, e2⟩]))
    (r2 : wx.ownsRow 0 3 1 (.slice (some ⟨N + 1, 0, none⟩) 2 2) 2 (flat encT [least, least]))
    (t0 : ZOwn wx G x1 x2 m1 m2 d1 d2 z0) (t1 : ZOwn wx G y1 y2 k1 k2 e1 e2 z1) (u0 : ZOwn W5 G x1 x2 m1 m2 d1 d2 z0) (u1 : ZOwn W5 G y1 y2 k1 k2 e1 e2 z1) (hs : W5.heap.size = N)
    (n0 : (Value.slice x1 m1 d1).ownBlock ≠ some G ∧ (Value.slice x2 m2 d2).ownBlock ≠ some G) (n1 : (Value.slice y1 k1 e1).ownBlock ≠ some G ∧ (Value.slice y2 k2 e2).ownBlock ≠ some G) (hG : G < N) (hx : N ≤ wx.heap.size) (h : Hp)
    (q0 : h.z0 = z0) (q1 : h.z1 = z1) (q2 : h.m0 = least) (q3 : h.m1 = least) (q4 : h.ls = []) (q5 : h.live = []) :
    HNew wx G h ⟨some ⟨N, 0, none⟩, 2, some ⟨N + 1, 0, none⟩, 2, none, 0, none, 0, ⟨z0, x1, x2, m1, m2, d1, d2⟩, ⟨z1, y1, y2, k1, k2, e1, e2⟩, []⟩ := by
  have b0 := u0.o1.lt
  have b1 := u0.o2.lt
  have b2 := u1.o1.lt
  have b3 := u1.o2.lt
  refine ⟨⟨fun r hr => ?_, ?_⟩, fun r hr => ?_, fun r hr s hs' g hg1 hg2 => ?_, fun r hr g hg => ?_, fun r hr e => ?_, fun r hr g hg e => ?_, Nat.lt_of_lt_of_le hG hx, Nat.lt_irrefl _, fun k hk => by have : k < G := hk; omega, q0.symm, q1.symm, q4.symm⟩
  · simp only [Hc.rows, List.map_nil, List.mem_cons, List.not_mem_nil, or_false] at hr
    rcases hr with rfl | rfl | rfl
    · exact r1
    · exact ⟨rfl, .inl ⟨rfl, rfl⟩⟩
    · unfold lvR Rs.on; rw [q5]; exact ⟨rfl, .inl ⟨rfl, rfl⟩⟩
  · simp only [Hc.rows, List.map_nil]
    refine List.Pairwise.cons (fun s hs' g hg1 hg2 => ?_) (List.Pairwise.cons (fun s hs' g hg1 hg2 => ?_) (List.Pairwise.cons (fun s hs' => by simp at hs') List.Pairwise.nil))
    · simp only [List.mem_cons, List.not_mem_nil, or_false] at hs'
      rcases hs' with rfl | rfl <;> cases hg2
    · cases hg1
  · simp only [Hc.reads, List.mem_cons, List.not_mem_nil, or_false] at hr
    rcases hr with rfl | rfl | rfl | rfl | rfl
    · unfold mnR Rs.on; rw [q2, q3]; exact r2
    · exact own_base t0.o1 (Nat.zero_le _)
    · exact own_base t0.o2 (Nat.zero_le _)
    · exact own_base t1.o1 (Nat.zero_le _)
    · exact own_base t1.o2 (Nat.zero_le _)
  · simp only [Hc.rows, List.map_nil, List.mem_cons, List.not_mem_nil, or_false] at hs'
    rcases hs' with rfl | rfl | rfl
    · obtain rfl : N = g := by simpa [zsR, Value.ownBlock] using hg2
      simp only [Hc.reads, List.mem_cons, List.not_mem_nil, or_false] at hr
      rcases hr with rfl | rfl | rfl | rfl | rfl
      · simp [mnR, Value.ownBlock] at hg1
      · have := (b0 _ hg1).2; omega
      · have := (b1 _ hg1).2; omega
      · have := (b2 _ hg1).2; omega
      · have := (b3 _ hg1).2; omega
    · cases hg2
    · cases hg2
  · simp only [Hc.rows, List.map_nil, List.mem_cons, List.not_mem_nil, or_false] at hr
    rcases hr with rfl | rfl | rfl
    · obtain rfl : N = g := by simpa [zsR, Value.ownBlock] using hg
      exact ⟨by omega, by omega⟩
    · cases hg
    · cases hg
  · simp only [Hc.reads, List.mem_cons, List.not_mem_nil, or_false] at hr
    rcases hr with rfl | rfl | rfl | rfl | rfl
    · have : N + 1 = G := by simpa [mnR, Value.ownBlock] using e
      omega
    · exact n0.1 e
    · exact n0.2 e
    · exact n1.1 e
    · exact n1.2 e
  · have e : g < G := e
    simp only [Hc.reads, List.mem_cons, List.not_mem_nil, or_false] at hr
    rcases hr with rfl | rfl | rfl | rfl | rfl
    · have : N + 1 = g := by simpa [mnR, Value.ownBlock] using hg
      omega
    · have := (b0 _ hg).1; omega
    · have := (b1 _ hg).1; omega
    · have := (b2 _ hg).1; omega
    · have := (b3 _ hg).1; omega
end Go.Proofs.YtkcaheebaicinaaGreatDoor
/- Systems in plain words: the pages that a small memory gives. No program in sight. -/
namespace Go.Proofs.YtkcaheebaicinaaGreatDoor
set_option linter.unusedVariables false
def btN (n : Nat) : Bt := ⟨[⟨0, n⟩], []⟩
theorem al_small : ∀ n ∈ List.range 12, (alN (newH (freeOf (btN (n + 1))) 16 0 1) (n + 1 - 7)).isSome = true ∧ (alN (newH (freeOf (btN (n + 1))) 16 0 1) (n + 1 - 7 + 1)).isSome = false := by decide +kernel
theorem btN_ok : ∀ n ∈ List.range 12, listOk (btN (n + 1)).m = true ∧ listOk (freeOf (btN (n + 1))) = true := by decide +kernel
/-- a new system, and a cache "xa" of objects of four words -/
def xaSy (h : Hp) : Sy := { newSy h 6 with cs := (newSy h 6).cs.set 2 ⟨[[107, 52], [120, 97]], 4, layN 4, layO 4, [], List.replicate h.cpus (-1)⟩ }
theorem xaSy_create (h : Hp) : (newSy h 6).create [120, 97] 4 = some (xaSy h) := rfl
theorem xaSy_none (h : Hp) : (newSy h 6).named [120, 97] = none := rfl
theorem xaSy_named (h : Hp) : (xaSy h).named [120, 97] = some 2 := rfl
theorem newSy_all' {h : Hp} (hk : HOk h) : ∀ j, j ≤ 6 → SOk (newSy h j)
  | 0, _ => newSy_ok hk
  | j + 1, hj => by
    obtain ⟨h1, h2, h3⟩ := newSy_step h (j := j) (by omega)
    have hz : 1 ≤ [1, 2, 4, 8, 16, 32].getD j 0 ∧ [1, 2, 4, 8, 16, 32].getD j 0 ≤ 64 := by
      obtain rfl | rfl | rfl | rfl | rfl | rfl : j = 0 ∨ j = 1 ∨ j = 2 ∨ j = 3 ∨ j = 4 ∨ j = 5 := by omega
      all_goals decide
    exact ((newSy_all' hk j (by omega)).create h3 hz h1 h2).1
theorem xaSy_ok {h : Hp} (hk : HOk h) : SOk (xaSy h) := ((newSy_all' hk 6 (Nat.le_refl _)).create (n := [120, 97]) (z := 4) (by decide) (by decide) (xaSy_none h) (xaSy_create h)).1
theorem xaSy_pf {h : Hp} (hc : h.cpus = 1) : Pf (xaSy h) 2 0 := ⟨_, rfl, rfl, by simp [hc], fun x hx => by simp at hx, fun x hx => by simp at hx, fun h => by omega⟩
theorem xaSy_names (h : Hp) : ∀ c ∈ (xaSy h).cs, c.ns.length ≤ 1000 := fun c hc => by
  rcases List.mem_or_eq_of_mem_set hc with h1 | rfl
  · unfold newSy at h1
    obtain ⟨k, _, rfl⟩ := List.mem_map.1 h1
    show [kN k].length ≤ 1000
    simp
  · show [[107, 52], [120, 97]].length ≤ 1000
    decide
/-- BulkAll in plain words -/
theorem bulk_law {n k : Nat} (h1 : 1 ≤ n) (h2 : n ≤ 12) : (k ≤ 4 * (n - 7) → ∃ t l, (xaSy (newH (freeOf (btN n)) 16 0 1)).bulk 2 0 k = some (t, l) ∧ SOk t ∧ l.length = k) ∧ (4 * (n - 7) < k → (xaSy (newH (freeOf (btN n)) 16 0 1)).bulk 2 0 k = none) := by
  obtain ⟨m, rfl⟩ : ∃ m, n = m + 1 := ⟨n - 1, by omega⟩
  have hm : m ∈ List.range 12 := List.mem_range.2 (by omega)
  obtain ⟨ha, hb⟩ := al_small m hm
  obtain ⟨_, hfr⟩ := btN_ok m hm
  obtain ⟨hk, _⟩ := newH_ok hfr (split := 16) (least := 0) (cpus := 1) (by decide) (by decide) (by decide) (by decide)
  have hc : (newH (freeOf (btN (m + 1))) 16 0 1).cpus = 1 := rfl
  obtain ⟨g, hg⟩ := Option.isSome_iff_exists.1 ha
  have hb' : alN (newH (freeOf (btN (m + 1))) 16 0 1) (m + 1 - 7 + 1) = none := by
    cases he : alN (newH (freeOf (btN (m + 1))) 16 0 1) (m + 1 - 7 + 1) with
    | none => rfl
    | some g => rw [he] at hb; cases hb
  constructor
  · intro hle
    obtain ⟨t, l, h3, h4, _, h5, _⟩ := bulk_pf (xaSy_ok hk) hc (xaSy_pf hc) (m := m + 1 - 7) ⟨g, hg⟩ k hle
    exact ⟨t, l, h3, h4, h5⟩
  · intro hlt
    exact bulk_pf_none (xaSy_ok hk) hc (xaSy_pf hc) (m := m + 1 - 7) ⟨g, hg⟩ hb' k hlt
end Go.Proofs.YtkcaheebaicinaaGreatDoor
