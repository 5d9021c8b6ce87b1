/- texts of this claim, joined. -/
import Derived.Test.YtcmpmobhongkiaaGreatDoorCM0
import Derived.Test.YtcmpmobhongkiaaGreatDoorCM13
import Derived.Test.YtcmpmobhongkiaaGreatDoorCM17
import Derived.Test.YtcmpmobhongkiaaGreatDoorCM19
import Derived.Test.YtcmpmobhongkiaaGreatDoorCM27
import Derived.Test.YtcmpmobhongkiaaGreatDoorCM28
import Derived.Test.YtcmpmobhongkiaaGreatDoorCM31
import Derived.Test.YtcmpmobhongkiaaGreatDoorCM5
import Derived.Deep.AppendLies
set_option linter.unusedVariables false
set_option linter.unusedSimpArgs false
namespace Go.Proofs.YtcmpmobhongkiaaGreatDoor
section
open Go.RowKit
section
variable {W W' W1 W2 : World} {G : Nat} {X Y : Nat → Prop} {s s' : Sy} {v v' : Sc}
theorem SS.QU (hs : SS W G X s v) {i : Nat} (hi : i < v.ys.length) {y : Cc} (hy : v.ys[i] = y) {l' : List (List UInt8)} {a' : Option Addr} {n' c' : Nat} (hown : W2.ownsRow 0 9 1 (.slice a' n' c') n' (flat encS l')) (hg : W.grownBy W2 (mQ y).v.ownBlock)
  (hl : ∀ k, (Value.slice a' n' c').ownBlock = some k → (mQ y).v.ownBlock = some k ∨ W.heap.size ≤ k) {gc : Nat} (hgc : v.a2 = some ⟨gc, 0, none⟩) :
  ∃ v', SS (W2.setCell ⟨gc, i * 6, none⟩ (.slice a' n' c')) G X (s.dU i { y.c with ns := l' }) v' ∧ Safe X W (W2.setCell ⟨gc, i * 6, none⟩ (.slice a' n' c')) ∧ v'.a2 = v.a2 := by
 subst hy
 have h := hs.Zj hi hown hg hl hgc
 exact ⟨_, h.1, h.2, rfl⟩
theorem SR.Vu (hs : SR W G X s v) {i : Nat} (hi : i < v.ys.length) {y : Cc} (hy : v.ys[i] = y) {gc : Nat} (hgc : v.a2 = some ⟨gc, 0, none⟩) : (mQ y).v.ownBlock ≠ some gc := fun e => by
 subst hy
 have h := (hs.FN hi).off (i := 1) (j := 2) (by simp) (by simp) (by decide) gc (by show (jR v).v.ownBlock = _; unfold jR; rw [hgc]; rfl)
 exact h e
end
end
section
open Go.RowKit
def LU (z : Zn) (a1 a2 : Option Addr) (n1 n2 c1 c2 : Nat) : Array Value := #[.int .i64 z.f, .int .i64 z.e, .slice a1 n1 c1, .slice a2 n2 c2]
structure lU (W : World) (Z B : Nat) (X : Nat → Prop) (a1 a2 : Option Addr) (n1 n2 c1 c2 : Nat) (z : Zn) : Prop where
 k : ∀ o, W.cell? ⟨B, o, none⟩ = (LU z a1 a2 n1 n2 c1 c2)[o]?
 fz : ∀ o, W.frozen? ⟨B, o, none⟩ = false
 own : fG W Z a1 a2 n1 n2 c1 c2 z
 lt : B < W.heap.size
 xs : ∀ k, X k → k < W.heap.size
 ne : ∀ g, X g → (Value.slice a1 n1 c1).ownBlock ≠ some g ∧ (Value.slice a2 n2 c2).ownBlock ≠ some g
section
variable {W W' : World} {Z B : Nat} {X : Nat → Prop} {a1 a2 : Option Addr} {n1 n2 c1 c2 : Nat} {z : Zn}
theorem lU.below (h : lU W Z B X a1 a2 n1 n2 c1 c2 z) (hb : Below W.heap.size W W') : lU W' Z B X a1 a2 n1 n2 c1 c2 z :=
 ⟨aC h.k h.lt hb, aJ h.fz h.lt hb, h.own.below hb, gI h.lt hb.size, fun k hk => gI (h.xs k hk) hb.size, h.ne⟩
theorem lU.cells (h : lU W Z B X a1 a2 n1 n2 c1 c2 z) : W.cell? ⟨B, 0, none⟩ = some (.int .i64 z.f) ∧ W.cell? ⟨B, 1, none⟩ = some (.int .i64 z.e) ∧ W.cell? ⟨B, 2, none⟩ = some (.slice a1 n1 c1) ∧ W.cell? ⟨B, 3, none⟩ = some (.slice a2 n2 c2) := ⟨h.k 0, h.k 1, h.k 2, h.k 3⟩
theorem lU.far (h : lU W Z B X a1 a2 n1 n2 c1 c2 z) {g : Nat} (hg : X g) (hne : B ≠ g) (i : Nat) (u : Value) : lU (W.setCell ⟨g, i, none⟩ u) Z B X a1 a2 n1 n2 c1 c2 z :=
 ⟨aA h.k hne i u, aH h.fz _ _, h.own.set (h.ne g hg) i u, by simpa using h.lt, fun k hk => by simpa using h.xs k hk, h.ne⟩
theorem lU.far4 (h : lU W Z B X a1 a2 n1 n2 c1 c2 z) {g : Nat} (hg : X g) (hne : B ≠ g) (u0 u1 u2 u3 : Value) : lU ((((W.setCell ⟨g, 0, none⟩ u0).setCell ⟨g, 1, none⟩ u1).setCell ⟨g, 2, none⟩ u2).setCell ⟨g, 3, none⟩ u3) Z B X a1 a2 n1 n2 c1 c2 z :=
 (((h.far hg hne 0 u0).far hg hne 1 u1).far hg hne 2 u2).far hg hne 3 u3
theorem lU.put (h : lU W Z B X a1 a2 n1 n2 c1 c2 z) (hB : X B) (hZ : Z ≤ W.heap.size) (hb : Below W.heap.size W W') {b1 b2 : Option Addr} {m1 m2 d1 d2 : Nat} {y : Zn} (ho : fG W' W.heap.size b1 b2 m1 m2 d1 d2 y) :
  lU ((((W'.setCell ⟨B, 0, none⟩ (.int .i64 y.f)).setCell ⟨B, 1, none⟩ (.int .i64 y.e)).setCell ⟨B, 2, none⟩ (.slice b1 m1 d1)).setCell ⟨B, 3, none⟩ (.slice b2 m2 d2)) Z B X b1 b2 m1 m2 d1 d2 y := by
 have h' := h.below hb
 have nn : ∀ g, X g → (Value.slice b1 m1 d1).ownBlock ≠ some g ∧ (Value.slice b2 m2 d2).ownBlock ≠ some g := fun g hg => ho.ne (.inl (h.xs g hg))
 have nB := nn B hB
 exact ⟨aG (aG (aG (aG h'.k 0 (.int .i64 y.f)) 1 (.int .i64 y.e)) 2 (.slice b1 m1 d1)) 3 (.slice b2 m2 d2), aH (aH (aH (aH h'.fz _ _) _ _) _ _) _ _, ((((ho.base hZ).set nB _ _).set nB _ _).set nB _ _).set nB _ _, by simpa using h'.lt, fun k hk => by simpa using h'.xs k hk, nn⟩
theorem lU.new (h : lU W Z B X a1 a2 n1 n2 c1 c2 z) (hb : Below W.heap.size W W') {Y : Nat → Prop} (hY : ∀ k, Y k → X k ∨ (W.heap.size ≤ k ∧ k < W'.heap.size)) : lU W' Z B Y a1 a2 n1 n2 c1 c2 z := by
 have h' := h.below hb
 refine ⟨h'.k, h'.fz, h'.own, h'.lt, fun k hk => ?_, fun g hg => ?_⟩
 ·rcases hY k hk with h1 | h1
  ·exact h'.xs k h1
  ·exact h1.2
 ·rcases hY g hg with h1 | h1
  ·exact h'.ne g h1
  ·exact h.own.ne (.inr h1.1)
theorem Hg {base : Nat} (ho : fG W base a1 a2 n1 n2 c1 c2 z) (hZ : Z ≤ base) (hX : ∀ k, X k → (k < base ∨ W.heap.size ≤ k) ∧ k ≤ W.heap.size) : lU (W.alloc (.cells (LU z a1 a2 n1 n2 c1 c2) 102)) Z W.heap.size X a1 a2 n1 n2 c1 c2 z :=
 ⟨bC W _ _, eH W _ _, (ho.below (aB _ _)).base hZ, by simp, fun k hk => by have := (hX k hk).2; simp; omega, fun g hg => ho.ne (hX g hg).1⟩
end
theorem LV (W : World) {base : Nat} {e : TypeId} {size n : Nat} {xs : List Value} (hb : base ≤ W.heap.size) (hl : xs.length = n * size) (hn : n ≤ maxLen) : (W.alloc (.cells xs.toArray e)).ownsRow base e size (.slice (some ⟨W.heap.size, 0, none⟩) n n) n xs :=
 ⟨hl, .inr ⟨W.heap.size, n, xs.toArray, rfl, hb, heap_alloc_new W _, Nat.le_refl _, hn, by simp [hl], by simp [List.take_of_length_le, hl]⟩⟩
theorem Us {wx W5 : World} {G N : Nat} {z0 z1 : Zn} {x1 x2 y1 y2 : Option Addr} {m1 m2 d1 d2 k1 k2 e1 e2 least : Nat}
  (r1 : wx.ownsRow 0 102 4 (.slice (some ⟨N, 0, none⟩) 2 2) 2 (flat kK [⟨z0, x1, x2, m1, m2, d1, d2⟩, ⟨z1, y1, y2, k1, k2, e1, e2⟩]))
  (r2 : wx.ownsRow 0 3 1 (.slice (some ⟨N + 1, 0, none⟩) 2 2) 2 (flat fK [least, least]))
  (t0 : fG wx G x1 x2 m1 m2 d1 d2 z0) (t1 : fG wx G y1 y2 k1 k2 e1 e2 z1) (u0 : fG W5 G x1 x2 m1 m2 d1 d2 z0) (u1 : fG W5 G y1 y2 k1 k2 e1 e2 z1) (hs : W5.heap.size = N)
  (n0 : (Value.slice x1 m1 d1).ownBlock ≠ some G ∧ (Value.slice x2 m2 d2).ownBlock ≠ some G) (n1 : (Value.slice y1 k1 e1).ownBlock ≠ some G ∧ (Value.slice y2 k2 e2).ownBlock ≠ some G) (hG : G < N) (hx : N ≤ wx.heap.size) (h : Hp)
  (q0 : h.z0 = z0) (q1 : h.z1 = z1) (q2 : h.m0 = least) (q3 : h.m1 = least) (q4 : h.ls = []) (q5 : h.live = []) :
  lK wx G h ⟨some ⟨N, 0, none⟩, 2, some ⟨N + 1, 0, none⟩, 2, none, 0, none, 0, ⟨z0, x1, x2, m1, m2, d1, d2⟩, ⟨z1, y1, y2, k1, k2, e1, e2⟩, []⟩ := by
 have b0 := u0.o1.lt
 have b1 := u0.o2.lt
 have b2 := u1.o1.lt
 have b3 := u1.o2.lt
 refine ⟨⟨fun r hr => ?_, ?_⟩, fun r hr => ?_, fun r hr s hs' g hg1 hg2 => ?_, fun r hr g hg => ?_, fun r hr e => ?_, fun r hr g hg e => ?_, gI hG hx, Nat.lt_irrefl _, fun k hk => by have : k < G := hk; omega, q0.symm, q1.symm, q4.symm⟩
 ·simp only [Hc.rows, List.map_nil, List.mem_cons, List.not_mem_nil, or_false] at hr
  rcases hr with rfl | rfl | rfl
  ·exact r1
  ·exact ⟨rfl, .inl ⟨rfl, rfl⟩⟩
  ·unfold vC Rs.on; rw [q5]; exact ⟨rfl, .inl ⟨rfl, rfl⟩⟩
 ·simp only [Hc.rows, List.map_nil]
  refine List.Pairwise.cons (fun s hs' g hg1 hg2 => ?_) (List.Pairwise.cons (fun s hs' g hg1 hg2 => ?_) (List.Pairwise.cons (fun s hs' => by simp at hs') List.Pairwise.nil))
  ·simp only [List.mem_cons, List.not_mem_nil, or_false] at hs'
   rcases hs' with rfl | rfl <;> cases hg2
  ·cases hg1
 ·simp only [Hc.reads, List.mem_cons, List.not_mem_nil, or_false] at hr
  rcases hr with rfl | rfl | rfl | rfl | rfl
  ·unfold Tq Rs.on; rw [q2, q3]; exact r2
  ·exact own_base t0.o1 (Nat.zero_le _)
  ·exact own_base t0.o2 (Nat.zero_le _)
  ·exact own_base t1.o1 (Nat.zero_le _)
  ·exact own_base t1.o2 (Nat.zero_le _)
 ·simp only [Hc.rows, List.map_nil, List.mem_cons, List.not_mem_nil, or_false] at hs'
  rcases hs' with rfl | rfl | rfl
  ·obtain rfl : N = g := by simpa [wB, Value.ownBlock] using hg2
   simp only [Hc.reads, List.mem_cons, List.not_mem_nil, or_false] at hr
   rcases hr with rfl | rfl | rfl | rfl | rfl
   ·simp [Tq, Value.ownBlock] at hg1
   ·have := (b0 _ hg1).2; omega
   ·have := (b1 _ hg1).2; omega
   ·have := (b2 _ hg1).2; omega
   ·have := (b3 _ hg1).2; omega
  ·cases hg2
  ·cases hg2
 ·simp only [Hc.rows, List.map_nil, List.mem_cons, List.not_mem_nil, or_false] at hr
  rcases hr with rfl | rfl | rfl
  ·obtain rfl : N = g := by simpa [wB, Value.ownBlock] using hg
   exact ⟨by omega, by omega⟩
  ·cases hg
  ·cases hg
 ·simp only [Hc.reads, List.mem_cons, List.not_mem_nil, or_false] at hr
  rcases hr with rfl | rfl | rfl | rfl | rfl
  ·have : N + 1 = G := by simpa [Tq, Value.ownBlock] using e
   omega
  ·exact n0.1 e
  ·exact n0.2 e
  ·exact n1.1 e
  ·exact n1.2 e
 ·have e : g < G := e
  simp only [Hc.reads, List.mem_cons, List.not_mem_nil, or_false] at hr
  rcases hr with rfl | rfl | rfl | rfl | rfl
  ·have : N + 1 = g := by simpa [Tq, Value.ownBlock] using hg
   omega
  ·have := (b0 _ hg).1; omega
  ·have := (b1 _ hg).1; omega
  ·have := (b2 _ hg).1; omega
  ·have := (b3 _ hg).1; omega
end
section
open Go.RowKit

set_option maxHeartbeats 8000000 in
set_option maxRecDepth 100000 in
theorem Ut (a : Option Addr) (n cap : Nat) (l : List Rg) (split least aF : Nat) (w : World) (hn : l.length = n) (hr : Row w a (flat fJ l)) (hl : dB l = true) (h1 : split ≤ 256) (h2 : split % 16 = 0) (h3 : least ≤ 256) (h4 : 1 ≤ aF ∧ aF ≤ 4) :
  Calls Tryz.prog 57 #[.slice a n cap, .int .i64 split, .int .i64 least, .int .i64 aF] w fun ev w' => ∃ c' : Hc, ev = .returned (.tuple #[.agg (c'.vals (newH l split least aF)), .int .i64 0]) ∧ lK w' w.heap.size (newH l split least aF) c' ∧ Below w.heap.size w w' := by
 obtain ⟨K8, F8, hsz, hbw⟩ := boxes1 w #[.slice none 0 0, .slice none 0 0, .int .i64 0, .slice none 0 0, .slice none 0 0] 44
 have aHs := tZ hl
 have HL := gO hl
 have HR := gO (hr.below hbw)
 have HRW := gO hr
 have HB1 := gO hbw
 clear hr hbw
 go_enter Tryz.func57, Tryz.ntmps57
 go_upto_region 1 with fail
 generalize w.alloc (.cells #[.slice none 0 0, .slice none 0 0, .int .i64 0, .slice none 0 0, .slice none 0 0] 44) = w1 at *
 go_wp2_with fail
 refine (vV a none n 0 cap 0 l [] w1 hn rfl (by omega) (by omega) HR.out (Row.nil _ _) (o8 HL.out) (by simp) HL.out (by decide)).mono ?_
 rintro ev w2 ⟨rfl, hb2⟩
 have K8a := aC K8 hsz hb2
 have F8a := aJ F8 hsz hb2
 have HR2 := gO (HR.out.below hb2)
 have HB2 := gO (Below.step HB1.out hb2)
 have hsz2 : w.heap.size < w2.heap.size := gI hsz hb2.size
 clear K8 F8 HR HB1 hb2 hsz
 go_wp2_with fail
 refine (IJ 0 split (split / 8) w2 (Nat.zero_le _) h1 rfl h2 (by omega)).mono ?_
 rintro ev w3 ⟨a2, c2, rfl, hz3, hb3⟩
 have hX3 : ∀ k, (k = w.heap.size ∨ k = w3.heap.size) → (k < w2.heap.size ∨ w3.heap.size ≤ k) ∧ k ≤ w3.heap.size := fun k hk => by have := hb3.size; omega
 have HZ := gO (Hg (Z := w.heap.size) hz3 (gR hsz2) hX3)
 unfold LU at HZ
 have K8b := aC K8a hsz2 hb3
 have F8b := aJ F8a hsz2 hb3
 have HR3 := gO (HR2.out.below hb3)
 have HB3 := gO (Below.step HB2.out hb3)
 have hsz3 : w.heap.size < w3.heap.size := gI hsz2 hb3.size
 clear hX3
 go_upto_region 4 with fail
 have hb4 := aB w3 (.cells #[.int .i64 (0 : Nat), .int .i64 (split : Int), .slice none 0 0, .slice a2 (split / 8) c2] 102)
 have K8c := aC K8b hsz3 hb4
 have F8c := aJ F8b hsz3 hb4
 have HR4 := gO (HR3.out.below hb4)
 have HB4 := gO (Below.step HB3.out hb4)
 have oH : w.heap.size < (w3.alloc (.cells #[.int .i64 (0 : Nat), .int .i64 (split : Int), .slice none 0 0, .slice a2 (split / 8) c2] 102)).heap.size := gI hsz3 hb4.size
 have hwB : w.heap.size < w3.heap.size := hsz3
 obtain ⟨B10, Xz⟩ : ∃ B, w3.heap.size = B := ⟨_, rfl⟩
 rw [Xz] at HZ hwB ⊢
 clear HR3 HB3 HR2 HB2 K8a F8a K8b F8b hsz2 hsz3 hb4 hz3 hb3
 change Hid (lU (w3.alloc (.cells #[.int .i64 (0 : Nat), .int .i64 (split : Int), .slice none 0 0, .slice a2 (split / 8) c2] 102)) _ _ _ _ _ _ _ _ _ _) at HZ
 rw [show (Value.int .i64 0) = .int .i64 ((0 : Nat) : Int) from rfl]
 generalize w3.alloc (.cells #[.int .i64 (0 : Nat), .int .i64 (split : Int), .slice none 0 0, .slice a2 (split / 8) c2] 102) = w4 at *
 go_wp2_with fail
 refine (IJ split 256 ((256 - split) / 8) w4 h1 (Nat.le_refl _) h2 rfl rfl).mono ?_
 rintro ev w5 ⟨a3, c3, rfl, hz5, hb5⟩
 have hX5 : ∀ k, (k = w.heap.size ∨ k = B10 ∨ k = w5.heap.size) → (k < w4.heap.size ∨ w5.heap.size ≤ k) ∧ k ≤ w5.heap.size := fun k hk => by have := hb5.size; have := HZ.out.lt; omega
 have HY := gO (Hg (Z := w.heap.size) hz5 (gR oH) hX5)
 unfold LU at HY
 have hb6 := aB w5 (.cells #[.int .i64 (split : Int), .int .i64 (256 : Nat), .slice none 0 0, .slice a3 ((256 - split) / 8) c3] 102)
 have JJ := Below.step hb5 hb6
 have K8d := aC K8c oH JJ
 have F8d := aJ F8c oH JJ
 have HR6 := gO (HR4.out.below JJ)
 have HB6 := gO (Below.step HB4.out JJ)
 have HZ6 := gO (HZ.out.new (Y := fun k => k = w.heap.size ∨ k = B10 ∨ k = w5.heap.size) JJ (fun k hk => by have := hb5.size; have := hb6.size; simp at this; rcases hk with h | h | h; exact .inl (.inl h); exact .inl (.inr h); exact .inr (by simp; omega)))
 have Np : w.heap.size < (w5.alloc (.cells #[.int .i64 (split : Int), .int .i64 (256 : Nat), .slice none 0 0, .slice a3 ((256 - split) / 8) c3] 102)).heap.size := gI oH JJ.size
 have VB : B10 < w5.heap.size := gI HZ.out.lt hb5.size
 have hx1 : decide ((least : Int) < 0) = false := decide_eq_false (by omega)
 have hx2 : decide ((256 : Int) < least) = false := decide_eq_false (by omega)
 have hx3 : decide ((aF : Int) < 1) = false := decide_eq_false (by omega)
 have hx4 : decide ((4 : Int) < aF) = false := decide_eq_false (by omega)
 have hx5 : decide (256 < least) = false := decide_eq_false (by omega)
 have hx6 : decide (aF < 1) = false := decide_eq_false (by omega)
 have hx7 : decide (4 < aF) = false := decide_eq_false (by omega)
 go_upto_region 5 with fail
 obtain ⟨B12, XA⟩ : ∃ B, w5.heap.size = B := ⟨_, rfl⟩
 rw [XA] at HY HZ6 VB ⊢
 clear HZ HR4 HB4 K8c F8c oH hb6 hz5 hb5 hX5 JJ
 change Hid (lU (w5.alloc (.cells #[.int .i64 (split : Int), .int .i64 (256 : Nat), .slice none 0 0, .slice a3 ((256 - split) / 8) c3] 102)) _ _ _ _ _ _ _ _ _ _) at HY
 rw [show (Value.int .i64 256) = .int .i64 ((256 : Nat) : Int) from rfl]
 generalize w5.alloc (.cells #[.int .i64 (split : Int), .int .i64 (256 : Nat), .slice none 0 0, .slice a3 ((256 - split) / 8) c3] 102) = w6 at *
 go_upto_region 7 with fail
 clear hx1 hx2 hx3 hx4 hx5 hx6 hx7 HR6
 go_wp2_with fail
 go_loopw [57] (fun s57 wr => ∃ (i : Nat) (x1 x2 : Option Addr) (m1 m2 d1 d2 : Nat) (y1 y2 : Option Addr) (k1 k2 e1 e2 : Nat), i ≤ n ∧ s57 = .int .i64 (i : Int) ∧ Hid (lU wr w.heap.size B10 (fun k => k = w.heap.size ∨ k = B10 ∨ k = B12) x1 x2 m1 m2 d1 d2 (eG split (l.take i)).1) ∧ Hid (lU wr w.heap.size B12 (fun k => k = w.heap.size ∨ k = B10 ∨ k = B12) y1 y2 k1 k2 e1 e2 (eG split (l.take i)).2) ∧ Hid (Below w.heap.size w wr) ∧ Hid (∀ o, wr.cell? ⟨w.heap.size, o, none⟩ = (#[.slice none 0 0, .slice none 0 0, .int .i64 0, .slice none 0 0, .slice none 0 0] : Array Value)[o]?) ∧ Hid (∀ o, wr.frozen? ⟨w.heap.size, o, none⟩ = false)) (fun s57 _ => n - (intOf s57).toNat)
 case atStart => exact ⟨0, _, _, _, _, _, _, _, _, _, _, _, _, Nat.zero_le _, rfl, HZ6, HY, HB6, K8d, F8d⟩
 case round =>
  obtain ⟨i, x1, x2, m1, m2, d1, d2, y1, y2, k1, k2, e1, e2, hi, rfl, SK, VD, lM, Uu, VE⟩ := hrel
  clear HZ6 HY HB6 K8d F8d Np
  by_cases hlt : i < n
  ·have hil : i < l.length := by omega
   have hlt2 : (i : Int) < n := by omega
   obtain ⟨b, off, ha, hb, hc⟩ := aN iR (by decide) (HRW.out.below lM.out) hil
   obtain rfl := ha
   have NS := gO (Oe HL.out h1 h2 hil)
   have OA := gO (nJ HL.out h1 h2 i (gR hil))
   have WU := gO (Ar split l i hil)
   obtain ⟨r, hrr⟩ : ∃ r, l[i] = r := ⟨_, rfl⟩
   rw [hrr] at hc NS WU
   have c0 := hc 0 _ rfl
   have c1 := hc 1 _ rfl
   simp only [vI, Nat.add_zero] at c0 c1
   rw [NS.out.f] at c0
   rw [NS.out.s] at c1
   have hfs := NS.out.fs
   have hs1 := NS.out.s1
   have hlo := NS.out.lo
   have aAK : r.lo split = min (r.f.toNat + r.s.toNat) split - r.f.toNat := rfl
   have Uw := gO aAK
   clear hc aAK hrr
   generalize eG split (l.take i) = z at *
   obtain ⟨F, hF⟩ : ∃ F, r.f.toNat = F := ⟨_, rfl⟩
   obtain ⟨S, hS⟩ : ∃ S, r.s.toNat = S := ⟨_, rfl⟩
   rw [hF] at c0 hfs Uw
   rw [hS] at c1 hfs hs1 hlo Uw
   have HF := gO hF
   have Xi := gO hS
   clear hF hS
   go_upto_region 11 with fail
   obtain ⟨M, hM⟩ : ∃ M : Int, (if (split : Int) < (F : Int) + (S : Int) then (split : Int) else (F : Int) + (S : Int)) = M := ⟨_, rfl⟩
   have hL : (if (F : Int) < M then M - (F : Int) else 0) = ((r.lo split : Nat) : Int) := by
    rw [Uw.out, ← hM]
    by_cases q1 : (split : Int) < (F : Int) + (S : Int)
    ·rw [if_pos q1]
     by_cases q2 : (F : Int) < (split : Int)
     ·rw [if_pos q2]; omega
     ·rw [if_neg q2]; omega
    ·rw [if_neg q1]
     rw [if_pos (by omega)]
     omega
   rw [hM, hL]
   clear hL hM
   have hbr := aB wr (.cells #[.int .i64 (F : Int), .int .i64 (S : Int)] 55)
   have HZ1 := gO (SK.out.below hbr)
   have HY1 := gO (VD.out.below hbr)
   have HB1 := gO (Below.step lM.out hbr)
   have hwr : w.heap.size < wr.heap.size := SK.out.xs _ (.inl rfl)
   have K81 := gO (aC Uu.out hwr hbr)
   have F81 := gO (aJ VE.out hwr hbr)
   have KR : Hid (∀ o, (wr.alloc (.cells #[.int .i64 (F : Int), .int .i64 (S : Int)] 55)).cell? ⟨wr.heap.size, o, none⟩ = (#[.int .i64 (F : Int), .int .i64 (S : Int)] : Array Value)[o]?) := bC wr _ _
   have Ri : wr.heap.size < (wr.alloc (.cells #[.int .i64 (F : Int), .int .i64 (S : Int)] 55)).heap.size := by simp
   have aDx : B10 < wr.heap.size ∧ B12 < wr.heap.size := ⟨SK.out.lt, VD.out.lt⟩
   clear SK VD lM Uu VE c0 c1 hb hbr
   obtain ⟨BR, hBR⟩ : ∃ BR, wr.heap.size = BR := ⟨_, rfl⟩
   rw [hBR] at KR Ri aDx hwr ⊢
   generalize wr.alloc (.cells #[.int .i64 (F : Int), .int .i64 (S : Int)] 55) = w7 at *
   obtain ⟨L, hLL⟩ : ∃ L, r.lo split = L := ⟨_, rfl⟩
   have TB := gO hLL
   rw [hLL] at hlo ⊢
   have hle := NS.out.le
   have hhi := NS.out.hi
   have hd0 := NS.out.d0
   have hd1 := NS.out.d1
   have hnx := NS.out.next
   unfold newStep at hnx
   rw [HF.out, hLL] at hle hhi hd0 hd1 hnx
   rw [Xi.out] at hhi hd1 hnx
   have HD0 := gO hd0
   have HD1 := gO hd1
   have aHu := gO hnx
   have yC : Hid (eG split (l.take (i + 1)) = (dO z.1 F L, dO z.2 (F + L) (S - L))) := by
    unfold Hid
    rw [WU.out]
    unfold newStep
    rw [HF.out, Xi.out, hLL]
   clear hd0 hd1 hnx hLL WU NS Uw TB
   go_upto_if 73 with fail
   go_cut [] (fun wx => ∃ (x1 x2 : Option Addr) (m1 m2 d1 d2 : Nat), Hid (lU wx w.heap.size B10 (fun k => k = w.heap.size ∨ k = B10 ∨ k = B12) x1 x2 m1 m2 d1 d2 (dO z.1 F L)) ∧ Hid (lU wx w.heap.size B12 (fun k => k = w.heap.size ∨ k = B10 ∨ k = B12) y1 y2 k1 k2 e1 e2 z.2) ∧ Hid (Below w.heap.size w wx) ∧ Hid (∀ o, wx.cell? ⟨w.heap.size, o, none⟩ = (#[.slice none 0 0, .slice none 0 0, .int .i64 0, .slice none 0 0, .slice none 0 0] : Array Value)[o]?) ∧ Hid (∀ o, wx.frozen? ⟨w.heap.size, o, none⟩ = false) ∧ Hid (∀ o, wx.cell? ⟨BR, o, none⟩ = (#[.int .i64 (F : Int), .int .i64 (S : Int)] : Array Value)[o]?) ∧ BR < wx.heap.size)
   case first =>
    by_cases hL0 : 0 < L
    ·have aDy : (0 : Int) < L := by omega
     have aAM := hle hL0
     obtain ⟨q0, q1, q2, q3⟩ := HZ1.out.cells
     have u0 := KR.out 0
     simp only [gB, gC] at u0
     go_wp2_with fail
     refine (Hf x1 x2 m1 m2 d1 d2 z.1 F L w7 HZ1.out.own.at OA.out.o0 HD0.out (by rw [OA.out.f0]; exact Nat.zero_le _) (by rw [OA.out.e0]; exact aAM)).mono ?_
     rintro ev w8 ⟨b1, b2, m8, e8, e9, rfl, ho8, hb8⟩
     have XB := (lF OA.out.o0 HD0.out (by rw [OA.out.f0]; exact Nat.zero_le _) (by rw [OA.out.e0]; exact aAM) L (Nat.le_refl _))
     have HZ2 := gO (HZ1.out.put (.inr (.inl rfl)) (by omega) hb8 ho8)
     rw [XB.2.1, XB.2.2.1] at HZ2
     have hne : B12 ≠ B10 := by omega
     have HY2 := gO (((HY1.out.below hb8).far4 (g := B10) (.inr (.inl rfl)) hne (.int .i64 z.1.f) (.int .i64 z.1.e) (.slice b1 m8 e8) (.slice b2 m2 e9)))
     have hB := HZ1.out.below hb8
     obtain ⟨p0, p1, p2, p3⟩ := hB.cells
     have g0 := hB.fz 0
     have g1 := hB.fz 1
     have g2 := hB.fz 2
     have g3 := hB.fz 3
     have Xz := hB.lt
     have hwne : w.heap.size ≠ B10 := by omega
     have ED : BR ≠ B10 := by omega
     have K82 := gO (aA (aA (aA (aA (aC K81.out (by omega) hb8) hwne 0 (.int .i64 z.1.f)) hwne 1 (.int .i64 z.1.e)) hwne 2 (.slice b1 m8 e8)) hwne 3 (.slice b2 m2 e9))
     have F82 := gO (aH (aH (aH (aH (aJ F81.out (by omega) hb8) ⟨B10, 0, none⟩ (.int .i64 z.1.f)) ⟨B10, 1, none⟩ (.int .i64 z.1.e)) ⟨B10, 2, none⟩ (.slice b1 m8 e8)) ⟨B10, 3, none⟩ (.slice b2 m2 e9))
     have KR2 := gO (aA (aA (aA (aA (aC KR.out Ri hb8) ED 0 (.int .i64 z.1.f)) ED 1 (.int .i64 z.1.e)) ED 2 (.slice b1 m8 e8)) ED 3 (.slice b2 m2 e9))
     have vX : w.heap.size ≤ B10 := gR hwB
     have HB2 := gO (Below.setCell (Below.setCell (Below.setCell (Below.setCell (Below.step HB1.out hb8) (show w.heap.size ≤ (⟨B10, 0, none⟩ : Addr).block from vX) (.int .i64 z.1.f)) (show w.heap.size ≤ (⟨B10, 1, none⟩ : Addr).block from vX) (.int .i64 z.1.e)) (show w.heap.size ≤ (⟨B10, 2, none⟩ : Addr).block from vX) (.slice b1 m8 e8)) (show w.heap.size ≤ (⟨B10, 3, none⟩ : Addr).block from vX) (.slice b2 m2 e9))
     have VF : BR < ((((w8.setCell ⟨B10, 0, none⟩ (.int .i64 z.1.f)).setCell ⟨B10, 1, none⟩ (.int .i64 z.1.e)).setCell ⟨B10, 2, none⟩ (.slice b1 m8 e8)).setCell ⟨B10, 3, none⟩ (.slice b2 m2 e9)).heap.size := by have := hb8.size; simp; omega
     clear q0 q1 q2 q3 u0 hB ho8 hb8 HZ1 HY1 HB1 K81 F81 KR XB
     go_wp2_with fail
     go_meet
     case rel => exact ⟨b1, b2, m8, m2, e8, e9, HZ2, HY2, HB2, K82, F82, KR2, VF⟩
    ·have aDy : ¬ (0 : Int) < L := by omega
     obtain rfl : L = 0 := by omega
     go_wp2_with fail
     go_meet
     case rel => exact ⟨x1, x2, m1, m2, d1, d2, HZ1, HY1, HB1, K81, F81, KR, Ri⟩
   case rest =>
    obtain ⟨x1, x2, m1, m2, d1, d2, HZ1, HY1, HB1, K81, F81, KR, Ri⟩ := hcut
    have u1 := KR.out 1
    simp only [gB, gC, gD] at u1
    go_upto_if 85 with fail
    clear hle
    by_cases hSL : L < S
    ·have aDz : (L : Int) < S := by omega
     have aAN := hhi hSL
     obtain ⟨q0, q1, q2, q3⟩ := HY1.out.cells
     have u0 := KR.out 0
     simp only [gB, gC] at u0
     have CX := Hf y1 y2 k1 k2 e1 e2 z.2 (F + L) (S - L) wc HY1.out.own.at OA.out.o1 HD1.out (by rw [OA.out.f1]; exact aAN) (by rw [OA.out.e1]; omega)
     rw [show ((F + L : Nat) : Int) = (F : Int) + L from by omega, show ((S - L : Nat) : Int) = (S : Int) - L from by omega] at CX
     go_wp2_with fail
     refine CX.mono ?_
     rintro ev w9 ⟨b1, b2, m8, e8, e9, rfl, ho8, hb8⟩
     have ho8 : fG w9 wc.heap.size b1 b2 m8 k2 e8 e9 (dO z.2 (F + L) (S - L)) := ho8
     have XB := (lF OA.out.o1 HD1.out (by rw [OA.out.f1]; exact aAN) (by rw [OA.out.e1]; omega) (S - L) (Nat.le_refl _))
     have HY2 := gO (HY1.out.put (.inr (.inr rfl)) (by omega) hb8 ho8)
     rw [XB.2.1, XB.2.2.1] at HY2
     have hne : B10 ≠ B12 := by omega
     have HZ2 := gO (((HZ1.out.below hb8).far4 (g := B12) (.inr (.inr rfl)) hne (.int .i64 z.2.f) (.int .i64 z.2.e) (.slice b1 m8 e8) (.slice b2 k2 e9)))
     have hB := HY1.out.below hb8
     obtain ⟨p0, p1, p2, p3⟩ := hB.cells
     have g0 := hB.fz 0
     have g1 := hB.fz 1
     have g2 := hB.fz 2
     have g3 := hB.fz 3
     have XA := hB.lt
     have hwne : w.heap.size ≠ B12 := by omega
     have ED : BR ≠ B12 := by omega
     have K82 := gO (aA (aA (aA (aA (aC K81.out (by omega) hb8) hwne 0 (.int .i64 z.2.f)) hwne 1 (.int .i64 z.2.e)) hwne 2 (.slice b1 m8 e8)) hwne 3 (.slice b2 k2 e9))
     have F82 := gO (aH (aH (aH (aH (aJ F81.out (by omega) hb8) ⟨B12, 0, none⟩ (.int .i64 z.2.f)) ⟨B12, 1, none⟩ (.int .i64 z.2.e)) ⟨B12, 2, none⟩ (.slice b1 m8 e8)) ⟨B12, 3, none⟩ (.slice b2 k2 e9))
     have KR2 := gO (aA (aA (aA (aA (aC KR.out Ri hb8) ED 0 (.int .i64 z.2.f)) ED 1 (.int .i64 z.2.e)) ED 2 (.slice b1 m8 e8)) ED 3 (.slice b2 k2 e9))
     have vX : w.heap.size ≤ B12 := gR (Nat.lt_trans hwB VB)
     have HB2 := gO (Below.setCell (Below.setCell (Below.setCell (Below.setCell (Below.step HB1.out hb8) (show w.heap.size ≤ (⟨B12, 0, none⟩ : Addr).block from vX) (.int .i64 z.2.f)) (show w.heap.size ≤ (⟨B12, 1, none⟩ : Addr).block from vX) (.int .i64 z.2.e)) (show w.heap.size ≤ (⟨B12, 2, none⟩ : Addr).block from vX) (.slice b1 m8 e8)) (show w.heap.size ≤ (⟨B12, 3, none⟩ : Addr).block from vX) (.slice b2 k2 e9))
     have VF : BR < ((((w9.setCell ⟨B12, 0, none⟩ (.int .i64 z.2.f)).setCell ⟨B12, 1, none⟩ (.int .i64 z.2.e)).setCell ⟨B12, 2, none⟩ (.slice b1 m8 e8)).setCell ⟨B12, 3, none⟩ (.slice b2 k2 e9)).heap.size := by have := hb8.size; simp; omega
     clear q0 q1 q2 q3 u0 hB ho8 hb8 HY1 HZ1 HB1 K81 F81 KR XB CX
     go_wp2_with fail
     go_roundw
     case rel => first | exact ⟨i + 1, x1, x2, m1, m2, d1, d2, b1, b2, m8, k2, e8, e9, by omega, by go_num, by rw [yC.out]; exact HZ2, by rw [yC.out]; exact HY2, HB2, K82, F82⟩ | ((repeat apply Exists.intro); exact ⟨⟨i + 1, x1, x2, m1, m2, d1, d2, b1, b2, m8, k2, e8, e9, by omega, by go_num, by rw [yC.out]; exact HZ2, by rw [yC.out]; exact HY2, HB2, K82, F82⟩, rfl⟩)
     case measure => simp [intOf]; omega
    ·have aDz : ¬ (L : Int) < S := by omega
     have aAO : S - L = 0 := by omega
     go_wp2_with fail
     go_roundw
     case rel => first | exact ⟨i + 1, x1, x2, m1, m2, d1, d2, y1, y2, k1, k2, e1, e2, by omega, by go_num, by rw [yC.out]; exact HZ1, by rw [yC.out]; rw [aAO]; exact HY1, HB1, K81, F81⟩ | ((repeat apply Exists.intro); exact ⟨⟨i + 1, x1, x2, m1, m2, d1, d2, y1, y2, k1, k2, e1, e2, by omega, by go_num, by rw [yC.out]; exact HZ1, by rw [yC.out]; rw [aAO]; exact HY1, HB1, K81, F81⟩, rfl⟩)
     case measure => simp [intOf]; omega
  ·obtain rfl : i = n := by omega
   have e : l.take i = l := List.take_of_length_le (by omega)
   rw [e] at SK VD
   obtain ⟨p0, p1, p2, p3⟩ := SK.out.cells
   obtain ⟨q0, q1, q2, q3⟩ := VD.out.cells
   have k80 := Uu.out 0
   have k81 := Uu.out 1
   have k82 := Uu.out 2
   have k83 := Uu.out 3
   have k84 := Uu.out 4
   have f80 := VE.out 0
   have f81 := VE.out 1
   have f82 := VE.out 2
   have f83 := VE.out 3
   have f84 := VE.out 4
   simp only [gB, gC, gD] at k80 k81 k82 k83 k84
   have Xz := SK.out.lt
   have XA := VD.out.lt
   have hwr : w.heap.size < wr.heap.size := SK.out.xs _ (.inl rfl)
   have Hl : B10 ≠ w.heap.size := by omega
   have Ho : B12 ≠ w.heap.size := by omega
   obtain ⟨V0, hV0⟩ : ∃ V : Value, V = .slice (some ⟨wr.heap.size, 0, none⟩) 2 2 := ⟨_, rfl⟩
   obtain ⟨V1, hV1⟩ : ∃ V : Value, V = .slice (some ⟨wr.heap.size + 1, 0, none⟩) 2 2 := ⟨_, rfl⟩
   have HZ5 := gO (((((SK.out.far (.inl rfl) Hl 0 V0).far (.inl rfl) Hl 1 V1).far (.inl rfl) Hl 2 (.int .i64 (aF : Int))).far (.inl rfl) Hl 3 (.slice none 0 0)).far (.inl rfl) Hl 4 (.slice none 0 0))
   have HY5 := gO (((((VD.out.far (.inl rfl) Ho 0 V0).far (.inl rfl) Ho 1 V1).far (.inl rfl) Ho 2 (.int .i64 (aF : Int))).far (.inl rfl) Ho 3 (.slice none 0 0)).far (.inl rfl) Ho 4 (.slice none 0 0))
   have K5 := gO (aG (aG (aG (aG (aG Uu.out 0 V0) 1 V1) 2 (.int .i64 (aF : Int))) 3 (.slice none 0 0)) 4 (.slice none 0 0))
   have HB5 := gO (Below.setCell (Below.setCell (Below.setCell (Below.setCell (Below.setCell lM.out (show w.heap.size ≤ (⟨w.heap.size, 0, none⟩ : Addr).block from Nat.le_refl _) V0) (show w.heap.size ≤ (⟨w.heap.size, 1, none⟩ : Addr).block from Nat.le_refl _) V1) (show w.heap.size ≤ (⟨w.heap.size, 2, none⟩ : Addr).block from Nat.le_refl _) (.int .i64 (aF : Int))) (show w.heap.size ≤ (⟨w.heap.size, 3, none⟩ : Addr).block from Nat.le_refl _) (.slice none 0 0)) (show w.heap.size ≤ (⟨w.heap.size, 4, none⟩ : Addr).block from Nat.le_refl _) (.slice none 0 0))
   have jK : Hid ((((((wr.setCell ⟨w.heap.size, 0, none⟩ V0).setCell ⟨w.heap.size, 1, none⟩ V1).setCell ⟨w.heap.size, 2, none⟩ (.int .i64 (aF : Int))).setCell ⟨w.heap.size, 3, none⟩ (.slice none 0 0)).setCell ⟨w.heap.size, 4, none⟩ (.slice none 0 0)).heap.size = wr.heap.size) := by simp [Hid]
   have HV0 := gO hV0
   have HV1 := gO hV1
   clear hV0 hV1 SK VD Uu VE lM
   go_wp2
   rw [← HV0.out, ← HV1.out]
   generalize ((((wr.setCell ⟨w.heap.size, 0, none⟩ V0).setCell ⟨w.heap.size, 1, none⟩ V1).setCell ⟨w.heap.size, 2, none⟩ (.int .i64 (aF : Int))).setCell ⟨w.heap.size, 3, none⟩ (.slice none 0 0)).setCell ⟨w.heap.size, 4, none⟩ (.slice none 0 0) = W5 at *
   have hs := jK.out
   have hb1 := aB W5 (.cells (flat kK [⟨(eG split l).1, x1, x2, m1, m2, d1, d2⟩, ⟨(eG split l).2, y1, y2, k1, k2, e1, e2⟩]).toArray 102)
   have hb2 := aB (W5.alloc (.cells (flat kK [⟨(eG split l).1, x1, x2, m1, m2, d1, d2⟩, ⟨(eG split l).2, y1, y2, k1, k2, e1, e2⟩]).toArray 102)) (.cells (flat fK [least, least]).toArray 3)
   have r1 : ((W5.alloc (.cells (flat kK [⟨(eG split l).1, x1, x2, m1, m2, d1, d2⟩, ⟨(eG split l).2, y1, y2, k1, k2, e1, e2⟩]).toArray 102)).alloc (.cells (flat fK [least, least]).toArray 3)).ownsRow 0 102 4 (.slice (some ⟨wr.heap.size, 0, none⟩) 2 2) 2 (flat kK [⟨(eG split l).1, x1, x2, m1, m2, d1, d2⟩, ⟨(eG split l).2, y1, y2, k1, k2, e1, e2⟩]) := by
    rw [← hs]
    exact own_below (LV W5 (Nat.zero_le _) rfl (by decide)) hb2 (Nat.le_refl _)
   have r2 : ((W5.alloc (.cells (flat kK [⟨(eG split l).1, x1, x2, m1, m2, d1, d2⟩, ⟨(eG split l).2, y1, y2, k1, k2, e1, e2⟩]).toArray 102)).alloc (.cells (flat fK [least, least]).toArray 3)).ownsRow 0 3 1 (.slice (some ⟨wr.heap.size + 1, 0, none⟩) 2 2) 2 (flat fK [least, least]) := by
    rw [show wr.heap.size + 1 = (W5.alloc (.cells (flat kK [⟨(eG split l).1, x1, x2, m1, m2, d1, d2⟩, ⟨(eG split l).2, y1, y2, k1, k2, e1, e2⟩]).toArray 102)).heap.size by simp [hs]]
    exact LV _ (Nat.zero_le _) rfl (by decide)
   have t0 := (HZ5.out.below hb1).below hb2
   have t1 := (HY5.out.below hb1).below hb2
   have t0l := HZ5.out.own
   have t1l := HY5.out.own
   have HRX := Us r1 r2 t0.own t1.own (G := w.heap.size) (N := wr.heap.size) t0l t1l hs (HZ5.out.ne _ (.inl rfl)) (HY5.out.ne _ (.inl rfl)) hwr (by have h9 := hb1.size; have h8 := hb2.size; omega) (newH l split least aF) rfl rfl rfl rfl rfl rfl 
   have KX := aC (aC K5.out (by omega) hb1) (by have := hb1.size; omega) hb2
   have lI := Below.step (Below.step HB5.out hb1) hb2
   have hwx : ∃ wx, wx = (W5.alloc (.cells (flat kK [⟨(eG split l).1, x1, x2, m1, m2, d1, d2⟩, ⟨(eG split l).2, y1, y2, k1, k2, e1, e2⟩]).toArray 102)).alloc (.cells (flat fK [least, least]).toArray 3) := ⟨_, rfl⟩
   obtain ⟨wx, hwx⟩ := hwx
   rw [← hwx] at HRX KX lI
   change wx = (W5.alloc (.cells #[.int .i64 ((eG split l).1.f : Int), .int .i64 ((eG split l).1.e : Int), .slice x1 m1 d1, .slice x2 m2 d2, .int .i64 ((eG split l).2.f : Int), .int .i64 ((eG split l).2.e : Int), .slice y1 k1 e1, .slice y2 k2 e2] 102)).alloc (.cells #[.int .i64 (least : Int), .int .i64 (least : Int)] 3) at hwx
   rw [← hwx]
   change ∀ o, wx.cell? ⟨w.heap.size, o, none⟩ = (#[V0, V1, .int .i64 (aF : Int), .slice none 0 0, .slice none 0 0] : Array Value)[o]? at KX
   clear hwx hb1 hb2
   refine bodyPost_ret (v := .tuple #[.agg #[V0, V1, .int .i64 (aF : Int), .slice none 0 0, .slice none 0 0], .int .i64 0]) (by simp [results, Tryz.results57, go_sem, KX]) rfl ⟨⟨some ⟨wr.heap.size, 0, none⟩, 2, some ⟨wr.heap.size + 1, 0, none⟩, 2, none, 0, none, 0, ⟨(eG split l).1, x1, x2, m1, m2, d1, d2⟩, ⟨(eG split l).2, y1, y2, k1, k2, e1, e2⟩, []⟩, ?_, HRX, lI⟩
   rw [HV0.out, HV1.out]
   rfl
end
section
open Go.RowKit
section
variable {W W' W1 W2 : World} {G : Nat} {X Y : Nat → Prop} {s s' : Sy} {v v' : Sc}
theorem SS.aDG (hs : SS W G X s v) (hb : Below W.heap.size W W1) {h' : Hp} {hc' : Hc} (hn : lK W1 W.heap.size h' hc') :
  SS (((((W1.setCell ⟨G, 1, none⟩ (.slice hc'.az 2 hc'.cz)).setCell ⟨G, 2, none⟩ (.slice hc'.am 2 hc'.cm)).setCell ⟨G, 3, none⟩ (.int .i64 (h'.aF : Int))).setCell ⟨G, 4, none⟩ (.slice hc'.al hc'.lc.length hc'.cl)).setCell ⟨G, 5, none⟩ (.slice hc'.av h'.live.length hc'.cv)) G X { s with h := h' } { v with hc := hc' } ∧ Safe X W (((((W1.setCell ⟨G, 1, none⟩ (.slice hc'.az 2 hc'.cz)).setCell ⟨G, 2, none⟩ (.slice hc'.am 2 hc'.cm)).setCell ⟨G, 3, none⟩ (.int .i64 (h'.aF : Int))).setCell ⟨G, 4, none⟩ (.slice hc'.al hc'.lc.length hc'.cl)).setCell ⟨G, 5, none⟩ (.slice hc'.av h'.live.length hc'.cv)) := by
 have h1 := hs.r.heap hb hn
 have K0 := aC hs.k hs.r.hr.gs hb
 have F0 := aJ hs.fz hs.r.hr.gs hb
 have K1 := aG K0 1 (.slice hc'.az 2 hc'.cz)
 have F1 := aH F0 ⟨G, 1, none⟩ (.slice hc'.az 2 hc'.cz)
 have K2 := aG K1 2 (.slice hc'.am 2 hc'.cm)
 have F2 := aH F1 ⟨G, 2, none⟩ (.slice hc'.am 2 hc'.cm)
 have K3 := aG K2 3 (.int .i64 (h'.aF : Int))
 have F3 := aH F2 ⟨G, 3, none⟩ (.int .i64 (h'.aF : Int))
 have K4 := aG K3 4 (.slice hc'.al hc'.lc.length hc'.cl)
 have F4 := aH F3 ⟨G, 4, none⟩ (.slice hc'.al hc'.lc.length hc'.cl)
 have K5 := aG K4 5 (.slice hc'.av h'.live.length hc'.cv)
 have F5 := aH F4 ⟨G, 5, none⟩ (.slice hc'.av h'.live.length hc'.cv)
 unfold Sc.vals at K5
 simp only [gE, gG, gH] at K5
 exact ⟨⟨(((((h1.lS 1 _).lS 2 _).lS 3 _).lS 4 _).lS 5 _), K5, F5⟩, ((((((Safe.fP hb).set hs.r.hr.xg 1 _).set hs.r.hr.xg 2 _).set hs.r.hr.xg 3 _).set hs.r.hr.xg 4 _).set hs.r.hr.xg 5 _)⟩
end
end
section
open Go.RowKit
attribute [local go_sem ↓] iO

theorem Ot (l : List (Cc)) : ∀ u ∈ flat bV l, u.oneCell' = true := by
 intro u hu
 simp only [flat, List.mem_flatMap] at hu
 obtain ⟨r, _, hr⟩ := hu
 simp only [bV, List.mem_cons, List.not_mem_nil, or_false] at hr
 rcases hr with rfl | rfl | rfl | rfl | rfl | rfl <;> rfl

theorem UJ (w : World) : (zeroValue 94).run Tryz.prog w = .ok (.agg #[.slice none 0 0, .int .i64 0, .int .i64 0, .int .i64 0, .slice none 0 0, .slice none 0 0]) w := by
 obtain ⟨i, hi, hz, hs, hb⟩ := info_parts yN
 simp [zeroValue, typeInfo, hi, hz]

set_option maxRecDepth 100000 in
theorem Ou (base : Nat) (a : Option Addr) (n c : Nat) (l : List Cc) (i : Nat) (w : World) (hown : w.ownsRow base 94 6 (.slice a n c) n (flat bV l)) (hi : i < n) (hn : n ≤ 1000) (hbase : base ≤ w.heap.size) :
  Calls Tryz.prog 79 #[.slice a n c, .int .i64 i, .int .i64 (i + 1)] w fun ev w' => ev = .returned (.slice a (n - 1) c) ∧ w'.ownsRow base 94 6 (.slice a (n - 1) c) (n - 1) (flat bV (l.eraseIdx i)) ∧ w.grownBy w' (Value.ownBlock (.slice a n c)) := by
 have hln : l.length = n := aZ cZ (by decide) hown
 have hnc := dF hown
 have hcm : c ≤ 9223372036854775807 := by
  rcases hown.2 with ⟨h', h2⟩ | ⟨g, cap, cur, h', _, _, _, hcm, _⟩
  ·simp at h'; omega
  ·have : c = cap := by simp at h'; exact h'.2
   unfold maxLen at hcm; omega
 have HO := gO hown
 clear hown
 have b0 : (i : Int) ≤ n := by omega
 have b1 : (i : Int) + 1 ≤ n := by omega
 have b2 : (i : Int) ≤ c := by omega
 have b3 : (i : Int) + 1 ≤ c := by omega
 have b4 : (n : Int) ≤ c := by omega
 have b5 : (0 : Int) ≤ (i : Int) + 1 := by omega
 have b6 : ((i : Int) + 1).toNat = i + 1 := by omega
 go_enter Tryz.func79, Tryz.ntmps79
 go_wp2_with fail
 go_still_tail 6, (by kernel_rfl)
 change wpList _ _ _ _ _ w.drew
 have HO2 := own_below HO.out ((Below.refl w.heap.size w).drew) (Nat.le_refl _)
 have hrow := (aY HO2).cut (i + 1) c 6 ((n - (i + 1)) * 6) (by omega)
 have hfl := flat_length cZ l
 rw [List.take_of_length_le (by rw [List.length_drop, hfl]; omega), dQ cZ] at hrow
 have hpre := fE HO2 (show i ≤ n by omega)
 rw [dP cZ] at hpre
 have HG : Hid (∀ w', w.drew.grownBy w' (Value.ownBlock (.slice a i c)) → w.grownBy w' (Value.ownBlock (.slice a n c))) := fun w' h => ⟨h.os, h.tape, h.output, h.size, fun k hk hne => h.block k hk (by cases a with | none => simp [Value.ownBlock] | some x => simpa [Value.ownBlock] using hne)⟩
 have hdw : w.drew.heap.size = w.heap.size := rfl
 clear HO2
 generalize w.drew = w1 at *
 refine kZ rfl _ _ 45 rfl base 94 (.agg #[.slice none 0 0, .int .i64 0, .int .i64 0, .int .i64 0, .slice none 0 0, .slice none 0 0]) 6 96 Tryz.underlying45 yN (by decide) a i c _ rfl hpre (bT a (i + 1) c 6) (n - (i + 1)) (c - (i + 1)) (flat bV (l.drop (i + 1))) rfl (by rw [flat_length cZ, List.length_drop, hln]) hrow (Ot _) (by omega) ?_
 intro w2 hown2 hg2
 have hG2 := HG.out w2 hg2
 rw [← aT, ← List.eraseIdx_eq_take_drop_succ] at hown2
 have e1 : i + (n - (i + 1)) = n - 1 := by omega
 rw [e1] at hown2 ⊢
 have HO3 := gO hown2
 have b7 : (n : Int) - 1 ≤ n := by omega
 have b8 : ((n - 1 : Nat) : Int) ≤ n := by omega
 have b9 : n - (n - 1) = 1 := by omega
 clear hown2 hg2 hrow hpre HO hfl
 obtain ⟨w3, Td, hown3, hg3⟩ := uO (P := Tryz.prog) 45 0 94 Tryz.underlying45 6 (.agg #[.slice none 0 0, .int .i64 0, .int .i64 0, .int .i64 0, .slice none 0 0, .slice none 0 0]) UJ rfl (by decide) base (n - 1) 1 c (c - (n - 1)) a _ HO3.out (by omega)
 have HO4 := gO hown3
 have HG4 : Hid (w.grownBy w3 (Value.ownBlock (.slice a n c))) := ⟨hg3.os.trans hG2.os, hg3.tape.trans hG2.tape, hg3.output.trans hG2.output, gQ hG2.size hg3.size, fun k hk hne => (hg3.block k (gI hk hG2.size) (by cases a with | none => simp [Value.ownBlock] | some x => simpa [Value.ownBlock] using hne)).trans (hG2.block k hk hne)⟩
 clear hown3 HO3 hG2 hg3
 go_wp2
 go_ret
 exact ⟨rfl, HO4.out, HG4.out⟩
end
end Go.Proofs.YtcmpmobhongkiaaGreatDoor
