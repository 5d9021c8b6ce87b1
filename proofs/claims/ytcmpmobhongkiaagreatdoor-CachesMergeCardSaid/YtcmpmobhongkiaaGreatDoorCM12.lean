/- texts of this claim, joined. -/
import Derived.Test.YtcmpmobhongkiaaGreatDoorCM0
import Derived.Test.YtcmpmobhongkiaaGreatDoorCM11
import Derived.Test.YtcmpmobhongkiaaGreatDoorCM9
set_option linter.unusedVariables false
set_option linter.unusedSimpArgs false
namespace Go.Proofs.YtcmpmobhongkiaaGreatDoor
section
open Go.RowKit

structure GInv (w W : World) (a1 a2 : Option Addr) (n1 n2 c1 c2 : Nat) (z : Zn) : Prop where
 k3 : ∀ i, W.cell? ⟨w.heap.size, i, none⟩ = (#[.int .i64 z.f, .int .i64 z.e, .slice a1 n1 c1, .slice a2 n2 c2] : Array Value)[i]?
 f3 : ∀ i, W.frozen? ⟨w.heap.size, i, none⟩ = false
 k6 : ∀ i, W.cell? ⟨w.heap.size + 1, i, none⟩ = (#[.int .i64 0, .int .i64 0, .slice none 0 0, .slice none 0 0] : Array Value)[i]?
 f6 : ∀ i, W.frozen? ⟨w.heap.size + 1, i, none⟩ = false
 own : fG W (w.heap.size + 2) a1 a2 n1 n2 c1 c2 z
 hi : w.heap.size + 2 ≤ W.heap.size
 bw : Below w.heap.size w W
theorem GInv.below {w W W' : World} {a1 a2 : Option Addr} {n1 n2 c1 c2 : Nat} {z : Zn} (h : GInv w W a1 a2 n1 n2 c1 c2 z) (hb : Below W.heap.size W W') : GInv w W' a1 a2 n1 n2 c1 c2 z := by
 have h2 := h.hi
 exact ⟨aC h.k3 (by omega) hb, aJ h.f3 (by omega) hb, aC h.k6 (by omega) hb, aJ h.f6 (by omega) hb, h.own.below hb, gQ h2 hb.size, Below.step h.bw hb⟩
theorem GInv.put {w W : World} {a1 a2 : Option Addr} {n1 n2 c1 c2 : Nat} {z : Zn} (h : GInv w W a1 a2 n1 n2 c1 c2 z) {b1 b2 : Option Addr} {m1 m2 d1 d2 : Nat} {y : Zn} (ho : fG W (w.heap.size + 2) b1 b2 m1 m2 d1 d2 y) :
  GInv w ((((W.setCell ⟨w.heap.size, 0, none⟩ (.int .i64 y.f)).setCell ⟨w.heap.size, 1, none⟩ (.int .i64 y.e)).setCell ⟨w.heap.size, 2, none⟩ (.slice b1 m1 d1)).setCell ⟨w.heap.size, 3, none⟩ (.slice b2 m2 d2)) b1 b2 m1 m2 d1 d2 y := by
 have h2 := h.hi
 have nn := ho.ne (g := w.heap.size) (.inl (by omega))
 exact ⟨aG (aG (aG (aG h.k3 0 _) 1 _) 2 _) 3 _, aH (aH (aH (aH h.f3 _ _) _ _) _ _) _ _, aA (aA (aA (aA h.k6 (by omega) _ _) (by omega) _ _) (by omega) _ _) (by omega) _ _, aH (aH (aH (aH h.f6 _ _) _ _) _ _) _ _, ((((ho.set nn _ _).set nn _ _).set nn _ _).set nn _ _), by simpa using h2, Below.setCell (Below.setCell (Below.setCell (Below.setCell h.bw (by simp only; omega) _) (by simp only; omega) _) (by simp only; omega) _) (by simp only; omega) _⟩
end
section
open Go.RowKit

theorem zB {f e a t o : Nat} {l : List Bk} (he : e % 16 = 0) (ht : t < 3) (hl : oM f e l) (hb : bY f e a (o + 1)) (hd : ∀ x ∈ l, apartB a (o + 1) x) :
  oM f e (bG l ⟨a + 2 ^ o, o, t⟩) ∧ bY f e a o ∧ ∀ x ∈ bG l ⟨a + 2 ^ o, o, t⟩, apartB a o x := by
 obtain ⟨h1, h2, h3⟩ := BI he hb
 have hp := dM o
 have hps : 2 ^ (o + 1) = 2 ^ o + 2 ^ o := by rw [Nat.pow_succ]; omega
 refine ⟨hl.put h2 ht (fun x hx => ?_) (fun _ x hx hxo => ?_), h1, fun x hx => ?_⟩
 ·have := hd x hx
  unfold apartB Bk.fin at *
  rw [hps] at this
  simp only
  omega
 ·simp only at hxo ⊢
  rw [h3]
  have := hd x hx
  have hpx := dM x.o
  unfold apartB Bk.fin at this
  omega
 ·unfold bG at hx
  rw [List.mem_append, List.mem_cons] at hx
  rcases hx with hx | rfl | hx
  ·have := hd x (List.mem_of_mem_take hx)
   unfold apartB at *
   omega
  ·unfold apartB; simp only; omega
  ·have := hd x (List.mem_of_mem_drop hx)
   unfold apartB at *
   omega
theorem uU {a o : Nat} {x : Bk} (h : apartB a o x) : x.a ≠ a := by
 unfold apartB Bk.fin at h
 have := dM o
 have := dM x.o
 omega

def uV : Option Nat → Int
 | none => -1
 | some i => i
theorem wI (l : List Bk) (o t : Nat) : bZ (fun b => decide (b.o = o ∧ b.t = t)) l = uV (lN l o t) := by
 unfold bZ lN uV
 cases l.findIdx? fun b => decide (b.o = o ∧ b.t = t) <;> rfl

structure yK (w : World) : Prop where
 sz : 1 < w.heap.size
 c : ∀ i v, (#[.int .i64 2, .int .i64 1, .int .i64 2, .int .i64 0, .int .i64 0, .int .i64 1] : Array Value)[i]? = some v → w.cell? ⟨1, i, none⟩ = some v
theorem yK.mono {w w' : World} (h : yK w) {B : Nat} (hb : Below B w w') (hB : w.heap.size ≤ B) : yK w' :=
 ⟨gI h.sz hb.size, fun i v hv => ((hb.mono hB).cell (p := ⟨1, i, none⟩) h.sz).trans (h.c i v hv)⟩
theorem yK.at {w : World} (h : yK w) {t : Nat} (ht : t < 3) : w.cell? ⟨1, t * 2, none⟩ = some (.int .i64 (oth1 t : Int)) ∧ w.cell? ⟨1, t * 2 + 1, none⟩ = some (.int .i64 (oth2 t : Int)) := by
 obtain rfl | rfl | rfl : t = 0 ∨ t = 1 ∨ t = 2 := by omega
 ·exact ⟨h.c 0 _ rfl, h.c 1 _ rfl⟩
 ·exact ⟨h.c 2 _ rfl, h.c 3 _ rfl⟩
 ·exact ⟨h.c 4 _ rfl, h.c 5 _ rfl⟩

theorem Fh {w : World} {B base n c : Nat} {a : Option Addr} {l : List Bk} {x y u : Value} (hK : ∀ i, w.cell? ⟨B, i, none⟩ = (#[x, y, u] : Array Value)[i]?) (hown : w.ownsRow base 63 3 (.slice a n c) n (flat aO l)) (hl : 0 < l.length) (hx : ∀ b ∈ l, x ≠ .int .i64 (b.a : Int)) : (Value.slice a n c).ownBlock ≠ some B := by
 intro e
 have hfl := flat_length aI l
 obtain ⟨g, ha, _, _, hc, _⟩ := lJ hown 0 (by omega)
 subst ha
 obtain rfl : g = B := by simpa [Value.ownBlock] using e
 cases l with
 | nil => simp at hl
 | cons b l =>
  have h0 := hK 0
  rw [h0] at hc
  have h1 : x = (flat aO (b :: l))[0] := by simpa using hc
  exact hx b (by simp) h1

theorem GInv.Py {w W W' : World} {a1 a2 : Option Addr} {n1 n2 c1 c2 : Nat} {z y : Zn} (h : GInv w W a1 a2 n1 n2 c1 c2 z) (ho : fG W' (w.heap.size + 2) a1 a2 n1 n2 c1 c2 y) (hb : Below (w.heap.size + 2) W W') (hf : y.f = z.f) (he : y.e = z.e) : GInv w W' a1 a2 n1 n2 c1 c2 y := by
 have h2 := h.hi
 refine ⟨fun i => ?_, fun i => (hb.frozen (p := ⟨w.heap.size, i, none⟩) (by show w.heap.size < _; omega)).trans (h.f3 i), fun i => (hb.cell (p := ⟨w.heap.size + 1, i, none⟩) (by show w.heap.size + 1 < _; omega)).trans (h.k6 i), fun i => (hb.frozen (p := ⟨w.heap.size + 1, i, none⟩) (by show w.heap.size + 1 < _; omega)).trans (h.f6 i), ho, gQ h2 hb.size, h.bw.trans (hb.mono (by omega))⟩
 rw [hf, he]
 exact (hb.cell (p := ⟨w.heap.size, i, none⟩) (by show w.heap.size < _; omega)).trans (h.k3 i)

structure oD (w W : World) (B : Nat) (a1 a2 : Option Addr) (n1 n2 c1 c2 : Nat) (z : Zn) (a o t : Nat) : Prop where
 g : GInv w W a1 a2 n1 n2 c1 c2 z
 k15 : ∀ i, W.cell? ⟨B, i, none⟩ = (#[.int .i64 a, .int .i64 o, .int .i64 t] : Array Value)[i]?
 f15 : ∀ i, W.frozen? ⟨B, i, none⟩ = false
 lo : w.heap.size + 2 ≤ B
 hB : B < W.heap.size
 nb : (Value.slice a1 n1 c1).ownBlock ≠ some B ∧ (Value.slice a2 n2 c2).ownBlock ≠ some B
section
variable {w W W' : World} {B : Nat} {a1 a2 : Option Addr} {n1 n2 c1 c2 : Nat} {z : Zn} {a o t : Nat}
theorem oD.below (h : oD w W B a1 a2 n1 n2 c1 c2 z a o t) (hb : Below W.heap.size W W') : oD w W' B a1 a2 n1 n2 c1 c2 z a o t :=
 ⟨h.g.below hb, aC h.k15 h.hB hb, aJ h.f15 h.hB hb, h.lo, gI h.hB hb.size, h.nb⟩
theorem oD.put15 (h : oD w W B a1 a2 n1 n2 c1 c2 z a o t) (i : Nat) (u : Int) {a' o' t' : Nat} (he : (#[.int .i64 a, .int .i64 o, .int .i64 t] : Array Value).setIfInBounds i (.int .i64 u) = #[.int .i64 a', .int .i64 o', .int .i64 t']) : oD w (W.setCell ⟨B, i, none⟩ (.int .i64 u)) B a1 a2 n1 n2 c1 c2 z a' o' t' := by
 have h1 := h.lo
 have h2 := h.hB
 exact ⟨⟨aA h.g.k3 (by omega) _ _, aH h.g.f3 _ _, aA h.g.k6 (by omega) _ _, aH h.g.f6 _ _, h.g.own.set h.nb _ _, by simpa using h.g.hi, h.g.bw.setCell (by simp only; omega) _⟩, he ▸ aG h.k15 i _, aH h.f15 _ _, h1, by simpa using h2, h.nb⟩
theorem oD.wJ (h : oD w W B a1 a2 n1 n2 c1 c2 z a o t) {G : Nat} (h1 : w.heap.size + 2 ≤ G) (h2 : G ≠ B) (h3 : (Value.slice a1 n1 c1).ownBlock ≠ some G ∧ (Value.slice a2 n2 c2).ownBlock ≠ some G) (i : Nat) (u : Value) : oD w (W.setCell ⟨G, i, none⟩ u) B a1 a2 n1 n2 c1 c2 z a o t :=
 ⟨⟨aA h.g.k3 (by omega) _ _, aH h.g.f3 _ _, aA h.g.k6 (by omega) _ _, aH h.g.f6 _ _, h.g.own.set h3 _ _, by simpa using h.g.hi, h.g.bw.setCell (by simp only; omega) _⟩, aA h.k15 (Ne.symm h2) _ _, aH h.f15 _ _, h.lo, by simpa using h.hB, h.nb⟩
structure WE (w W : World) (B : Nat) (a1 a2 : Option Addr) (n1 n2 c1 c2 : Nat) (z : Zn) (a o t : Nat) (a1' : Option Addr) (n1' c1' : Nat) (l' : List Bk) : Prop where
 k3 : ∀ i, W.cell? ⟨w.heap.size, i, none⟩ = (#[.int .i64 z.f, .int .i64 z.e, .slice a1 n1 c1, .slice a2 n2 c2] : Array Value)[i]?
 f3 : ∀ i, W.frozen? ⟨w.heap.size, i, none⟩ = false
 k6 : ∀ i, W.cell? ⟨w.heap.size + 1, i, none⟩ = (#[.int .i64 0, .int .i64 0, .slice none 0 0, .slice none 0 0] : Array Value)[i]?
 f6 : ∀ i, W.frozen? ⟨w.heap.size + 1, i, none⟩ = false
 own : fG W (w.heap.size + 2) a1' a2 n1' n2 c1' c2 { z with l := l' }
 hi : w.heap.size + 2 ≤ W.heap.size
 bw : Below w.heap.size w W
 k15 : ∀ i, W.cell? ⟨B, i, none⟩ = (#[.int .i64 a, .int .i64 o, .int .i64 t] : Array Value)[i]?
 f15 : ∀ i, W.frozen? ⟨B, i, none⟩ = false
 lo : w.heap.size + 2 ≤ B
 hB : B < W.heap.size
 nb : (Value.slice a1' n1' c1').ownBlock ≠ some B ∧ (Value.slice a2 n2 c2).ownBlock ≠ some B
theorem oD.grown (h : oD w W B a1 a2 n1 n2 c1 c2 z a o t) (hg : W.grownBy W' (Value.ownBlock (.slice a1 n1 c1))) {a1' : Option Addr} {n1' c1' : Nat} {l' : List Bk} (hl : l'.length = n1') (ho : W'.ownsRow (w.heap.size + 2) 63 3 (.slice a1' n1' c1') n1' (flat aO l')) (hn : a1' = a1 ∨ (0 < l'.length ∧ ∀ b ∈ l', b.a ≠ a)) : WE w W' B a1 a2 n1 n2 c1 c2 z a o t a1' n1' c1' l' := by
 have h1 := h.lo
 have h2 := h.hB
 have h3 := h.g.hi
 have m3 := (h.g.own.ne (g := w.heap.size) (.inl (by omega))).1
 have m6 := (h.g.own.ne (g := w.heap.size + 1) (.inl (by omega))).1
 have YS : ∀ i, W'.cell? ⟨B, i, none⟩ = (#[.int .i64 a, .int .i64 o, .int .i64 t] : Array Value)[i]? := bH h.k15 h2 hg (fun e => h.nb.1 e.symm)
 refine ⟨bH h.g.k3 (by omega) hg (fun e => m3 e.symm), bI h.g.f3 (by omega) hg (fun e => m3 e.symm), bH h.g.k6 (by omega) hg (fun e => m6 e.symm), bI h.g.f6 (by omega) hg (fun e => m6 e.symm), ⟨hl, h.g.own.l2, ho, iF h.g.own.o2 hg (fun k hk e => uQ h.g.own.o2 h.g.own.o1 (by decide) k hk e)⟩, gQ h3 hg.size, ?_, YS, bI h.f15 h2 hg (fun e => h.nb.1 e.symm), h1, gI h2 hg.size, ?_, h.nb.2⟩
 ·exact h.g.bw.grown hg h.g.bw.size (fun k hk => by have := (h.g.own.o1.lt k hk).1; omega)
 ·rcases hn with rfl | ⟨hn1, hn2⟩
  ·have := h.nb.1
   cases a1' with
   | none => simp [Value.ownBlock]
   | some x => simpa [Value.ownBlock] using this
  ·exact Fh YS ho hn1 (fun b hb e => hn2 b hb (by simp only [Value.int.injEq] at e; omega))
theorem WE.put3 {a1' : Option Addr} {n1' c1' : Nat} {l' : List Bk} (h : WE w W B a1 a2 n1 n2 c1 c2 z a o t a1' n1' c1' l') : oD w (W.setCell ⟨w.heap.size, 2, none⟩ (.slice a1' n1' c1')) B a1' a2 n1' n2 c1' c2 { z with l := l' } a o t := by
 have h1 := h.lo
 have h2 := h.hB
 have h3 := h.hi
 exact ⟨⟨aG h.k3 2 _, aH h.f3 _ _, aA h.k6 (by omega) _ _, aH h.f6 _ _, h.own.set (h.own.ne (.inl (by omega))) _ _, by simpa using h3, h.bw.setCell (Nat.le_refl _) _⟩, aA h.k15 (by omega) _ _, aH h.f15 _ _, h1, by simpa using h2, h.nb⟩
end
end
end Go.Proofs.YtcmpmobhongkiaaGreatDoor
