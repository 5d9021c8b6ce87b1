/- The state of paddockkeep.zoned. -/
import Derived.Test.YtbkajbjhffdlfaaDoorBlk19
import Derived.Test.YtbkajbjhffdlfaaDoorRaws
import Derived.Deep.AppendLies
namespace Go.Proofs.YtbkajbjhffdlfaaDoor
open Go.RowKit
set_option linter.unusedVariables false

/-- B: the zone's box -/
structure ZS (w W : World) (B : Nat) (a1 a2 : Option Addr) (n1 n2 c1 c2 : Nat) (z : Zn) (aw : Option Addr) (na ca : Nat) (away : List Bk) : Prop where
  k4 : ∀ i, W.cell? ⟨w.heap.size, i, none⟩ = (#[.int .i64 0, .int .i64 0, .slice none 0 0, .slice none 0 0] : Array Value)[i]?
  f4 : ∀ i, W.frozen? ⟨w.heap.size, i, none⟩ = false
  k7 : ∀ i, W.cell? ⟨B, i, none⟩ = (#[.int .i64 z.f, .int .i64 z.e, .slice a1 n1 c1, .slice a2 n2 c2] : Array Value)[i]?
  f7 : ∀ i, W.frozen? ⟨B, i, none⟩ = false
  own : ZOwn W (B + 1) a1 a2 n1 n2 c1 c2 z
  oa : W.ownsRow (B + 1) 36 3 (.slice aw na ca) na (flat encBk away)
  ap : ∀ k, (Value.slice aw na ca).ownBlock = some k → (Value.slice a1 n1 c1).ownBlock ≠ some k
  lo : w.heap.size < B
  hi : B < W.heap.size
  bw : Below w.heap.size w W
section
variable {w W W' : World} {B : Nat} {a1 a2 : Option Addr} {n1 n2 c1 c2 : Nat} {z : Zn} {aw : Option Addr} {na ca : Nat} {away : List Bk}
theorem ZS.below (h : ZS w W B a1 a2 n1 n2 c1 c2 z aw na ca away) (hb : Below W.heap.size W W') : ZS w W' B a1 a2 n1 n2 c1 c2 z aw na ca away := by
  have h1 := h.lo
  have h2 := h.hi
  exact ⟨box_step h.k4 (by omega) hb, frz_step h.f4 (by omega) hb, box_step h.k7 h2 hb, frz_step h.f7 h2 hb, h.own.below hb, own_below h.oa hb (Nat.le_refl _), h.ap, h1, Nat.lt_of_lt_of_le h2 hb.size, Below.step h.bw hb⟩
/-- a cell of a new block is written -/
theorem ZS.putFar (h : ZS w W B a1 a2 n1 n2 c1 c2 z aw na ca away) {G : Nat} (h1 : B < G) (h3 : (Value.slice a1 n1 c1).ownBlock ≠ some G ∧ (Value.slice a2 n2 c2).ownBlock ≠ some G) (h4 : (Value.slice aw na ca).ownBlock ≠ some G) (i : Nat) (u : Value) : ZS w (W.setCell ⟨G, i, none⟩ u) B a1 a2 n1 n2 c1 c2 z aw na ca away := by
  have h1' := h.lo
  exact ⟨box_set_other h.k4 (by omega) _ _, frz_set h.f4 _ _, box_set_other h.k7 (by omega) _ _, frz_set h.f7 _ _, h.own.set h3 _ _, own_set h.oa h4 _, h.ap, h1', by simpa using h.hi, h.bw.setCell (by simp only; omega) _⟩
/-- another zone, in rows of its own, is stored into the box -/
theorem ZS.put (h : ZS w W B a1 a2 n1 n2 c1 c2 z aw na ca away) {b1 b2 : Option Addr} {m1 m2 d1 d2 bs : Nat} {y : Zn} (ho : ZOwn W bs b1 b2 m1 m2 d1 d2 y) (hb : B + 1 ≤ bs) (hbs : ∀ k, (Value.slice aw na ca).ownBlock = some k → k < bs) :
    ZS w ((((W.setCell ⟨B, 0, none⟩ (.int .i64 y.f)).setCell ⟨B, 1, none⟩ (.int .i64 y.e)).setCell ⟨B, 2, none⟩ (.slice b1 m1 d1)).setCell ⟨B, 3, none⟩ (.slice b2 m2 d2)) B b1 b2 m1 m2 d1 d2 y aw na ca away := by
  have h1 := h.lo
  have h2 := h.hi
  have nn := ho.ne (g := B) (.inl (by omega))
  have na' := own_ne h.oa (b := B) (.inl (by omega))
  exact ⟨box_set_other (box_set_other (box_set_other (box_set_other h.k4 (by omega) _ _) (by omega) _ _) (by omega) _ _) (by omega) _ _, frz_set (frz_set (frz_set (frz_set h.f4 _ _) _ _) _ _) _ _, box_set (box_set (box_set (box_set h.k7 0 _) 1 _) 2 _) 3 _, frz_set (frz_set (frz_set (frz_set h.f7 _ _) _ _) _ _) _ _, (((((ho.base hb).set nn _ _).set nn _ _).set nn _ _).set nn _ _), own_set (own_set (own_set (own_set h.oa na' _) na' _) na' _) na' _, (fun k hk e => by have := hbs k hk; have := (ho.o1.lt k e).1; omega), h1, by simpa using h2, Below.setCell (Below.setCell (Below.setCell (Below.setCell h.bw (by simp only; omega) _) (by simp only; omega) _) (by simp only; omega) _) (by simp only; omega) _⟩
/-- the list of what is away is another -/
theorem ZS.grown (h : ZS w W B a1 a2 n1 n2 c1 c2 z aw na ca away) (hg : W.grownBy W' (Value.ownBlock (.slice aw na ca))) {aw' : Option Addr} {na' ca' : Nat} {away' : List Bk} (ho : W'.ownsRow (B + 1) 36 3 (.slice aw' na' ca') na' (flat encBk away')) (hn : ∀ k, (Value.slice aw' na' ca').ownBlock = some k → (Value.slice aw na ca).ownBlock = some k ∨ W.heap.size ≤ k) : ZS w W' B a1 a2 n1 n2 c1 c2 z aw' na' ca' away' := by
  have h1 := h.lo
  have h2 := h.hi
  have m4 := own_ne h.oa (b := w.heap.size) (.inl (by omega))
  have m7 := own_ne h.oa (b := B) (.inl (by omega))
  refine ⟨box_grown h.k4 (by omega) hg (fun e => m4 e.symm), frz_grown h.f4 (by omega) hg (fun e => m4 e.symm), box_grown h.k7 h2 hg (fun e => m7 e.symm), frz_grown h.f7 h2 hg (fun e => m7 e.symm), ⟨h.own.l1, h.own.l2, own_grown h.own.o1 hg (fun k hk e => h.ap k e hk), own_grown h.own.o2 hg (fun k hk e => own_diff h.own.o2 h.oa (by decide) k hk e)⟩, ho, fun k hk e => ?_, h1, Nat.lt_of_lt_of_le h2 hg.size, ?_⟩
  · rcases hn k hk with h' | h'
    · exact h.ap k h' e
    · have := (h.own.o1.lt k e).2; omega
  · exact h.bw.grown hg h.bw.size (fun k hk => by have := (h.oa.lt k hk).1; omega)
end
end Go.Proofs.YtbkajbjhffdlfaaDoor
