/- texts of this claim, joined. -/
import Derived.Test.YtcmpmobhongkiaaGreatDoorCG0
import Derived.Test.YtcmpmobhongkiaaGreatDoorCG12
import Derived.Test.YtcmpmobhongkiaaGreatDoorCG19
import Derived.Test.YtcmpmobhongkiaaGreatDoorCG20
import Derived.Test.YtcmpmobhongkiaaGreatDoorCG21
import Derived.Test.YtcmpmobhongkiaaGreatDoorCG27
set_option linter.unusedVariables false
set_option linter.unusedSimpArgs false
namespace Go.Proofs.YtcmpmobhongkiaaGreatDoor
section
open Go.RowKit

def uX (v : Sc) (s : Sy) : Rs := ⟨3, 1, .slice v.a1 v.n1 v.c1, v.n1, s.w.map vI⟩
def jP (v : Sc) : Rs := ⟨94, 6, .slice v.a2 v.ys.length v.c2, v.ys.length, flat bW v.ys⟩
def mV (y : Cc) : Rs := ⟨9, 1, .slice y.a1 y.n1 y.c1, y.n1, flat encS y.c.ns⟩
def kU (y : Cc) : Rs := ⟨137, 3, .slice y.a2 y.n2 y.c2, y.n2, flat aY y.c.sl⟩
def nR (y : Cc) : Rs := ⟨3, 1, .slice y.a3 y.n3 y.c3, y.n3, y.c.ac.map vI⟩
def eX (y : Cc) : List Rs := [mV y, kU y, nR y]
def Sc.rows (v : Sc) (s : Sy) : List Rs := uX v s :: jP v :: v.ys.flatMap eX
def Sc.front (v : Sc) (s : Sy) (y : Cc) (ys : List Cc) : List Rs := uX v s :: jP v :: mV y :: kU y :: nR y :: ys.flatMap eX

theorem xU {α : Type} : ∀ {l : List α} {i : Nat} (hi : i < l.length), l.Perm (l[i] :: l.eraseIdx i)
  | a :: l, 0, _ => List.Perm.refl _
  | a :: l, i + 1, hi => by
    simp only [List.getElem_cons_succ, List.eraseIdx_cons_succ]
    exact ((xU (l := l) (i := i) (by simpa using hi)).cons a).trans (.swap _ _ _)
theorem wL (v : Sc) (s : Sy) {i : Nat} (hi : i < v.ys.length) : (v.rows s).Perm (v.front s v.ys[i] (v.ys.eraseIdx i)) :=
  ((List.Perm.flatMap_right eX (xU hi)).cons _).cons _

structure SR (W : World) (G : Nat) (X : Nat → Prop) (s : Sy) (v : Sc) : Prop where
  own : cZ W 0 (v.rows s)
  og : ∀ r ∈ v.rows s, ∀ g, r.v.ownBlock = some g → g ≠ G ∧ ¬ X g
  hr : HR W G X s.h v.hc
  hd : ∀ r ∈ v.rows s, ∀ q ∈ v.hc.rows s.h ++ v.hc.reads s.h, r.off q
  cy : v.ys.map (·.c) = s.cs
structure SS (W : World) (G : Nat) (X : Nat → Prop) (s : Sy) (v : Sc) : Prop where
  r : SR W G X s v
  k : ∀ o, W.cell? ⟨G, o, none⟩ = (v.vals s)[o]?
  fz : ∀ o, W.frozen? ⟨G, o, none⟩ = false
def jY (W : World) (B : Nat) (s : Sy) (v : Sc) : Prop := SR W B (fun k => k < B) s v

theorem uY {w w' : World} {base : Nat} {e : TypeId} {size : Nat} {v : Value} {n : Nat} {xs : List Value} (h : w.ownsRow base e size v n xs) (hb : ∀ k, v.ownBlock = some k → k < w.heap.size → w'.heap[k]? = w.heap[k]?) : w'.ownsRow base e size v n xs := by
  refine ⟨h.1, ?_⟩
  rcases h.2 with h' | ⟨g, cap, cur, h1, h2, hgg, rest⟩
  · exact .inl h'
  · refine .inr ⟨g, cap, cur, h1, h2, ?_, rest⟩
    rw [hb g (by rw [h1]; rfl) (Array.getElem?_eq_some_iff.1 hgg).1]
    exact hgg
section
variable {W W' : World} {G : Nat} {X Y : Nat → Prop} {h : Hp} {c : Hc}
theorem HR.kept (hs : HR W G X h c) (sf : Safe Y W W') (hy : ∀ q ∈ c.rows h ++ c.reads h, ∀ k, q.v.ownBlock = some k → Y k) : HR W' G X h c :=
  ⟨⟨fun r hr => uY (hs.own.each r hr) fun k hk hlt => sf.block k hlt (hy r (List.mem_append_left _ hr) k hk), hs.own.CP⟩,
   fun r hr => uY (hs.ro r hr) fun k hk hlt => sf.block k hlt (hy r (List.mem_append_right _ hr) k hk), hs.ds, hs.og, hs.rg, hs.rx, gI hs.gs sf.size, hs.xg, fun k hk => gI (hs.xs k hk) sf.size, hs.e0, hs.e1, hs.ll⟩
theorem HR.lift {B : Nat} (hs : HR W B (fun k => k < B) h c) (hG : G < B) (hX : ∀ k, X k → k < B) (hxg : ¬ X G) : HR W G X h c :=
  ⟨hs.own, hs.ro, hs.ds, fun r hr g hg => by have := (hs.og r hr g hg).2; exact ⟨by omega, fun e => this (hX g e)⟩, fun r hr e => hs.rx r hr G e hG, fun r hr g hg e => hs.rx r hr g hg (hX g e), Nat.lt_trans hG hs.gs, hxg, fun k hk => Nat.lt_trans (hX k hk) hs.gs, hs.e0, hs.e1, hs.ll⟩
theorem HR.any {G' : Nat} {X' : Nat → Prop} (hs : HR W G' X' h c) (hG : G < W.heap.size) (hq : ∀ q ∈ c.rows h ++ c.reads h, ∀ k, q.v.ownBlock = some k → k ≠ G ∧ ¬ X k) (hX : ∀ k, X k → k < W.heap.size) (hxg : ¬ X G) : HR W G X h c :=
  ⟨hs.own, hs.ro, hs.ds, fun r hr g hg => hq r (List.mem_append_left _ hr) g hg, fun r hr e => (hq r (List.mem_append_right _ hr) G e).1 rfl, fun r hr g hg => (hq r (List.mem_append_right _ hr) g hg).2, hG, hxg, hX, hs.e0, hs.e1, hs.ll⟩
theorem HR.lt (hs : HR W G X h c) : ∀ q ∈ c.rows h ++ c.reads h, ∀ k, q.v.ownBlock = some k → k < W.heap.size := fun q hq k hk => by
  rcases List.mem_append.1 hq with hq | hq
  · exact ((hs.own.each q hq).lt k hk).2
  · exact ((hs.ro q hq).lt k hk).2
theorem HR.gne (hs : HR W G X h c) : ∀ q ∈ c.rows h ++ c.reads h, q.v.ownBlock ≠ some G := fun q hq e => by
  rcases List.mem_append.1 hq with hq | hq
  · exact (hs.og q hq G e).1 rfl
  · exact hs.rg q hq e
end

section
variable {W W' W1 : World} {G : Nat} {X Y : Nat → Prop} {s s' : Sy} {v v' : Sc}
theorem SR.lt (hs : SR W G X s v) : ∀ r ∈ v.rows s, ∀ g, r.v.ownBlock = some g → g < W.heap.size := fun r hr g hg => (hs.own.lt r hr g hg).2
theorem SR.below (hs : SR W G X s v) (hb : Below W.heap.size W W') : SR W' G X s v :=
  ⟨hs.own.below hb, hs.og, hs.hr.below hb, hs.hd, hs.cy⟩
theorem SS.below (hs : SS W G X s v) (hb : Below W.heap.size W W') : SS W' G X s v :=
  ⟨hs.r.below hb, aB hs.k hs.r.hr.gs hb, aJ hs.fz hs.r.hr.gs hb⟩
def Sc.blk (v : Sc) (s : Sy) (G k : Nat) : Prop := k = G ∨ ∃ r ∈ v.rows s, r.v.ownBlock = some k
theorem SR.Ut (hs : SR W G X s v) {k : Nat} (hk : X k) : ¬ v.blk s G k := by
  rintro (rfl | ⟨r, hr, e⟩)
  · exact hs.hr.xg hk
  · exact (hs.og r hr k e).2 hk
def Sc.fr (v : Sc) (s : Sy) (G : Nat) (X : Nat → Prop) (g : Nat) : Prop := g ≠ G ∧ ¬ X g ∧ ∀ q ∈ v.hc.rows s.h ++ v.hc.reads s.h, q.v.ownBlock ≠ some g
theorem SR.fresh (hs : SR W G X s v) {g : Nat} (hg : W.heap.size ≤ g) : v.fr s G X g :=
  ⟨fun e => by have := hs.hr.gs; omega, fun e => by have := hs.hr.xs g e; omega, fun q hq e => by have := hs.hr.lt q hq g e; omega⟩
theorem SR.step (hs : SR W G X s v) (sf : Safe (fun k => ¬ v.blk s G k) W W') (hh : s'.h = s.h) (hc : v'.hc = v.hc) (own : cZ W' 0 (v'.rows s')) (hb : ∀ r ∈ v'.rows s', ∀ g, r.v.ownBlock = some g → (∃ q ∈ v.rows s, q.v.ownBlock = some g) ∨ v.fr s G X g) (cy : v'.ys.map (·.c) = s'.cs) : SR W' G X s' v' := by
  refine ⟨own, fun r hr g hg => ?_, ?_, fun r hr q hq g h1 h2 => ?_, cy⟩
  · rcases hb r hr g hg with ⟨q, hq, e⟩ | h
    · exact hs.og q hq g e
    · exact ⟨h.1, h.2.1⟩
  · rw [hh, hc]
    refine hs.hr.kept sf fun q hq k hk => ?_
    rintro (rfl | ⟨r, hr, e⟩)
    · exact hs.hr.gne q hq hk
    · exact hs.hd r hr q hq k e hk
  · rw [hh, hc] at hq
    rcases hb r hr g h1 with ⟨q', hq', e⟩ | h
    · exact hs.hd q' hq' q hq g e h2
    · exact h.2.2 q hq h2
theorem SR.heap (hs : SR W G X s v) (hb : Below W.heap.size W W1) {h : Hp} {c : Hc} (hn : lJ W1 W.heap.size h c) : SR W1 G X { s with h := h } { v with hc := c } := by
  have hrow : ({ v with hc := c } : Sc).rows { s with h := h } = v.rows s := rfl
  refine ⟨hrow ▸ hs.own.below hb, fun r hr => hs.og r (hrow ▸ hr), HR.lift hn hs.hr.gs hs.hr.xs hs.hr.xg, fun r hr q hq g h1 h2 => ?_, hs.cy⟩
  have h3 := hs.lt r (hrow ▸ hr) g h1
  rcases List.mem_append.1 hq with hq | hq
  · exact (hn.og q hq g h2).2 h3
  · exact hn.rx q hq g h2 h3
theorem SR.words (hs : SR W G X s v) (hb : Below W.heap.size W W1) {xs : List Int} {a : Option Addr} {n c : Nat} (ho : W1.ownsRow W.heap.size 3 1 (.slice a n c) n (xs.map vI)) : SR W1 G X { s with w := xs } { v with a1 := a, n1 := n, c1 := c } := by
  have h1 := hs.own.below hb
  have h2 : cZ W1 0 ((⟨3, 1, .slice a n c, n, xs.map vI⟩ : Rs) :: jP v :: v.ys.flatMap eX) :=
    cZ.cons (h1.sub (List.sublist_cons_self _ _)) (r' := ⟨3, 1, .slice a n c, n, xs.map vI⟩) ho (Nat.zero_le _) fun r hr g hg => hs.lt r (List.mem_cons_of_mem _ hr) g hg
  refine hs.step (Safe.fK hb) rfl rfl h2 (fun r hr g hg => ?_) hs.cy
  rcases List.mem_cons.1 hr with rfl | hr
  · exact .inr (hs.fresh (ho.lt g hg).1)
  · exact .inl ⟨r, List.mem_cons_of_mem _ hr, hg⟩
theorem SR.more (hs : SR W G X s v) (hy : ∀ k, Y k → k < W.heap.size ∧ ¬ v.blk s G k ∧ ∀ q ∈ v.hc.rows s.h ++ v.hc.reads s.h, q.v.ownBlock ≠ some k) : SR W G Y s v :=
  ⟨hs.own, fun r hr g hg => ⟨(hs.og r hr g hg).1, fun e => (hy g e).2.1 (.inr ⟨r, hr, hg⟩)⟩, hs.hr.more fun k hk => ⟨(hy k hk).1, fun e => (hy k hk).2.1 (.inl e), fun r hr => (hy k hk).2.2 r (List.mem_append_left _ hr), fun r hr => (hy k hk).2.2 r (List.mem_append_right _ hr)⟩, hs.hd, hs.cy⟩
theorem SS.more (hs : SS W G X s v) (hy : ∀ k, Y k → k < W.heap.size ∧ ¬ v.blk s G k ∧ ∀ q ∈ v.hc.rows s.h ++ v.hc.reads s.h, q.v.ownBlock ≠ some k) : SS W G Y s v := ⟨hs.r.more hy, hs.k, hs.fz⟩
theorem SS.new (hs : SS W G X s v) (hb : Below W.heap.size W W') : SS W' G (fun k => X k ∨ (W.heap.size ≤ k ∧ k < W'.heap.size)) s v :=
  (hs.below hb).more fun k hk => by
    rcases hk with hk | ⟨h1, h2⟩
    · refine ⟨gI (hs.r.hr.xs k hk) hb.size, hs.r.Ut hk, fun q hq e => ?_⟩
      rcases List.mem_append.1 hq with hq | hq
      · exact (hs.r.hr.og q hq k e).2 hk
      · exact hs.r.hr.rx q hq k e hk
    · refine ⟨h2, ?_, fun q hq e => ?_⟩
      · rintro (rfl | ⟨r, hr, e⟩)
        · have := hs.r.hr.gs; omega
        · have := hs.r.lt r hr k e; omega
      · have := hs.r.hr.lt q hq k e; omega
theorem SS.sub (hs : SS W G X s v) (hy : ∀ k, Y k → X k) : SS W G Y s v :=
  ⟨⟨hs.r.own, fun r hr g hg => ⟨(hs.r.og r hr g hg).1, fun e => (hs.r.og r hr g hg).2 (hy g e)⟩, hs.r.hr.sub hy, hs.r.hd, hs.r.cy⟩, hs.k, hs.fz⟩
theorem SR.lift {B : Nat} (hs : jY W B s v) (hG : G < B) (hX : ∀ k, X k → k < B) (hxg : ¬ X G) : SR W G X s v :=
  ⟨hs.own, fun r hr g hg => by have := (hs.og r hr g hg).2; exact ⟨by omega, fun e => this (hX g e)⟩, hs.hr.lift hG hX hxg, hs.hd, hs.cy⟩
theorem SR.far (hs : SR W G X s v) {g : Nat} (hx : ¬ v.blk s G g) (hq : ∀ q ∈ v.hc.rows s.h ++ v.hc.reads s.h, q.v.ownBlock ≠ some g) (i : Nat) (u : Value) : SR (W.setCell ⟨g, i, none⟩ u) G X s v :=
  ⟨hs.own.far (fun r hr e => hx (.inr ⟨r, hr, e⟩)) i u, hs.og, hs.hr.kept (Y := fun k => k ≠ g) ((Safe.refl _ W).set (by simp) i u) (fun q h k hk e => hq q h (e ▸ hk)), hs.hd, hs.cy⟩
theorem SS.dQ (hs : SS W G X s v) {g : Nat} (hx : X g) (i : Nat) (u : Value) : SS (W.setCell ⟨g, i, none⟩ u) G X s v :=
  ⟨hs.r.far (hs.r.Ut hx) (fun q hq e => by
    rcases List.mem_append.1 hq with hq | hq
    · exact (hs.r.hr.og q hq g e).2 hx
    · exact hs.r.hr.rx q hq g e hx) i u, aA hs.k (fun e => hs.r.hr.xg (e ▸ hx)) i u, aH hs.fz _ _⟩
theorem SR.lQ (hs : SR W G X s v) (i : Nat) (u : Value) : SR (W.setCell ⟨G, i, none⟩ u) G X s v :=
  ⟨hs.own.far (fun r hr e => (hs.og r hr G e).1 rfl) i u, hs.og, hs.hr.lQ i u, hs.hd, hs.cy⟩
theorem SR.y (hs : SR W G X s v) {y : Cc} (hy : y ∈ v.ys) : (mV y).on W 0 ∧ (kU y).on W 0 ∧ (nR y).on W 0 := by
  have h : ∀ r ∈ eX y, r.on W 0 := fun r hr => hs.own.each r (by
    unfold Sc.rows
    exact List.mem_cons_of_mem _ (List.mem_cons_of_mem _ (List.mem_flatMap.2 ⟨y, hy, hr⟩)))
  exact ⟨h _ (by simp [eX]), h _ (by simp [eX]), h _ (by simp [eX])⟩
theorem SR.at (hs : SR W G X s v) : qF W v s := by
  have hw : (uX v s).on W 0 := hs.own.each _ (by simp [Sc.rows])
  have hc : (jP v).on W 0 := hs.own.each _ (by simp [Sc.rows])
  refine ⟨?_, aW hw, hs.hr.at, aW hc, hs.cy, fun y hy => ?_, dF hw, dF hc⟩
  · have := hw.1
    unfold uX at this
    simpa using this
  · obtain ⟨h1, h2, h3⟩ := hs.y hy
    refine ⟨aZ aU (by decide) h1, aZ aK (by decide) h2, ?_, aW h1, aW h2, aW h3, dF h1, dF h2, dF h3⟩
    have := h3.1
    unfold nR at this
    simpa using this
end
end
section
open Go.RowKit

section
variable {W W' W9 : World} {G : Nat} {X Y : Nat → Prop} {s s' : Sy} {v v' : Sc}
theorem dS (v : Sc) (s : Sy) : jP v ∈ v.rows s := by simp [Sc.rows]
theorem nD (v : Sc) (s : Sy) : uX v s ∈ v.rows s := by simp [Sc.rows]
theorem iV {v : Sc} {s : Sy} {y : Cc} (hy : y ∈ v.ys) {r : Rs} (hr : r ∈ eX y) : r ∈ v.rows s := by
 unfold Sc.rows
 exact List.mem_cons_of_mem _ (List.mem_cons_of_mem _ (List.mem_flatMap.2 ⟨y, hy, hr⟩))
theorem SS.ZO (hs : SS W G X s v) {y : Cc} (hy : cZ W 0 (nR y :: kU y :: mV y :: v.rows s)) (hfr : ∀ r ∈ eX y, ∀ g, r.v.ownBlock = some g → v.fr s G X g) {g9 cap9 : Nat} (hg9 : W.grownBy W9 (jP v).v.ownBlock)
  (ho9 : W9.ownsRow 0 94 6 (.slice (some ⟨g9, 0, none⟩) (v.ys.length + 1) cap9) (v.ys.length + 1) (flat bW (v.ys ++ [y]))) (hl9 : (jP v).v.ownBlock = some g9 ∨ W.heap.size ≤ g9) :
  SS (W9.setCell ⟨G, 6, none⟩ (.slice (some ⟨g9, 0, none⟩) (v.ys.length + 1) cap9)) G X { s with cs := s.cs ++ [y.c] } { v with a2 := some ⟨g9, 0, none⟩, c2 := cap9, ys := v.ys ++ [y] } ∧
  Safe X W (W9.setCell ⟨G, 6, none⟩ (.slice (some ⟨g9, 0, none⟩) (v.ys.length + 1) cap9)) := by
 have hlen : (v.ys ++ [y]).length = v.ys.length + 1 := by simp
 have own9 : cZ W9 0 (nR y :: kU y :: mV y :: uX v s :: (⟨94, 6, .slice (some ⟨g9, 0, none⟩) (v.ys.length + 1) cap9, v.ys.length + 1, flat bW (v.ys ++ [y])⟩ : Rs) :: v.ys.flatMap eX) :=
  hy.grown (i := 4) (by simp [Sc.rows]) hg9 (r' := ⟨94, 6, .slice (some ⟨g9, 0, none⟩) (v.ys.length + 1) cap9, v.ys.length + 1, flat bW (v.ys ++ [y])⟩) ho9 (fun g hg => by
   obtain rfl : g9 = g := by simpa [Value.ownBlock] using hg
   exact hl9)
 have hcs : jP { v with a2 := some ⟨g9, 0, none⟩, c2 := cap9, ys := v.ys ++ [y] } = ⟨94, 6, .slice (some ⟨g9, 0, none⟩) (v.ys.length + 1) cap9, v.ys.length + 1, flat bW (v.ys ++ [y])⟩ := by
  unfold jP
  simp only [hlen]
 have hrows : ({ v with a2 := some ⟨g9, 0, none⟩, c2 := cap9, ys := v.ys ++ [y] } : Sc).rows { s with cs := s.cs ++ [y.c] } = uX v s :: (⟨94, 6, .slice (some ⟨g9, 0, none⟩) (v.ys.length + 1) cap9, v.ys.length + 1, flat bW (v.ys ++ [y])⟩ : Rs) :: (v.ys.flatMap eX ++ [mV y, kU y, nR y]) := by
  unfold Sc.rows
  rw [hcs]
  simp only [List.flatMap_append, List.flatMap_cons, List.flatMap_nil, List.append_nil]
  rfl
 have hperm : (nR y :: kU y :: mV y :: uX v s :: (⟨94, 6, .slice (some ⟨g9, 0, none⟩) (v.ys.length + 1) cap9, v.ys.length + 1, flat bW (v.ys ++ [y])⟩ : Rs) :: v.ys.flatMap eX).Perm (({ v with a2 := some ⟨g9, 0, none⟩, c2 := cap9, ys := v.ys ++ [y] } : Sc).rows { s with cs := s.cs ++ [y.c] }) := by
  rw [hrows]
  have h1 : ∀ (l : List Rs), (nR y :: kU y :: mV y :: l).Perm (l ++ [mV y, kU y, nR y]) := fun l =>
   (List.perm_append_comm (l₁ := [nR y, kU y, mV y]) (l₂ := l)).trans (List.Perm.append_left l (List.reverse_perm [mV y, kU y, nR y]))
  exact h1 (_ :: _ :: v.ys.flatMap eX)
 have hsf : Safe (fun k => ¬ v.blk s G k) W W9 := Safe.jM hg9 fun k hk e => hk (.inr ⟨jP v, dS v s, e.symm⟩)
 have h9 := hs.r.step (s' := { s with cs := s.cs ++ [y.c] }) (v' := { v with a2 := some ⟨g9, 0, none⟩, c2 := cap9, ys := v.ys ++ [y] }) hsf rfl rfl (own9.perm hperm) (fun r hr g hg => by
  rw [hrows] at hr
  rcases List.mem_cons.1 hr with rfl | hr
  ·exact .inl ⟨_, nD v s, hg⟩
  ·rcases List.mem_cons.1 hr with rfl | hr
   ·obtain rfl : g9 = g := by simpa [Value.ownBlock] using hg
    rcases hl9 with h | h
    ·exact .inl ⟨_, dS v s, h⟩
    ·exact .inr (hs.r.fresh h)
   ·rcases List.mem_append.1 hr with hr | hr
    ·exact .inl ⟨r, List.mem_cons_of_mem _ (List.mem_cons_of_mem _ hr), hg⟩
    ·exact .inr (hfr r hr g hg)) (by simp [hs.r.cy])
 have hG : some G ≠ (jP v).v.ownBlock := fun e => (hs.r.og _ (dS v s) G e.symm).1 rfl
 have K := aG (bH hs.k hs.r.hr.gs hg9 hG) 6 (.slice (some ⟨g9, 0, none⟩) (v.ys.length + 1) cap9)
 have hv : ({ v with a2 := some ⟨g9, 0, none⟩, c2 := cap9, ys := v.ys ++ [y] } : Sc).vals { s with cs := s.cs ++ [y.c] } = (v.vals s).setIfInBounds 6 (.slice (some ⟨g9, 0, none⟩) (v.ys.length + 1) cap9) := by
  unfold Sc.vals
  simp only [hlen]
  rfl
 rw [← hv] at K
 exact ⟨⟨h9.lQ 6 _, K, aH (bI hs.fz hs.r.hr.gs hg9 hG) _ _⟩, (Safe.jM hg9 fun k hk e => (hs.r.og _ (dS v s) k e.symm).2 hk).set hs.r.hr.xg 6 _⟩
theorem SS.three {w5 wd wa wb wc : World} {T : Nat} (hs : SS w5 G X s v) (hX : X T) (hd : Below w5.heap.size w5 wd) (hba : Below wd.heap.size wd wa) (hbb : Below wa.heap.size wa wb) (hbc : Below wb.heap.size wb wc) {y : Cc}
  (hoa : wa.ownsRow wd.heap.size 9 1 (.slice y.a1 y.n1 y.c1) y.n1 (flat encS y.c.ns)) (hob : wb.ownsRow wa.heap.size 137 3 (.slice y.a2 y.n2 y.c2) y.n2 (flat aY y.c.sl)) (hoc : wc.ownsRow wb.heap.size 3 1 (.slice y.a3 y.n3 y.c3) y.n3 (flat encI y.c.ac)) (i1 i2 i3 : Nat) (u1 u2 u3 : Value) :
  SS (((wc.setCell ⟨T, i1, none⟩ u1).setCell ⟨T, i2, none⟩ u2).setCell ⟨T, i3, none⟩ u3) G X s v ∧ cZ (((wc.setCell ⟨T, i1, none⟩ u1).setCell ⟨T, i2, none⟩ u2).setCell ⟨T, i3, none⟩ u3) 0 (nR y :: kU y :: mV y :: v.rows s) ∧ (∀ r ∈ eX y, ∀ g, r.v.ownBlock = some g → v.fr s G X g) := by
 rw [kT] at hoc
 have b5a := Below.step hd hba
 have hT : T < w5.heap.size := hs.r.hr.xs T hX
 have h5d := hd.size
 have hda := hba.size
 have hab := hbb.size
 have o1 : cZ wa 0 (mV y :: v.rows s) := (hs.r.own.below b5a).cons (r' := mV y) hoa (Nat.zero_le _) fun r hr g hg => gI (hs.r.lt r hr g hg) h5d
 have o2 : cZ wb 0 (kU y :: mV y :: v.rows s) := (o1.below hbb).cons (r' := kU y) hob (Nat.zero_le _) fun r hr g hg => (o1.lt r hr g hg).2
 have o3 : cZ wc 0 (nR y :: kU y :: mV y :: v.rows s) := (o2.below hbc).cons (r' := nR y) hoc (Nat.zero_le _) fun r hr g hg => (o2.lt r hr g hg).2
 have hge : ∀ r ∈ eX y, ∀ g, r.v.ownBlock = some g → w5.heap.size ≤ g := fun r hr g hg => by
  simp only [eX, List.mem_cons, List.not_mem_nil, or_false] at hr
  rcases hr with rfl | rfl | rfl
  ·have := (hoa.lt g hg).1; omega
  ·have := (hob.lt g hg).1; omega
  ·have := (hoc.lt g hg).1; omega
 have hne : ∀ r ∈ nR y :: kU y :: mV y :: v.rows s, r.v.ownBlock ≠ some T := fun r hr e => by
  simp only [List.mem_cons] at hr
  rcases hr with rfl | rfl | rfl | hr
  ·have := hge (nR y) (by simp [eX]) T e; omega
  ·have := hge (kU y) (by simp [eX]) T e; omega
  ·have := hge (mV y) (by simp [eX]) T e; omega
  ·exact (hs.r.og r hr T e).2 hX
 exact ⟨(((hs.below (Below.step b5a (Below.step hbb hbc))).dQ hX i1 u1).dQ hX i2 u2).dQ hX i3 u3, ((o3.far hne i1 u1).far hne i2 u2).far hne i3 u3, fun r hr g hg => hs.r.fresh (hge r hr g hg)⟩
theorem SR.toX (hs : SR W G X s v) {B : Nat} (hB : X B) (hy : ∀ k, Y k → X k) (hn : ¬ Y B) : SR W B Y s v :=
 ⟨hs.own, fun r hr g hg => ⟨fun e => (hs.og r hr g hg).2 (e ▸ hB), fun e => (hs.og r hr g hg).2 (hy g e)⟩, hs.hr.any (hs.hr.xs B hB) (fun q hq k hk => by
  have h : ¬ X k := fun e => by
   rcases List.mem_append.1 hq with hq | hq
   ·exact (hs.hr.og q hq k hk).2 e
   ·exact hs.hr.rx q hq k hk e
  exact ⟨fun e => h (e ▸ hB), fun e => h (hy k e)⟩) (fun k hk => hs.hr.xs k (hy k hk)) hn, hs.hd, hs.cy⟩
theorem SR.dQ (hs : SR W G X s v) {g : Nat} (hx : X g) (i : Nat) (u : Value) : SR (W.setCell ⟨g, i, none⟩ u) G X s v :=
 hs.far (hs.Ut hx) (fun q hq e => by
  rcases List.mem_append.1 hq with hq | hq
  ·exact (hs.hr.og q hq g e).2 hx
  ·exact hs.hr.rx q hq g e hx) i u
end
end
section
open Go.RowKit

theorem qU {α : Type} {enc : α → List Value} {k : Nat} (hk : ∀ x, (enc x).length = k) {i : Nat} (hi : i < k) {u : Value} {x : α} : ∀ (l : List α) (j : Nat) (hj : j < l.length), enc x = (enc l[j]).set i u → (flat enc l).set (j * k + i) u = flat enc (l.set j x)
 | a :: l, 0, _, hx => by
  rw [dG, gG, dG, Nat.zero_mul, Nat.zero_add, List.set_append_left _ _ (by rw [hk]; exact hi)]
  rw [show enc x = (enc a).set i u from hx]
 | a :: l, j + 1, hj, hx => by
  rw [dG, gH, dG, List.set_append_right _ _ (by rw [hk, Nat.add_mul]; omega), hk, show (j + 1) * k + i - k = j * k + i by rw [Nat.add_mul]; omega, qU hk hi l j (by simpa using hj) hx]
theorem wM {α : Type} {enc : α → List Value} {x : α} : ∀ (l : List α) (j : Nat) (hj : j < l.length), enc x = enc l[j] → flat enc (l.set j x) = flat enc l
 | a :: l, 0, _, hx => by rw [gG, dG, dG, show enc x = enc a from hx]
 | a :: l, j + 1, hj, hx => by rw [gH, dG, dG, wM l j (by simpa using hj) hx]

section
variable {W W' W1 W2 W9 : World} {G : Nat} {X Y : Nat → Prop} {s s' : Sy} {v v' : Sc}
def Sc.dH (v : Sc) (i : Nat) (y : Cc) : Sc := { v with ys := v.ys.set i y }
theorem qV (v : Sc) (s : Sy) (i : Nat) (y : Cc) (c : Ca) : (v.dH i y).vals (s.eU i c) = v.vals s := by
 unfold Sc.vals Sc.dH
 simp only [List.length_set]
 rfl
theorem SR.upC (hs : SR W G X s v) {i : Nat} (hi : i < v.ys.length) {y' : Cc} (sf : Safe (fun k => ¬ v.blk s G k) W W')
  (own : cZ W' 0 (uX v s :: jP (v.dH i y') :: mV y' :: kU y' :: nR y' :: (v.ys.eraseIdx i).flatMap eX))
  (hb : ∀ r ∈ eX y', ∀ g, r.v.ownBlock = some g → (∃ q ∈ v.rows s, q.v.ownBlock = some g) ∨ v.fr s G X g) : SR W' G X (s.eU i y'.c) (v.dH i y') := by
 have hi' : i < (v.dH i y').ys.length := by
  unfold Sc.dH
  simpa using hi
 have hp := wL (v.dH i y') (s.eU i y'.c) hi'
 have e1 : (v.dH i y').ys[i] = y' := by simp [Sc.dH]
 have e2 : (v.dH i y').ys.eraseIdx i = v.ys.eraseIdx i := by
  unfold Sc.dH
  exact List.eraseIdx_set_eq
 have e3 : (v.dH i y').front (s.eU i y'.c) (v.dH i y').ys[i] ((v.dH i y').ys.eraseIdx i) = uX v s :: jP (v.dH i y') :: mV y' :: kU y' :: nR y' :: (v.ys.eraseIdx i).flatMap eX := by
  rw [e1, e2]
  rfl
 rw [e3] at hp
 refine hs.step sf rfl rfl (own.perm hp.symm) (fun r hr g hg => ?_) ?_
 ·have hr2 := hp.mem_iff.1 hr
  have hold : ∀ q, q ∈ (v.front s v.ys[i] (v.ys.eraseIdx i)) → q ∈ v.rows s := fun q hq => (wL v s hi).mem_iff.2 hq
  simp only [List.mem_cons] at hr2
  rcases hr2 with rfl | rfl | rfl | rfl | rfl | hr2
  ·exact .inl ⟨_, nD v s, hg⟩
  ·refine .inl ⟨_, dS v s, ?_⟩
   rw [← hg]
   unfold jP Sc.dH
   simp only [List.length_set]
  ·exact hb _ (by simp [eX]) g hg
  ·exact hb _ (by simp [eX]) g hg
  ·exact hb _ (by simp [eX]) g hg
  ·exact .inl ⟨r, hold r (by unfold Sc.front; simp only [List.mem_cons]; exact .inr (.inr (.inr (.inr (.inr hr2))))), hg⟩
 ·unfold Sc.dH Sy.eU
  simp only
  rw [List.map_set, hs.cy]
theorem SR.FX (hs : SR W G X s v) {i : Nat} (hi : i < v.ys.length) : cZ W 0 (uX v s :: jP v :: mV v.ys[i] :: kU v.ys[i] :: nR v.ys[i] :: (v.ys.eraseIdx i).flatMap eX) := hs.own.perm (wL v s hi)
theorem SR.LG (hs : SR W G X s v) {i : Nat} (hi : i < v.ys.length) : ∃ g, v.a2 = some ⟨g, 0, none⟩ ∧ g < W.heap.size ∧ g ≠ G ∧ ¬ X g ∧ (∀ j, j < 6 → W.cell? ⟨g, i * 6 + j, none⟩ = (bW v.ys[i])[j]? ∧ W.frozen? ⟨g, i * 6 + j, none⟩ = false) := by
 have hc : (jP v).on W 0 := hs.own.each _ (dS v s)
 have hlen := flat_length cO v.ys
 obtain ⟨g, u, h1, _, h2, _, _⟩ := dZ hc (i * 6) (by rw [show (jP v).xs = flat bW v.ys from rfl, hlen]; omega)
 have h3 : (jP v).v.ownBlock = some g := by unfold jP; rw [h1]; rfl
 have h4 := hs.og _ (dS v s) g h3
 refine ⟨g, h1, h2, h4.1, h4.2, fun j hj => ?_⟩
 have hk : i * 6 + j < (jP v).xs.length := by rw [show (jP v).xs = flat bW v.ys from rfl, hlen]; omega
 obtain ⟨g', h5, _, _, h6, h7⟩ := lI hc (i * 6 + j) hk
 rw [h1] at h5
 obtain rfl : g = g' := by simpa using h5
 refine ⟨?_, h7⟩
 rw [h6, ← flat_get cO v.ys i hi j hj]
 exact (gJ hk).symm
theorem SR.Ef (hs : SR W G X s v) {r : Rs} (hr : r ∈ v.rows s) {g : Nat} (hg : r.v.ownBlock = some g) (i : Nat) (u : Value) : Safe (fun k => ¬ v.blk s G k) W (W.setCell ⟨g, i, none⟩ u) :=
 (Safe.refl _ W).set (fun h => h (.inr ⟨r, hr, hg⟩)) i u
theorem SS.QD (hs : SS W G X s v) {g : Nat} (hg : g ≠ G) (i : Nat) (u : Value) : (∀ o, (W.setCell ⟨g, i, none⟩ u).cell? ⟨G, o, none⟩ = (v.vals s)[o]?) ∧ ∀ o, (W.setCell ⟨g, i, none⟩ u).frozen? ⟨G, o, none⟩ = false :=
 ⟨aA hs.k (fun e => hg e.symm) i u, aH hs.fz _ _⟩
theorem SS.ZP (hs : SS W G X s v) {i : Nat} (hi : i < v.ys.length) {g : Nat} (hg : v.ys[i].a3 = some ⟨g, 0, none⟩) (cpu : Nat) (p : Int) :
  SS (W.setCell ⟨g, cpu, none⟩ (vI p)) G X (s.eU i { v.ys[i].c with ac := v.ys[i].c.ac.set cpu p }) (v.dH i { v.ys[i] with c := { v.ys[i].c with ac := v.ys[i].c.ac.set cpu p } }) ∧ Safe X W (W.setCell ⟨g, cpu, none⟩ (vI p)) := by
 have hrow : nR v.ys[i] ∈ v.rows s := iV (gL hi) (by simp [eX])
 have hb : (nR v.ys[i]).v.ownBlock = some g := by unfold nR; rw [hg]; rfl
 have h4 := hs.r.og _ hrow g hb
 have k := (hs.r.FX hi).cell (i := 4) (by simp) (g := g) (c := v.ys[i].c3) (by show (nR v.ys[i]).v = _; unfold nR; rw [hg]; rfl) cpu (vI p) rfl
 have e1 : ({ nR v.ys[i] with xs := (nR v.ys[i]).xs.set cpu (vI p) } : Rs) = nR { v.ys[i] with c := { v.ys[i].c with ac := v.ys[i].c.ac.set cpu p } } := by
  unfold nR
  simp only [List.map_set]
 have e2 : jP (v.dH i { v.ys[i] with c := { v.ys[i].c with ac := v.ys[i].c.ac.set cpu p } }) = jP v := by
  have e : flat bW (v.ys.set i { v.ys[i] with c := { v.ys[i].c with ac := v.ys[i].c.ac.set cpu p } }) = flat bW v.ys := wM v.ys i hi rfl
  unfold jP Sc.dH
  simp only [List.length_set]
  rw [e]
 have hr := hs.r.upC hi (y' := { v.ys[i] with c := { v.ys[i].c with ac := v.ys[i].c.ac.set cpu p } }) (hs.r.Ef hrow hb cpu (vI p)) (by
  rw [e2, ← e1]
  exact k) (fun r hr' g' hg' => .inl (by
  simp only [eX, List.mem_cons, List.not_mem_nil, or_false] at hr'
  rcases hr' with rfl | rfl | rfl
  ·exact ⟨mV v.ys[i], iV (gL hi) (by simp [eX]), hg'⟩
  ·exact ⟨kU v.ys[i], iV (gL hi) (by simp [eX]), hg'⟩
  ·exact ⟨nR v.ys[i], hrow, hg'⟩))
 have hk := hs.QD h4.1 cpu (vI p)
 rw [← qV v s i] at hk
 exact ⟨⟨hr, hk.1, hk.2⟩, (Safe.refl X W).set h4.2 cpu (vI p)⟩
theorem SS.LH (hs : SS W G X s v) {i : Nat} (hi : i < v.ys.length) {g : Nat} (hg : v.ys[i].a2 = some ⟨g, 0, none⟩) {k : Nat} (hk : k < v.ys[i].c.sl.length) {x' : Sl} {j : Nat} (hj : j < 3) {u : Value} (hu : aY x' = (aY v.ys[i].c.sl[k]).set j u) (h1 : u.oneCell' = true) :
  SS (W.setCell ⟨g, k * 3 + j, none⟩ u) G X (s.eU i { v.ys[i].c with sl := v.ys[i].c.sl.set k x' }) (v.dH i { v.ys[i] with c := { v.ys[i].c with sl := v.ys[i].c.sl.set k x' } }) ∧ Safe X W (W.setCell ⟨g, k * 3 + j, none⟩ u) := by
 have hrow : kU v.ys[i] ∈ v.rows s := iV (gL hi) (by simp [eX])
 have hb : (kU v.ys[i]).v.ownBlock = some g := by unfold kU; rw [hg]; rfl
 have h4 := hs.r.og _ hrow g hb
 have h5 := (hs.r.FX hi).cell (i := 3) (by simp) (g := g) (c := v.ys[i].c2) (by show (kU v.ys[i]).v = _; unfold kU; rw [hg]; rfl) (k * 3 + j) u h1
 have e1 : ({ kU v.ys[i] with xs := (kU v.ys[i]).xs.set (k * 3 + j) u } : Rs) = kU { v.ys[i] with c := { v.ys[i].c with sl := v.ys[i].c.sl.set k x' } } := by
  unfold kU
  simp only
  rw [qU aK hj v.ys[i].c.sl k hk hu]
 have e2 : jP (v.dH i { v.ys[i] with c := { v.ys[i].c with sl := v.ys[i].c.sl.set k x' } }) = jP v := by
  have e : flat bW (v.ys.set i { v.ys[i] with c := { v.ys[i].c with sl := v.ys[i].c.sl.set k x' } }) = flat bW v.ys := wM v.ys i hi rfl
  unfold jP Sc.dH
  simp only [List.length_set]
  rw [e]
 have hr := hs.r.upC hi (y' := { v.ys[i] with c := { v.ys[i].c with sl := v.ys[i].c.sl.set k x' } }) (hs.r.Ef hrow hb (k * 3 + j) u) (by
  rw [e2, ← e1]
  exact h5) (fun r hr' g' hg' => .inl (by
  simp only [eX, List.mem_cons, List.not_mem_nil, or_false] at hr'
  rcases hr' with rfl | rfl | rfl
  ·exact ⟨mV v.ys[i], iV (gL hi) (by simp [eX]), hg'⟩
  ·exact ⟨kU v.ys[i], hrow, hg'⟩
  ·exact ⟨nR v.ys[i], iV (gL hi) (by simp [eX]), hg'⟩))
 have hk := hs.QD h4.1 (k * 3 + j) u
 rw [← qV v s i] at hk
 exact ⟨⟨hr, hk.1, hk.2⟩, (Safe.refl X W).set h4.2 (k * 3 + j) u⟩
theorem SS.ZQ (hs : SS W G X s v) {i : Nat} (hi : i < v.ys.length) {l' : List Sl} {a' : Option Addr} {n' c' : Nat} (hown : W2.ownsRow 0 137 3 (.slice a' n' c') n' (flat aY l')) (hg : W.grownBy W2 (kU v.ys[i]).v.ownBlock)
  (hl : ∀ k, (Value.slice a' n' c').ownBlock = some k → (kU v.ys[i]).v.ownBlock = some k ∨ W.heap.size ≤ k) {gc : Nat} (hgc : v.a2 = some ⟨gc, 0, none⟩) :
  SS (W2.setCell ⟨gc, i * 6 + 4, none⟩ (.slice a' n' c')) G X (s.eU i { v.ys[i].c with sl := l' }) (v.dH i { v.ys[i] with a2 := a', n2 := n', c2 := c', c := { v.ys[i].c with sl := l' } }) ∧ Safe X W (W2.setCell ⟨gc, i * 6 + 4, none⟩ (.slice a' n' c')) := by
 have hrow : kU v.ys[i] ∈ v.rows s := iV (gL hi) (by simp [eX])
 have hcb : (jP v).v.ownBlock = some gc := by unfold jP; rw [hgc]; rfl
 have h4 := hs.r.og _ (dS v s) gc hcb
 have o1 := (hs.r.FX hi).grown (i := 3) (by simp) hg (r' := kU { v.ys[i] with a2 := a', n2 := n', c2 := c', c := { v.ys[i].c with sl := l' } }) hown hl
 have o2 := o1.cell (i := 1) (by simp) (g := gc) (c := v.c2) (by show (jP v).v = _; unfold jP; rw [hgc]; rfl) (i * 6 + 4) (.slice a' n' c') rfl
 have e1 : ({ jP v with xs := (jP v).xs.set (i * 6 + 4) (.slice a' n' c') } : Rs) = jP (v.dH i { v.ys[i] with a2 := a', n2 := n', c2 := c', c := { v.ys[i].c with sl := l' } }) := by
  unfold jP Sc.dH
  simp only [List.length_set]
  rw [qU cO (by decide) v.ys i hi (x := { v.ys[i] with a2 := a', n2 := n', c2 := c', c := { v.ys[i].c with sl := l' } }) rfl]
 have sf : Safe (fun k => ¬ v.blk s G k) W W2 := Safe.jM hg fun k hk e => hk (.inr ⟨_, hrow, e.symm⟩)
 have hr := hs.r.upC hi (y' := { v.ys[i] with a2 := a', n2 := n', c2 := c', c := { v.ys[i].c with sl := l' } }) (sf.set (fun h => h (.inr ⟨_, dS v s, hcb⟩)) (i * 6 + 4) (.slice a' n' c')) (by
  rw [← e1]
  exact o2) (fun r hr' g' hg' => by
  simp only [eX, List.mem_cons, List.not_mem_nil, or_false] at hr'
  rcases hr' with rfl | rfl | rfl
  ·exact .inl ⟨mV v.ys[i], iV (gL hi) (by simp [eX]), hg'⟩
  ·rcases hl g' hg' with h | h
   ·exact .inl ⟨kU v.ys[i], hrow, h⟩
   ·exact .inr (hs.r.fresh h)
  ·exact .inl ⟨nR v.ys[i], iV (gL hi) (by simp [eX]), hg'⟩)
 have hG : some G ≠ (kU v.ys[i]).v.ownBlock := fun e => (hs.r.og _ hrow G e.symm).1 rfl
 have hk1 := aA (bH hs.k hs.r.hr.gs hg hG) (c := gc) (fun e => h4.1 e.symm) (i * 6 + 4) (.slice a' n' c')
 have hk2 := aH (bI hs.fz hs.r.hr.gs hg hG) ⟨gc, i * 6 + 4, none⟩ (.slice a' n' c')
 rw [← qV v s i] at hk1
 exact ⟨⟨hr, hk1, hk2⟩, (Safe.jM hg fun k hk e => (hs.r.og _ hrow k e.symm).2 hk).set h4.2 (i * 6 + 4) _⟩
theorem SS.ZR (hs : SS W G X s v) {i : Nat} (hi : i < v.ys.length) {l' : List (List UInt8)} {a' : Option Addr} {n' c' : Nat} (hown : W2.ownsRow 0 9 1 (.slice a' n' c') n' (flat encS l')) (hg : W.grownBy W2 (mV v.ys[i]).v.ownBlock)
  (hl : ∀ k, (Value.slice a' n' c').ownBlock = some k → (mV v.ys[i]).v.ownBlock = some k ∨ W.heap.size ≤ k) {gc : Nat} (hgc : v.a2 = some ⟨gc, 0, none⟩) :
  SS (W2.setCell ⟨gc, i * 6, none⟩ (.slice a' n' c')) G X (s.eU i { v.ys[i].c with ns := l' }) (v.dH i { v.ys[i] with a1 := a', n1 := n', c1 := c', c := { v.ys[i].c with ns := l' } }) ∧ Safe X W (W2.setCell ⟨gc, i * 6, none⟩ (.slice a' n' c')) := by
 have hrow : mV v.ys[i] ∈ v.rows s := iV (gL hi) (by simp [eX])
 have hcb : (jP v).v.ownBlock = some gc := by unfold jP; rw [hgc]; rfl
 have h4 := hs.r.og _ (dS v s) gc hcb
 have o1 := (hs.r.FX hi).grown (i := 2) (by simp) hg (r' := mV { v.ys[i] with a1 := a', n1 := n', c1 := c', c := { v.ys[i].c with ns := l' } }) hown hl
 have o2 := o1.cell (i := 1) (by simp) (g := gc) (c := v.c2) (by show (jP v).v = _; unfold jP; rw [hgc]; rfl) (i * 6 + 0) (.slice a' n' c') rfl
 have e1 : ({ jP v with xs := (jP v).xs.set (i * 6 + 0) (.slice a' n' c') } : Rs) = jP (v.dH i { v.ys[i] with a1 := a', n1 := n', c1 := c', c := { v.ys[i].c with ns := l' } }) := by
  unfold jP Sc.dH
  simp only [List.length_set]
  rw [qU cO (by decide) v.ys i hi (x := { v.ys[i] with a1 := a', n1 := n', c1 := c', c := { v.ys[i].c with ns := l' } }) rfl]
 have sf : Safe (fun k => ¬ v.blk s G k) W W2 := Safe.jM hg fun k hk e => hk (.inr ⟨_, hrow, e.symm⟩)
 have hr := hs.r.upC hi (y' := { v.ys[i] with a1 := a', n1 := n', c1 := c', c := { v.ys[i].c with ns := l' } }) (sf.set (fun h => h (.inr ⟨_, dS v s, hcb⟩)) (i * 6 + 0) (.slice a' n' c')) (by
  rw [← e1]
  exact o2) (fun r hr' g' hg' => by
  simp only [eX, List.mem_cons, List.not_mem_nil, or_false] at hr'
  rcases hr' with rfl | rfl | rfl
  ·rcases hl g' hg' with h | h
   ·exact .inl ⟨mV v.ys[i], hrow, h⟩
   ·exact .inr (hs.r.fresh h)
  ·exact .inl ⟨kU v.ys[i], iV (gL hi) (by simp [eX]), hg'⟩
  ·exact .inl ⟨nR v.ys[i], iV (gL hi) (by simp [eX]), hg'⟩)
 have hG : some G ≠ (mV v.ys[i]).v.ownBlock := fun e => (hs.r.og _ hrow G e.symm).1 rfl
 have hk1 := aA (bH hs.k hs.r.hr.gs hg hG) (c := gc) (fun e => h4.1 e.symm) (i * 6 + 0) (.slice a' n' c')
 have hk2 := aH (bI hs.fz hs.r.hr.gs hg hG) ⟨gc, i * 6 + 0, none⟩ (.slice a' n' c')
 rw [← qV v s i] at hk1
 exact ⟨⟨hr, hk1, hk2⟩, (Safe.jM hg fun k hk e => (hs.r.og _ hrow k e.symm).2 hk).set h4.2 (i * 6 + 0) _⟩
theorem SS.ZT (hs : SS W G X s v) (hb : Below W.heap.size W W1) {h' : Hp} {hc' : Hc} (hn : lJ W1 W.heap.size h' hc') (hb2 : Below W1.heap.size W1 W2) {xs : List Int} {a : Option Addr} {n c : Nat} (ho : W2.ownsRow W1.heap.size 3 1 (.slice a n c) n (xs.map vI)) :
  SS ((((((W2.setCell ⟨G, 1, none⟩ (.slice hc'.az 2 hc'.cz)).setCell ⟨G, 2, none⟩ (.slice hc'.am 2 hc'.cm)).setCell ⟨G, 3, none⟩ (.int .i64 (h'.aF : Int))).setCell ⟨G, 4, none⟩ (.slice hc'.al hc'.lc.length hc'.cl)).setCell ⟨G, 5, none⟩ (.slice hc'.av h'.live.length hc'.cv)).setCell ⟨G, 0, none⟩ (.slice a n c)) G X { s with w := xs, h := h' } { v with a1 := a, n1 := n, c1 := c, hc := hc' } ∧
  Safe X W ((((((W2.setCell ⟨G, 1, none⟩ (.slice hc'.az 2 hc'.cz)).setCell ⟨G, 2, none⟩ (.slice hc'.am 2 hc'.cm)).setCell ⟨G, 3, none⟩ (.int .i64 (h'.aF : Int))).setCell ⟨G, 4, none⟩ (.slice hc'.al hc'.lc.length hc'.cl)).setCell ⟨G, 5, none⟩ (.slice hc'.av h'.live.length hc'.cv)).setCell ⟨G, 0, none⟩ (.slice a n c)) := by
 have h1 := hs.r.heap hb hn
 have h2 := h1.words hb2 ho
 have K := aB hs.k hs.r.hr.gs (Below.step hb hb2)
 have F := aJ hs.fz hs.r.hr.gs (Below.step hb hb2)
 have K1 := aG K 1 (.slice hc'.az 2 hc'.cz)
 have K2 := aG K1 2 (.slice hc'.am 2 hc'.cm)
 have K3 := aG K2 3 (.int .i64 (h'.aF : Int))
 have K4 := aG K3 4 (.slice hc'.al hc'.lc.length hc'.cl)
 have K5 := aG K4 5 (.slice hc'.av h'.live.length hc'.cv)
 have K6 := aG K5 0 (.slice a n c)
 have F1 := aH F ⟨G, 1, none⟩ (.slice hc'.az 2 hc'.cz)
 have F2 := aH F1 ⟨G, 2, none⟩ (.slice hc'.am 2 hc'.cm)
 have F3 := aH F2 ⟨G, 3, none⟩ (.int .i64 (h'.aF : Int))
 have F4 := aH F3 ⟨G, 4, none⟩ (.slice hc'.al hc'.lc.length hc'.cl)
 have F5 := aH F4 ⟨G, 5, none⟩ (.slice hc'.av h'.live.length hc'.cv)
 have F6 := aH F5 ⟨G, 0, none⟩ (.slice a n c)
 unfold Sc.vals at K6
 simp only [gE, gG, gH] at K6
 exact ⟨⟨(((((h2.lQ 1 _).lQ 2 _).lQ 3 _).lQ 4 _).lQ 5 _).lQ 0 _, K6, F6⟩, ((((((Safe.fK (Below.step hb hb2)).set hs.r.hr.xg 1 _).set hs.r.hr.xg 2 _).set hs.r.hr.xg 3 _).set hs.r.hr.xg 4 _).set hs.r.hr.xg 5 _).set hs.r.hr.xg 0 _⟩
theorem SS.QE (hs : SS W G X s v) {i : Nat} (hi : i < v.ys.length) {y : Cc} (hy : v.ys[i] = y) {l' : List Sl} {a' : Option Addr} {n' c' : Nat} (hown : W2.ownsRow 0 137 3 (.slice a' n' c') n' (flat aY l')) (hg : W.grownBy W2 (kU y).v.ownBlock)
  (hl : ∀ k, (Value.slice a' n' c').ownBlock = some k → (kU y).v.ownBlock = some k ∨ W.heap.size ≤ k) {gc : Nat} (hgc : v.a2 = some ⟨gc, 0, none⟩) :
  ∃ v', SS (W2.setCell ⟨gc, i * 6 + 4, none⟩ (.slice a' n' c')) G X (s.eU i { y.c with sl := l' }) v' ∧ Safe X W (W2.setCell ⟨gc, i * 6 + 4, none⟩ (.slice a' n' c')) ∧ v'.a2 = v.a2 := by
 subst hy
 have h := hs.ZQ hi hown hg hl hgc
 exact ⟨_, h.1, h.2, rfl⟩
theorem SR.Wh (hs : SR W G X s v) {i : Nat} (hi : i < v.ys.length) {y : Cc} (hy : v.ys[i] = y) {gc : Nat} (hgc : v.a2 = some ⟨gc, 0, none⟩) : (kU y).v.ownBlock ≠ some gc := fun e => by
 subst hy
 have h := (hs.FX hi).off (i := 1) (j := 3) (by simp) (by simp) (by decide) gc (by show (jP v).v.ownBlock = _; unfold jP; rw [hgc]; rfl)
 exact h e
theorem SS.QF (hs : SS W G X s v) {i : Nat} (hi : i < v.ys.length) {y : Cc} (hy : v.ys[i] = y) {g : Nat} (hg : y.a3 = some ⟨g, 0, none⟩) (cpu : Nat) (p : Int) :
  ∃ v', SS (W.setCell ⟨g, cpu, none⟩ (vI p)) G X (s.eU i { y.c with ac := y.c.ac.set cpu p }) v' ∧ Safe X W (W.setCell ⟨g, cpu, none⟩ (vI p)) ∧ v'.a2 = v.a2 := by
 subst hy
 have h := hs.ZP hi hg cpu p
 exact ⟨_, h.1, h.2, rfl⟩
theorem SS.aC9 (hs : SS W G X s v) {i : Nat} (hi : i < v.ys.length) {y : Cc} (hy : v.ys[i] = y) {g : Nat} (hg : y.a2 = some ⟨g, 0, none⟩) {k : Nat} (hk : k < y.c.sl.length) (h' : Int) {n' : Nat} :
  ∃ v', SS ((W.setCell ⟨g, k * 3 + 2, none⟩ (vI h')).setCell ⟨g, k * 3 + 1, none⟩ (vI n')) G X (s.eU i { y.c with sl := y.c.sl.set k ⟨y.c.sl[k].p, n', h'⟩ }) v' ∧ Safe X W ((W.setCell ⟨g, k * 3 + 2, none⟩ (vI h')).setCell ⟨g, k * 3 + 1, none⟩ (vI n')) ∧ v'.a2 = v.a2 := by
 subst hy
 have h1 := hs.LH hi hg hk (x' := ⟨v.ys[i].c.sl[k].p, v.ys[i].c.sl[k].n, h'⟩) (j := 2) (by decide) (u := vI h') rfl rfl
 have hi2 : i < (v.dH i { v.ys[i] with c := { v.ys[i].c with sl := v.ys[i].c.sl.set k ⟨v.ys[i].c.sl[k].p, v.ys[i].c.sl[k].n, h'⟩ } }).ys.length := by
  unfold Sc.dH
  simpa using hi
 have e1 : (v.dH i { v.ys[i] with c := { v.ys[i].c with sl := v.ys[i].c.sl.set k ⟨v.ys[i].c.sl[k].p, v.ys[i].c.sl[k].n, h'⟩ } }).ys[i] = { v.ys[i] with c := { v.ys[i].c with sl := v.ys[i].c.sl.set k ⟨v.ys[i].c.sl[k].p, v.ys[i].c.sl[k].n, h'⟩ } } := by simp [Sc.dH]
 have h2 := h1.1.LH hi2 (g := g) (by rw [e1]; exact hg) (k := k) (by rw [e1]; simpa using hk) (x' := ⟨v.ys[i].c.sl[k].p, n', h'⟩) (j := 1) (by decide) (u := vI n') (by
  simp only [e1, List.getElem_set_self]
  rfl) rfl
 have h3 := h2.1
 have e2 : (s.eU i { v.ys[i].c with sl := v.ys[i].c.sl.set k ⟨v.ys[i].c.sl[k].p, v.ys[i].c.sl[k].n, h'⟩ }).eU i { (v.dH i { v.ys[i] with c := { v.ys[i].c with sl := v.ys[i].c.sl.set k ⟨v.ys[i].c.sl[k].p, v.ys[i].c.sl[k].n, h'⟩ } }).ys[i].c with sl := (v.dH i { v.ys[i] with c := { v.ys[i].c with sl := v.ys[i].c.sl.set k ⟨v.ys[i].c.sl[k].p, v.ys[i].c.sl[k].n, h'⟩ } }).ys[i].c.sl.set k ⟨v.ys[i].c.sl[k].p, n', h'⟩ } = s.eU i { v.ys[i].c with sl := v.ys[i].c.sl.set k ⟨v.ys[i].c.sl[k].p, n', h'⟩ } := by
  unfold Sy.eU
  simp only [e1, List.set_set]
 rw [e2] at h3
 exact ⟨_, h3, h1.2.trans h2.2, rfl⟩
end
end
section
open Go.RowKit

theorem QY (l : List Int) : ∀ u ∈ flat encI l, u.oneCell' = true := by
 intro u hu
 simp only [flat, List.mem_flatMap] at hu
 obtain ⟨r, _, hr⟩ := hu
 simp only [encI, List.mem_cons, List.not_mem_nil, or_false] at hr
 rcases hr with rfl <;> rfl
theorem cloneS (a : Option Addr) (n cap : Nat) (xs : List (List UInt8)) (w : World) (hn : xs.length = n) (hl : n * 16 ≤ 140737488355328) (hr : Row w a (flat encS xs)) :
  Calls Tryz.prog 87 #[.slice a n cap] w fun e w' => ∃ a' c', e = .returned (.slice a' n c') ∧ w'.ownsRow w.heap.size 9 1 (.slice a' n c') n (flat encS xs) ∧ Below w.heap.size w w' := by
 have q22 : ∀ (w : World) (a : Option Addr) (n c n' c' : Nat), (binOp .eql 91 (.slice a n c) (.slice none n' c')).run Tryz.prog w = .ok (.bool a.isNone) w := fun w a n c n' c' => Lib.run_eql_slice_nil w _ _ a n c n' c' Tryz.underlying91
 subst hn
 cases a with
 | none =>
  have hx : xs = [] := by
   cases xs with
   | nil => rfl
   | cons u l => obtain ⟨b, off, e1, _⟩ := aN aU (by decide) hr (j := 0) (by simp); cases e1
  subst hx
  go_enter Tryz.func87, Tryz.ntmps87
  go_wp2
  go_ret
  exact ⟨none, 0, rfl, World.ownsRow_nil _ _ _ _, Below.refl _ _⟩
 | some ad =>
  go_enter Tryz.func87, Tryz.ntmps87
  go_wp2_with (at_builtin; refine fQ rfl _ _ 91 rfl w.heap.size 9 (.string ByteArray.empty) 1 16 Tryz.underlying91 zK rfl (by decide) (by decide) _ _ _ _ rfl (World.ownsRow_made w #[] 0 (Nat.le_refl _) (Nat.zero_le _) (by simp)) (some ad) xs.length cap (flat encS xs) rfl ?q1 ?q2 ?q3 ?q4 ?q5 ?_)
  case q1 => exact flat_length aU xs
  case q2 => exact hr.below (aC _ _)
  case q3 => exact uV xs
  case q4 => rw [Nat.zero_add]; exact hl
  case q5 => simp
  intro a' c' w1 hown hgrow
  go_wp2
  go_ret
  exact ⟨a', c', rfl, hown, (aC w _).grown hgrow (by simp) (by intro k hk; simp [Value.ownBlock] at hk; omega)⟩

theorem UM (a : Option Addr) (n cap : Nat) (xs : List Sl) (w : World) (hn : xs.length = n) (hl : n * 24 ≤ 140737488355328) (hr : Row w a (flat aY xs)) :
  Calls Tryz.prog 88 #[.slice a n cap] w fun e w' => ∃ a' c', e = .returned (.slice a' n c') ∧ w'.ownsRow w.heap.size 137 3 (.slice a' n c') n (flat aY xs) ∧ Below w.heap.size w w' := by
 have q22 : ∀ (w : World) (a : Option Addr) (n c n' c' : Nat), (binOp .eql 92 (.slice a n c) (.slice none n' c')).run Tryz.prog w = .ok (.bool a.isNone) w := fun w a n c n' c' => Lib.run_eql_slice_nil w _ _ a n c n' c' Tryz.underlying92
 subst hn
 cases a with
 | none =>
  have hx : xs = [] := by
   cases xs with
   | nil => rfl
   | cons u l => obtain ⟨b, off, e1, _⟩ := aN aK (by decide) hr (j := 0) (by simp); cases e1
  subst hx
  go_enter Tryz.func88, Tryz.ntmps88
  go_wp2
  go_ret
  exact ⟨none, 0, rfl, World.ownsRow_nil _ _ _ _, Below.refl _ _⟩
 | some ad =>
  go_enter Tryz.func88, Tryz.ntmps88
  go_wp2_with (at_builtin; refine fQ rfl _ _ 92 rfl w.heap.size 137 (.agg #[.int .i64 0, .int .i64 0, .int .i64 0]) 3 24 Tryz.underlying92 uU rfl (by decide) (by decide) _ _ _ _ rfl (World.ownsRow_made w #[] 0 (Nat.le_refl _) (Nat.zero_le _) (by simp)) (some ad) xs.length cap (flat aY xs) rfl ?q1 ?q2 ?q3 ?q4 ?q5 ?_)
  case q1 => exact flat_length aK xs
  case q2 => exact hr.below (aC _ _)
  case q3 => exact qR xs
  case q4 => rw [Nat.zero_add]; exact hl
  case q5 => simp
  intro a' c' w1 hown hgrow
  go_wp2
  go_ret
  exact ⟨a', c', rfl, hown, (aC w _).grown hgrow (by simp) (by intro k hk; simp [Value.ownBlock] at hk; omega)⟩

theorem QZ (a : Option Addr) (n cap : Nat) (xs : List Int) (w : World) (hn : xs.length = n) (hl : n * 8 ≤ 140737488355328) (hr : Row w a (flat encI xs)) :
  Calls Tryz.prog 85 #[.slice a n cap] w fun e w' => ∃ a' c', e = .returned (.slice a' n c') ∧ w'.ownsRow w.heap.size 3 1 (.slice a' n c') n (flat encI xs) ∧ Below w.heap.size w w' := by
 have q22 : ∀ (w : World) (a : Option Addr) (n c n' c' : Nat), (binOp .eql 39 (.slice a n c) (.slice none n' c')).run Tryz.prog w = .ok (.bool a.isNone) w := fun w a n c n' c' => Lib.run_eql_slice_nil w _ _ a n c n' c' Tryz.underlying39
 subst hn
 cases a with
 | none =>
  have hx : xs = [] := by
   cases xs with
   | nil => rfl
   | cons u l => obtain ⟨b, off, e1, _⟩ := aN qA (by decide) hr (j := 0) (by simp); cases e1
  subst hx
  go_enter Tryz.func85, Tryz.ntmps85
  go_wp2
  go_ret
  exact ⟨none, 0, rfl, World.ownsRow_nil _ _ _ _, Below.refl _ _⟩
 | some ad =>
  go_enter Tryz.func85, Tryz.ntmps85
  go_wp2_with (at_builtin; refine fQ rfl _ _ 39 rfl w.heap.size 3 (.int .i64 0) 1 8 Tryz.underlying39 kY rfl (by decide) (by decide) _ _ _ _ rfl (World.ownsRow_made w #[] 0 (Nat.le_refl _) (Nat.zero_le _) (by simp)) (some ad) xs.length cap (flat encI xs) rfl ?q1 ?q2 ?q3 ?q4 ?q5 ?_)
  case q1 => exact flat_length qA xs
  case q2 => exact hr.below (aC _ _)
  case q3 => exact QY xs
  case q4 => rw [Nat.zero_add]; exact hl
  case q5 => simp
  intro a' c' w1 hown hgrow
  go_wp2
  go_ret
  exact ⟨a', c', rfl, hown, (aC w _).grown hgrow (by simp) (by intro k hk; simp [Value.ownBlock] at hk; omega)⟩
end
end Go.Proofs.YtcmpmobhongkiaaGreatDoor
