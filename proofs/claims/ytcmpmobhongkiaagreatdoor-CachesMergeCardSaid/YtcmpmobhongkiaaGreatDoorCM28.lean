/- texts of this claim, joined. -/
import Derived.Test.YtcmpmobhongkiaaGreatDoorCM0
import Derived.Test.YtcmpmobhongkiaaGreatDoorCM20
import Derived.Test.YtcmpmobhongkiaaGreatDoorCM21
import Derived.Test.YtcmpmobhongkiaaGreatDoorCM22
import Derived.Test.YtcmpmobhongkiaaGreatDoorCM27
import Derived.Test.YtcmpmobhongkiaaGreatDoorCM8
set_option linter.unusedVariables false
set_option linter.unusedSimpArgs false
namespace Go.Proofs.YtcmpmobhongkiaaGreatDoor
section
open Go.RowKit

def vJ (v : Sc) (s : Sy) : Rs := ⟨3, 1, .slice v.a1 v.n1 v.c1, v.n1, s.w.map vI⟩
def jR (v : Sc) : Rs := ⟨94, 6, .slice v.a2 v.ys.length v.c2, v.ys.length, flat bV v.ys⟩
def mQ (y : Cc) : Rs := ⟨9, 1, .slice y.a1 y.n1 y.c1, y.n1, flat encS y.c.ns⟩
def kS (y : Cc) : Rs := ⟨137, 3, .slice y.a2 y.n2 y.c2, y.n2, flat aX y.c.sl⟩
def nS (y : Cc) : Rs := ⟨3, 1, .slice y.a3 y.n3 y.c3, y.n3, y.c.ac.map vI⟩
def eU (y : Cc) : List Rs := [mQ y, kS y, nS y]
def Sc.rows (v : Sc) (s : Sy) : List Rs := vJ v s :: jR v :: v.ys.flatMap eU
def Sc.front (v : Sc) (s : Sy) (y : Cc) (ys : List Cc) : List Rs := vJ v s :: jR v :: mQ y :: kS y :: nS y :: ys.flatMap eU

theorem xX {α : Type} : ∀ {l : List α} {i : Nat} (hi : i < l.length), l.Perm (l[i] :: l.eraseIdx i)
  | a :: l, 0, _ => List.Perm.refl _
  | a :: l, i + 1, hi => by
    simp only [List.getElem_cons_succ, List.eraseIdx_cons_succ]
    exact ((xX (l := l) (i := i) (by simpa using hi)).cons a).trans (.swap _ _ _)
theorem wP (v : Sc) (s : Sy) {i : Nat} (hi : i < v.ys.length) : (v.rows s).Perm (v.front s v.ys[i] (v.ys.eraseIdx i)) :=
  ((List.Perm.flatMap_right eU (xX hi)).cons _).cons _

structure SR (W : World) (G : Nat) (X : Nat → Prop) (s : Sy) (v : Sc) : Prop where
  own : dA W 0 (v.rows s)
  og : ∀ r ∈ v.rows s, ∀ g, r.v.ownBlock = some g → g ≠ G ∧ ¬ X g
  hr : HR W G X s.h v.hc
  hd : ∀ r ∈ v.rows s, ∀ q ∈ v.hc.rows s.h ++ v.hc.reads s.h, r.off q
  cy : v.ys.map (·.c) = s.cs
structure SS (W : World) (G : Nat) (X : Nat → Prop) (s : Sy) (v : Sc) : Prop where
  r : SR W G X s v
  k : ∀ o, W.cell? ⟨G, o, none⟩ = (v.vals s)[o]?
  fz : ∀ o, W.frozen? ⟨G, o, none⟩ = false
def kH (W : World) (B : Nat) (s : Sy) (v : Sc) : Prop := SR W B (fun k => k < B) s v

theorem zL {w w' : World} {base : Nat} {e : TypeId} {size : Nat} {v : Value} {n : Nat} {xs : List Value} (h : w.ownsRow base e size v n xs) (hb : ∀ k, v.ownBlock = some k → k < w.heap.size → w'.heap[k]? = w.heap[k]?) : w'.ownsRow base e size v n xs := by
  refine ⟨h.1, ?_⟩
  rcases h.2 with h' | ⟨g, cap, cur, h1, h2, hgg, rest⟩
  · exact .inl h'
  · refine .inr ⟨g, cap, cur, h1, h2, ?_, rest⟩
    rw [hb g (by rw [h1]; rfl) (Array.getElem?_eq_some_iff.1 hgg).1]
    exact hgg
section
variable {W W' : World} {G : Nat} {X Y : Nat → Prop} {h : Hp} {c : Hc}
theorem HR.kept (hs : HR W G X h c) (sf : Safe Y W W') (hy : ∀ q ∈ c.rows h ++ c.reads h, ∀ k, q.v.ownBlock = some k → Y k) : HR W' G X h c :=
  ⟨⟨fun r hr => zL (hs.own.each r hr) fun k hk hlt => sf.block k hlt (hy r (List.mem_append_left _ hr) k hk), hs.own.Ci⟩,
   fun r hr => zL (hs.ro r hr) fun k hk hlt => sf.block k hlt (hy r (List.mem_append_right _ hr) k hk), hs.ds, hs.og, hs.rg, hs.rx, gI hs.gs sf.size, hs.xg, fun k hk => gI (hs.xs k hk) sf.size, hs.e0, hs.e1, hs.ll⟩
theorem HR.lift {B : Nat} (hs : HR W B (fun k => k < B) h c) (hG : G < B) (hX : ∀ k, X k → k < B) (hxg : ¬ X G) : HR W G X h c :=
  ⟨hs.own, hs.ro, hs.ds, fun r hr g hg => by have := (hs.og r hr g hg).2; exact ⟨by omega, fun e => this (hX g e)⟩, fun r hr e => hs.rx r hr G e hG, fun r hr g hg e => hs.rx r hr g hg (hX g e), Nat.lt_trans hG hs.gs, hxg, fun k hk => Nat.lt_trans (hX k hk) hs.gs, hs.e0, hs.e1, hs.ll⟩
theorem HR.any {G' : Nat} {X' : Nat → Prop} (hs : HR W G' X' h c) (hG : G < W.heap.size) (hq : ∀ q ∈ c.rows h ++ c.reads h, ∀ k, q.v.ownBlock = some k → k ≠ G ∧ ¬ X k) (hX : ∀ k, X k → k < W.heap.size) (hxg : ¬ X G) : HR W G X h c :=
  ⟨hs.own, hs.ro, hs.ds, fun r hr g hg => hq r (List.mem_append_left _ hr) g hg, fun r hr e => (hq r (List.mem_append_right _ hr) G e).1 rfl, fun r hr g hg => (hq r (List.mem_append_right _ hr) g hg).2, hG, hxg, hX, hs.e0, hs.e1, hs.ll⟩
theorem HR.lt (hs : HR W G X h c) : ∀ q ∈ c.rows h ++ c.reads h, ∀ k, q.v.ownBlock = some k → k < W.heap.size := fun q hq k hk => by
  rcases List.mem_append.1 hq with hq | hq
  · exact ((hs.own.each q hq).lt k hk).2
  · exact ((hs.ro q hq).lt k hk).2
theorem HR.gne (hs : HR W G X h c) : ∀ q ∈ c.rows h ++ c.reads h, q.v.ownBlock ≠ some G := fun q hq e => by
  rcases List.mem_append.1 hq with hq | hq
  · exact (hs.og q hq G e).1 rfl
  · exact hs.rg q hq e
end

section
variable {W W' W1 : World} {G : Nat} {X Y : Nat → Prop} {s s' : Sy} {v v' : Sc}
theorem SR.lt (hs : SR W G X s v) : ∀ r ∈ v.rows s, ∀ g, r.v.ownBlock = some g → g < W.heap.size := fun r hr g hg => (hs.own.lt r hr g hg).2
theorem SR.below (hs : SR W G X s v) (hb : Below W.heap.size W W') : SR W' G X s v :=
  ⟨hs.own.below hb, hs.og, hs.hr.below hb, hs.hd, hs.cy⟩
theorem SS.below (hs : SS W G X s v) (hb : Below W.heap.size W W') : SS W' G X s v :=
  ⟨hs.r.below hb, aC hs.k hs.r.hr.gs hb, aJ hs.fz hs.r.hr.gs hb⟩
def Sc.blk (v : Sc) (s : Sy) (G k : Nat) : Prop := k = G ∨ ∃ r ∈ v.rows s, r.v.ownBlock = some k
theorem SR.Tv (hs : SR W G X s v) {k : Nat} (hk : X k) : ¬ v.blk s G k := by
  rintro (rfl | ⟨r, hr, e⟩)
  · exact hs.hr.xg hk
  · exact (hs.og r hr k e).2 hk
def Sc.fr (v : Sc) (s : Sy) (G : Nat) (X : Nat → Prop) (g : Nat) : Prop := g ≠ G ∧ ¬ X g ∧ ∀ q ∈ v.hc.rows s.h ++ v.hc.reads s.h, q.v.ownBlock ≠ some g
theorem SR.fresh (hs : SR W G X s v) {g : Nat} (hg : W.heap.size ≤ g) : v.fr s G X g :=
  ⟨fun e => by have := hs.hr.gs; omega, fun e => by have := hs.hr.xs g e; omega, fun q hq e => by have := hs.hr.lt q hq g e; omega⟩
theorem SR.step (hs : SR W G X s v) (sf : Safe (fun k => ¬ v.blk s G k) W W') (hh : s'.h = s.h) (hc : v'.hc = v.hc) (own : dA W' 0 (v'.rows s')) (hb : ∀ r ∈ v'.rows s', ∀ g, r.v.ownBlock = some g → (∃ q ∈ v.rows s, q.v.ownBlock = some g) ∨ v.fr s G X g) (cy : v'.ys.map (·.c) = s'.cs) : SR W' G X s' v' := by
  refine ⟨own, fun r hr g hg => ?_, ?_, fun r hr q hq g h1 h2 => ?_, cy⟩
  · rcases hb r hr g hg with ⟨q, hq, e⟩ | h
    · exact hs.og q hq g e
    · exact ⟨h.1, h.2.1⟩
  · rw [hh, hc]
    refine hs.hr.kept sf fun q hq k hk => ?_
    rintro (rfl | ⟨r, hr, e⟩)
    · exact hs.hr.gne q hq hk
    · exact hs.hd r hr q hq k e hk
  · rw [hh, hc] at hq
    rcases hb r hr g h1 with ⟨q', hq', e⟩ | h
    · exact hs.hd q' hq' q hq g e h2
    · exact h.2.2 q hq h2
theorem SR.heap (hs : SR W G X s v) (hb : Below W.heap.size W W1) {h : Hp} {c : Hc} (hn : lK W1 W.heap.size h c) : SR W1 G X { s with h := h } { v with hc := c } := by
  have hrow : ({ v with hc := c } : Sc).rows { s with h := h } = v.rows s := rfl
  refine ⟨hrow ▸ hs.own.below hb, fun r hr => hs.og r (hrow ▸ hr), HR.lift hn hs.hr.gs hs.hr.xs hs.hr.xg, fun r hr q hq g h1 h2 => ?_, hs.cy⟩
  have h3 := hs.lt r (hrow ▸ hr) g h1
  rcases List.mem_append.1 hq with hq | hq
  · exact (hn.og q hq g h2).2 h3
  · exact hn.rx q hq g h2 h3
theorem SR.words (hs : SR W G X s v) (hb : Below W.heap.size W W1) {xs : List Int} {a : Option Addr} {n c : Nat} (ho : W1.ownsRow W.heap.size 3 1 (.slice a n c) n (xs.map vI)) : SR W1 G X { s with w := xs } { v with a1 := a, n1 := n, c1 := c } := by
  have h1 := hs.own.below hb
  have h2 : dA W1 0 ((⟨3, 1, .slice a n c, n, xs.map vI⟩ : Rs) :: jR v :: v.ys.flatMap eU) :=
    dA.cons (h1.sub (List.sublist_cons_self _ _)) (r' := ⟨3, 1, .slice a n c, n, xs.map vI⟩) ho (Nat.zero_le _) fun r hr g hg => hs.lt r (List.mem_cons_of_mem _ hr) g hg
  refine hs.step (Safe.fP hb) rfl rfl h2 (fun r hr g hg => ?_) hs.cy
  rcases List.mem_cons.1 hr with rfl | hr
  · exact .inr (hs.fresh (ho.lt g hg).1)
  · exact .inl ⟨r, List.mem_cons_of_mem _ hr, hg⟩
theorem SR.more (hs : SR W G X s v) (hy : ∀ k, Y k → k < W.heap.size ∧ ¬ v.blk s G k ∧ ∀ q ∈ v.hc.rows s.h ++ v.hc.reads s.h, q.v.ownBlock ≠ some k) : SR W G Y s v :=
  ⟨hs.own, fun r hr g hg => ⟨(hs.og r hr g hg).1, fun e => (hy g e).2.1 (.inr ⟨r, hr, hg⟩)⟩, hs.hr.more fun k hk => ⟨(hy k hk).1, fun e => (hy k hk).2.1 (.inl e), fun r hr => (hy k hk).2.2 r (List.mem_append_left _ hr), fun r hr => (hy k hk).2.2 r (List.mem_append_right _ hr)⟩, hs.hd, hs.cy⟩
theorem SS.more (hs : SS W G X s v) (hy : ∀ k, Y k → k < W.heap.size ∧ ¬ v.blk s G k ∧ ∀ q ∈ v.hc.rows s.h ++ v.hc.reads s.h, q.v.ownBlock ≠ some k) : SS W G Y s v := ⟨hs.r.more hy, hs.k, hs.fz⟩
theorem SS.new (hs : SS W G X s v) (hb : Below W.heap.size W W') : SS W' G (fun k => X k ∨ (W.heap.size ≤ k ∧ k < W'.heap.size)) s v :=
  (hs.below hb).more fun k hk => by
    rcases hk with hk | ⟨h1, h2⟩
    · refine ⟨gI (hs.r.hr.xs k hk) hb.size, hs.r.Tv hk, fun q hq e => ?_⟩
      rcases List.mem_append.1 hq with hq | hq
      · exact (hs.r.hr.og q hq k e).2 hk
      · exact hs.r.hr.rx q hq k e hk
    · refine ⟨h2, ?_, fun q hq e => ?_⟩
      · rintro (rfl | ⟨r, hr, e⟩)
        · have := hs.r.hr.gs; omega
        · have := hs.r.lt r hr k e; omega
      · have := hs.r.hr.lt q hq k e; omega
theorem SS.sub (hs : SS W G X s v) (hy : ∀ k, Y k → X k) : SS W G Y s v :=
  ⟨⟨hs.r.own, fun r hr g hg => ⟨(hs.r.og r hr g hg).1, fun e => (hs.r.og r hr g hg).2 (hy g e)⟩, hs.r.hr.sub hy, hs.r.hd, hs.r.cy⟩, hs.k, hs.fz⟩
theorem SR.lift {B : Nat} (hs : kH W B s v) (hG : G < B) (hX : ∀ k, X k → k < B) (hxg : ¬ X G) : SR W G X s v :=
  ⟨hs.own, fun r hr g hg => by have := (hs.og r hr g hg).2; exact ⟨by omega, fun e => this (hX g e)⟩, hs.hr.lift hG hX hxg, hs.hd, hs.cy⟩
theorem SR.far (hs : SR W G X s v) {g : Nat} (hx : ¬ v.blk s G g) (hq : ∀ q ∈ v.hc.rows s.h ++ v.hc.reads s.h, q.v.ownBlock ≠ some g) (i : Nat) (u : Value) : SR (W.setCell ⟨g, i, none⟩ u) G X s v :=
  ⟨hs.own.far (fun r hr e => hx (.inr ⟨r, hr, e⟩)) i u, hs.og, hs.hr.kept (Y := fun k => k ≠ g) ((Safe.refl _ W).set (by simp) i u) (fun q h k hk e => hq q h (e ▸ hk)), hs.hd, hs.cy⟩
theorem SS.dZ (hs : SS W G X s v) {g : Nat} (hx : X g) (i : Nat) (u : Value) : SS (W.setCell ⟨g, i, none⟩ u) G X s v :=
  ⟨hs.r.far (hs.r.Tv hx) (fun q hq e => by
    rcases List.mem_append.1 hq with hq | hq
    · exact (hs.r.hr.og q hq g e).2 hx
    · exact hs.r.hr.rx q hq g e hx) i u, aA hs.k (fun e => hs.r.hr.xg (e ▸ hx)) i u, aH hs.fz _ _⟩
theorem SR.lS (hs : SR W G X s v) (i : Nat) (u : Value) : SR (W.setCell ⟨G, i, none⟩ u) G X s v :=
  ⟨hs.own.far (fun r hr e => (hs.og r hr G e).1 rfl) i u, hs.og, hs.hr.lS i u, hs.hd, hs.cy⟩
theorem SR.y (hs : SR W G X s v) {y : Cc} (hy : y ∈ v.ys) : (mQ y).on W 0 ∧ (kS y).on W 0 ∧ (nS y).on W 0 := by
  have h : ∀ r ∈ eU y, r.on W 0 := fun r hr => hs.own.each r (by
    unfold Sc.rows
    exact List.mem_cons_of_mem _ (List.mem_cons_of_mem _ (List.mem_flatMap.2 ⟨y, hy, hr⟩)))
  exact ⟨h _ (by simp [eU]), h _ (by simp [eU]), h _ (by simp [eU])⟩
theorem SR.at (hs : SR W G X s v) : rP W v s := by
  have hw : (vJ v s).on W 0 := hs.own.each _ (by simp [Sc.rows])
  have hc : (jR v).on W 0 := hs.own.each _ (by simp [Sc.rows])
  refine ⟨?_, aY hw, hs.hr.at, aY hc, hs.cy, fun y hy => ?_, dF hw, dF hc⟩
  · have := hw.1
    unfold vJ at this
    simpa using this
  · obtain ⟨h1, h2, h3⟩ := hs.y hy
    refine ⟨aZ aU (by decide) h1, aZ aK (by decide) h2, ?_, aY h1, aY h2, aY h3, dF h1, dF h2, dF h3⟩
    have := h3.1
    unfold nS at this
    simpa using this
end
end
section
open Go.RowKit

section
variable {W W' W9 : World} {G : Nat} {X Y : Nat → Prop} {s s' : Sy} {v v' : Sc}
theorem dS (v : Sc) (s : Sy) : jR v ∈ v.rows s := by simp [Sc.rows]
theorem nC (v : Sc) (s : Sy) : vJ v s ∈ v.rows s := by simp [Sc.rows]
theorem iY {v : Sc} {s : Sy} {y : Cc} (hy : y ∈ v.ys) {r : Rs} (hr : r ∈ eU y) : r ∈ v.rows s := by
 unfold Sc.rows
 exact List.mem_cons_of_mem _ (List.mem_cons_of_mem _ (List.mem_flatMap.2 ⟨y, hy, hr⟩))
theorem SS.Zg (hs : SS W G X s v) {y : Cc} (hy : dA W 0 (nS y :: kS y :: mQ y :: v.rows s)) (hfr : ∀ r ∈ eU y, ∀ g, r.v.ownBlock = some g → v.fr s G X g) {g9 cap9 : Nat} (hg9 : W.grownBy W9 (jR v).v.ownBlock)
  (ho9 : W9.ownsRow 0 94 6 (.slice (some ⟨g9, 0, none⟩) (v.ys.length + 1) cap9) (v.ys.length + 1) (flat bV (v.ys ++ [y]))) (hl9 : (jR v).v.ownBlock = some g9 ∨ W.heap.size ≤ g9) :
  SS (W9.setCell ⟨G, 6, none⟩ (.slice (some ⟨g9, 0, none⟩) (v.ys.length + 1) cap9)) G X { s with cs := s.cs ++ [y.c] } { v with a2 := some ⟨g9, 0, none⟩, c2 := cap9, ys := v.ys ++ [y] } ∧
  Safe X W (W9.setCell ⟨G, 6, none⟩ (.slice (some ⟨g9, 0, none⟩) (v.ys.length + 1) cap9)) := by
 have hlen : (v.ys ++ [y]).length = v.ys.length + 1 := by simp
 have own9 : dA W9 0 (nS y :: kS y :: mQ y :: vJ v s :: (⟨94, 6, .slice (some ⟨g9, 0, none⟩) (v.ys.length + 1) cap9, v.ys.length + 1, flat bV (v.ys ++ [y])⟩ : Rs) :: v.ys.flatMap eU) :=
  hy.grown (i := 4) (by simp [Sc.rows]) hg9 (r' := ⟨94, 6, .slice (some ⟨g9, 0, none⟩) (v.ys.length + 1) cap9, v.ys.length + 1, flat bV (v.ys ++ [y])⟩) ho9 (fun g hg => by
   obtain rfl : g9 = g := by simpa [Value.ownBlock] using hg
   exact hl9)
 have hcs : jR { v with a2 := some ⟨g9, 0, none⟩, c2 := cap9, ys := v.ys ++ [y] } = ⟨94, 6, .slice (some ⟨g9, 0, none⟩) (v.ys.length + 1) cap9, v.ys.length + 1, flat bV (v.ys ++ [y])⟩ := by
  unfold jR
  simp only [hlen]
 have hrows : ({ v with a2 := some ⟨g9, 0, none⟩, c2 := cap9, ys := v.ys ++ [y] } : Sc).rows { s with cs := s.cs ++ [y.c] } = vJ v s :: (⟨94, 6, .slice (some ⟨g9, 0, none⟩) (v.ys.length + 1) cap9, v.ys.length + 1, flat bV (v.ys ++ [y])⟩ : Rs) :: (v.ys.flatMap eU ++ [mQ y, kS y, nS y]) := by
  unfold Sc.rows
  rw [hcs]
  simp only [List.flatMap_append, List.flatMap_cons, List.flatMap_nil, List.append_nil]
  rfl
 have hperm : (nS y :: kS y :: mQ y :: vJ v s :: (⟨94, 6, .slice (some ⟨g9, 0, none⟩) (v.ys.length + 1) cap9, v.ys.length + 1, flat bV (v.ys ++ [y])⟩ : Rs) :: v.ys.flatMap eU).Perm (({ v with a2 := some ⟨g9, 0, none⟩, c2 := cap9, ys := v.ys ++ [y] } : Sc).rows { s with cs := s.cs ++ [y.c] }) := by
  rw [hrows]
  have h1 : ∀ (l : List Rs), (nS y :: kS y :: mQ y :: l).Perm (l ++ [mQ y, kS y, nS y]) := fun l =>
   (List.perm_append_comm (l₁ := [nS y, kS y, mQ y]) (l₂ := l)).trans (List.Perm.append_left l (List.reverse_perm [mQ y, kS y, nS y]))
  exact h1 (_ :: _ :: v.ys.flatMap eU)
 have hsf : Safe (fun k => ¬ v.blk s G k) W W9 := Safe.jO hg9 fun k hk e => hk (.inr ⟨jR v, dS v s, e.symm⟩)
 have h9 := hs.r.step (s' := { s with cs := s.cs ++ [y.c] }) (v' := { v with a2 := some ⟨g9, 0, none⟩, c2 := cap9, ys := v.ys ++ [y] }) hsf rfl rfl (own9.perm hperm) (fun r hr g hg => by
  rw [hrows] at hr
  rcases List.mem_cons.1 hr with rfl | hr
  ·exact .inl ⟨_, nC v s, hg⟩
  ·rcases List.mem_cons.1 hr with rfl | hr
   ·obtain rfl : g9 = g := by simpa [Value.ownBlock] using hg
    rcases hl9 with h | h
    ·exact .inl ⟨_, dS v s, h⟩
    ·exact .inr (hs.r.fresh h)
   ·rcases List.mem_append.1 hr with hr | hr
    ·exact .inl ⟨r, List.mem_cons_of_mem _ (List.mem_cons_of_mem _ hr), hg⟩
    ·exact .inr (hfr r hr g hg)) (by simp [hs.r.cy])
 have hG : some G ≠ (jR v).v.ownBlock := fun e => (hs.r.og _ (dS v s) G e.symm).1 rfl
 have K := aG (bH hs.k hs.r.hr.gs hg9 hG) 6 (.slice (some ⟨g9, 0, none⟩) (v.ys.length + 1) cap9)
 have hv : ({ v with a2 := some ⟨g9, 0, none⟩, c2 := cap9, ys := v.ys ++ [y] } : Sc).vals { s with cs := s.cs ++ [y.c] } = (v.vals s).setIfInBounds 6 (.slice (some ⟨g9, 0, none⟩) (v.ys.length + 1) cap9) := by
  unfold Sc.vals
  simp only [hlen]
  rfl
 rw [← hv] at K
 exact ⟨⟨h9.lS 6 _, K, aH (bI hs.fz hs.r.hr.gs hg9 hG) _ _⟩, (Safe.jO hg9 fun k hk e => (hs.r.og _ (dS v s) k e.symm).2 hk).set hs.r.hr.xg 6 _⟩
theorem SS.three {w5 wd wa wb wc : World} {T : Nat} (hs : SS w5 G X s v) (hX : X T) (hd : Below w5.heap.size w5 wd) (hba : Below wd.heap.size wd wa) (hbb : Below wa.heap.size wa wb) (hbc : Below wb.heap.size wb wc) {y : Cc}
  (hoa : wa.ownsRow wd.heap.size 9 1 (.slice y.a1 y.n1 y.c1) y.n1 (flat encS y.c.ns)) (hob : wb.ownsRow wa.heap.size 137 3 (.slice y.a2 y.n2 y.c2) y.n2 (flat aX y.c.sl)) (hoc : wc.ownsRow wb.heap.size 3 1 (.slice y.a3 y.n3 y.c3) y.n3 (flat encI y.c.ac)) (i1 i2 i3 : Nat) (u1 u2 u3 : Value) :
  SS (((wc.setCell ⟨T, i1, none⟩ u1).setCell ⟨T, i2, none⟩ u2).setCell ⟨T, i3, none⟩ u3) G X s v ∧ dA (((wc.setCell ⟨T, i1, none⟩ u1).setCell ⟨T, i2, none⟩ u2).setCell ⟨T, i3, none⟩ u3) 0 (nS y :: kS y :: mQ y :: v.rows s) ∧ (∀ r ∈ eU y, ∀ g, r.v.ownBlock = some g → v.fr s G X g) := by
 rw [kR] at hoc
 have b5a := Below.step hd hba
 have hT : T < w5.heap.size := hs.r.hr.xs T hX
 have h5d := hd.size
 have hda := hba.size
 have hab := hbb.size
 have o1 : dA wa 0 (mQ y :: v.rows s) := (hs.r.own.below b5a).cons (r' := mQ y) hoa (Nat.zero_le _) fun r hr g hg => gI (hs.r.lt r hr g hg) h5d
 have o2 : dA wb 0 (kS y :: mQ y :: v.rows s) := (o1.below hbb).cons (r' := kS y) hob (Nat.zero_le _) fun r hr g hg => (o1.lt r hr g hg).2
 have o3 : dA wc 0 (nS y :: kS y :: mQ y :: v.rows s) := (o2.below hbc).cons (r' := nS y) hoc (Nat.zero_le _) fun r hr g hg => (o2.lt r hr g hg).2
 have hge : ∀ r ∈ eU y, ∀ g, r.v.ownBlock = some g → w5.heap.size ≤ g := fun r hr g hg => by
  simp only [eU, List.mem_cons, List.not_mem_nil, or_false] at hr
  rcases hr with rfl | rfl | rfl
  ·have := (hoa.lt g hg).1; omega
  ·have := (hob.lt g hg).1; omega
  ·have := (hoc.lt g hg).1; omega
 have hne : ∀ r ∈ nS y :: kS y :: mQ y :: v.rows s, r.v.ownBlock ≠ some T := fun r hr e => by
  simp only [List.mem_cons] at hr
  rcases hr with rfl | rfl | rfl | hr
  ·have := hge (nS y) (by simp [eU]) T e; omega
  ·have := hge (kS y) (by simp [eU]) T e; omega
  ·have := hge (mQ y) (by simp [eU]) T e; omega
  ·exact (hs.r.og r hr T e).2 hX
 exact ⟨(((hs.below (Below.step b5a (Below.step hbb hbc))).dZ hX i1 u1).dZ hX i2 u2).dZ hX i3 u3, ((o3.far hne i1 u1).far hne i2 u2).far hne i3 u3, fun r hr g hg => hs.r.fresh (hge r hr g hg)⟩
theorem SR.toX (hs : SR W G X s v) {B : Nat} (hB : X B) (hy : ∀ k, Y k → X k) (hn : ¬ Y B) : SR W B Y s v :=
 ⟨hs.own, fun r hr g hg => ⟨fun e => (hs.og r hr g hg).2 (e ▸ hB), fun e => (hs.og r hr g hg).2 (hy g e)⟩, hs.hr.any (hs.hr.xs B hB) (fun q hq k hk => by
  have h : ¬ X k := fun e => by
   rcases List.mem_append.1 hq with hq | hq
   ·exact (hs.hr.og q hq k hk).2 e
   ·exact hs.hr.rx q hq k hk e
  exact ⟨fun e => h (e ▸ hB), fun e => h (hy k e)⟩) (fun k hk => hs.hr.xs k (hy k hk)) hn, hs.hd, hs.cy⟩
theorem SR.dZ (hs : SR W G X s v) {g : Nat} (hx : X g) (i : Nat) (u : Value) : SR (W.setCell ⟨g, i, none⟩ u) G X s v :=
 hs.far (hs.Tv hx) (fun q hq e => by
  rcases List.mem_append.1 hq with hq | hq
  ·exact (hs.hr.og q hq g e).2 hx
  ·exact hs.hr.rx q hq g e hx) i u
end
end
section
open Go.RowKit

theorem qY {α : Type} {enc : α → List Value} {k : Nat} (hk : ∀ x, (enc x).length = k) {i : Nat} (hi : i < k) {u : Value} {x : α} : ∀ (l : List α) (j : Nat) (hj : j < l.length), enc x = (enc l[j]).set i u → (flat enc l).set (j * k + i) u = flat enc (l.set j x)
 | a :: l, 0, _, hx => by
  rw [dG, gG, dG, Nat.zero_mul, Nat.zero_add, List.set_append_left _ _ (by rw [hk]; exact hi)]
  rw [show enc x = (enc a).set i u from hx]
 | a :: l, j + 1, hj, hx => by
  rw [dG, gH, dG, List.set_append_right _ _ (by rw [hk, Nat.add_mul]; omega), hk, show (j + 1) * k + i - k = j * k + i by rw [Nat.add_mul]; omega, qY hk hi l j (by simpa using hj) hx]
theorem wQ {α : Type} {enc : α → List Value} {x : α} : ∀ (l : List α) (j : Nat) (hj : j < l.length), enc x = enc l[j] → flat enc (l.set j x) = flat enc l
 | a :: l, 0, _, hx => by rw [gG, dG, dG, show enc x = enc a from hx]
 | a :: l, j + 1, hj, hx => by rw [gH, dG, dG, wQ l j (by simpa using hj) hx]

section
variable {W W' W1 W2 W9 : World} {G : Nat} {X Y : Nat → Prop} {s s' : Sy} {v v' : Sc}
def Sc.dI (v : Sc) (i : Nat) (y : Cc) : Sc := { v with ys := v.ys.set i y }
theorem qZ (v : Sc) (s : Sy) (i : Nat) (y : Cc) (c : Ca) : (v.dI i y).vals (s.dU i c) = v.vals s := by
 unfold Sc.vals Sc.dI
 simp only [List.length_set]
 rfl
theorem SR.upC (hs : SR W G X s v) {i : Nat} (hi : i < v.ys.length) {y' : Cc} (sf : Safe (fun k => ¬ v.blk s G k) W W')
  (own : dA W' 0 (vJ v s :: jR (v.dI i y') :: mQ y' :: kS y' :: nS y' :: (v.ys.eraseIdx i).flatMap eU))
  (hb : ∀ r ∈ eU y', ∀ g, r.v.ownBlock = some g → (∃ q ∈ v.rows s, q.v.ownBlock = some g) ∨ v.fr s G X g) : SR W' G X (s.dU i y'.c) (v.dI i y') := by
 have hi' : i < (v.dI i y').ys.length := by
  unfold Sc.dI
  simpa using hi
 have hp := wP (v.dI i y') (s.dU i y'.c) hi'
 have e1 : (v.dI i y').ys[i] = y' := by simp [Sc.dI]
 have e2 : (v.dI i y').ys.eraseIdx i = v.ys.eraseIdx i := by
  unfold Sc.dI
  exact List.eraseIdx_set_eq
 have e3 : (v.dI i y').front (s.dU i y'.c) (v.dI i y').ys[i] ((v.dI i y').ys.eraseIdx i) = vJ v s :: jR (v.dI i y') :: mQ y' :: kS y' :: nS y' :: (v.ys.eraseIdx i).flatMap eU := by
  rw [e1, e2]
  rfl
 rw [e3] at hp
 refine hs.step sf rfl rfl (own.perm hp.symm) (fun r hr g hg => ?_) ?_
 ·have hr2 := hp.mem_iff.1 hr
  have hold : ∀ q, q ∈ (v.front s v.ys[i] (v.ys.eraseIdx i)) → q ∈ v.rows s := fun q hq => (wP v s hi).mem_iff.2 hq
  simp only [List.mem_cons] at hr2
  rcases hr2 with rfl | rfl | rfl | rfl | rfl | hr2
  ·exact .inl ⟨_, nC v s, hg⟩
  ·refine .inl ⟨_, dS v s, ?_⟩
   rw [← hg]
   unfold jR Sc.dI
   simp only [List.length_set]
  ·exact hb _ (by simp [eU]) g hg
  ·exact hb _ (by simp [eU]) g hg
  ·exact hb _ (by simp [eU]) g hg
  ·exact .inl ⟨r, hold r (by unfold Sc.front; simp only [List.mem_cons]; exact .inr (.inr (.inr (.inr (.inr hr2))))), hg⟩
 ·unfold Sc.dI Sy.dU
  simp only
  rw [List.map_set, hs.cy]
theorem SR.FN (hs : SR W G X s v) {i : Nat} (hi : i < v.ys.length) : dA W 0 (vJ v s :: jR v :: mQ v.ys[i] :: kS v.ys[i] :: nS v.ys[i] :: (v.ys.eraseIdx i).flatMap eU) := hs.own.perm (wP v s hi)
theorem SR.KH (hs : SR W G X s v) {i : Nat} (hi : i < v.ys.length) : ∃ g, v.a2 = some ⟨g, 0, none⟩ ∧ g < W.heap.size ∧ g ≠ G ∧ ¬ X g ∧ (∀ j, j < 6 → W.cell? ⟨g, i * 6 + j, none⟩ = (bV v.ys[i])[j]? ∧ W.frozen? ⟨g, i * 6 + j, none⟩ = false) := by
 have hc : (jR v).on W 0 := hs.own.each _ (dS v s)
 have hlen := flat_length cZ v.ys
 obtain ⟨g, u, h1, _, h2, _, _⟩ := eF hc (i * 6) (by rw [show (jR v).xs = flat bV v.ys from rfl, hlen]; omega)
 have h3 : (jR v).v.ownBlock = some g := by unfold jR; rw [h1]; rfl
 have h4 := hs.og _ (dS v s) g h3
 refine ⟨g, h1, h2, h4.1, h4.2, fun j hj => ?_⟩
 have hk : i * 6 + j < (jR v).xs.length := by rw [show (jR v).xs = flat bV v.ys from rfl, hlen]; omega
 obtain ⟨g', h5, _, _, h6, h7⟩ := lJ hc (i * 6 + j) hk
 rw [h1] at h5
 obtain rfl : g = g' := by simpa using h5
 refine ⟨?_, h7⟩
 rw [h6, ← flat_get cZ v.ys i hi j hj]
 exact (gJ hk).symm
theorem SR.DW (hs : SR W G X s v) {r : Rs} (hr : r ∈ v.rows s) {g : Nat} (hg : r.v.ownBlock = some g) (i : Nat) (u : Value) : Safe (fun k => ¬ v.blk s G k) W (W.setCell ⟨g, i, none⟩ u) :=
 (Safe.refl _ W).set (fun h => h (.inr ⟨r, hr, hg⟩)) i u
theorem SS.PW (hs : SS W G X s v) {g : Nat} (hg : g ≠ G) (i : Nat) (u : Value) : (∀ o, (W.setCell ⟨g, i, none⟩ u).cell? ⟨G, o, none⟩ = (v.vals s)[o]?) ∧ ∀ o, (W.setCell ⟨g, i, none⟩ u).frozen? ⟨G, o, none⟩ = false :=
 ⟨aA hs.k (fun e => hg e.symm) i u, aH hs.fz _ _⟩
theorem SS.Zh (hs : SS W G X s v) {i : Nat} (hi : i < v.ys.length) {g : Nat} (hg : v.ys[i].a3 = some ⟨g, 0, none⟩) (cpu : Nat) (p : Int) :
  SS (W.setCell ⟨g, cpu, none⟩ (vI p)) G X (s.dU i { v.ys[i].c with ac := v.ys[i].c.ac.set cpu p }) (v.dI i { v.ys[i] with c := { v.ys[i].c with ac := v.ys[i].c.ac.set cpu p } }) ∧ Safe X W (W.setCell ⟨g, cpu, none⟩ (vI p)) := by
 have hrow : nS v.ys[i] ∈ v.rows s := iY (gL hi) (by simp [eU])
 have hb : (nS v.ys[i]).v.ownBlock = some g := by unfold nS; rw [hg]; rfl
 have h4 := hs.r.og _ hrow g hb
 have k := (hs.r.FN hi).cell (i := 4) (by simp) (g := g) (c := v.ys[i].c3) (by show (nS v.ys[i]).v = _; unfold nS; rw [hg]; rfl) cpu (vI p) rfl
 have e1 : ({ nS v.ys[i] with xs := (nS v.ys[i]).xs.set cpu (vI p) } : Rs) = nS { v.ys[i] with c := { v.ys[i].c with ac := v.ys[i].c.ac.set cpu p } } := by
  unfold nS
  simp only [List.map_set]
 have e2 : jR (v.dI i { v.ys[i] with c := { v.ys[i].c with ac := v.ys[i].c.ac.set cpu p } }) = jR v := by
  have e : flat bV (v.ys.set i { v.ys[i] with c := { v.ys[i].c with ac := v.ys[i].c.ac.set cpu p } }) = flat bV v.ys := wQ v.ys i hi rfl
  unfold jR Sc.dI
  simp only [List.length_set]
  rw [e]
 have hr := hs.r.upC hi (y' := { v.ys[i] with c := { v.ys[i].c with ac := v.ys[i].c.ac.set cpu p } }) (hs.r.DW hrow hb cpu (vI p)) (by
  rw [e2, ← e1]
  exact k) (fun r hr' g' hg' => .inl (by
  simp only [eU, List.mem_cons, List.not_mem_nil, or_false] at hr'
  rcases hr' with rfl | rfl | rfl
  ·exact ⟨mQ v.ys[i], iY (gL hi) (by simp [eU]), hg'⟩
  ·exact ⟨kS v.ys[i], iY (gL hi) (by simp [eU]), hg'⟩
  ·exact ⟨nS v.ys[i], hrow, hg'⟩))
 have hk := hs.PW h4.1 cpu (vI p)
 rw [← qZ v s i] at hk
 exact ⟨⟨hr, hk.1, hk.2⟩, (Safe.refl X W).set h4.2 cpu (vI p)⟩
theorem SS.KI (hs : SS W G X s v) {i : Nat} (hi : i < v.ys.length) {g : Nat} (hg : v.ys[i].a2 = some ⟨g, 0, none⟩) {k : Nat} (hk : k < v.ys[i].c.sl.length) {x' : Sl} {j : Nat} (hj : j < 3) {u : Value} (hu : aX x' = (aX v.ys[i].c.sl[k]).set j u) (h1 : u.oneCell' = true) :
  SS (W.setCell ⟨g, k * 3 + j, none⟩ u) G X (s.dU i { v.ys[i].c with sl := v.ys[i].c.sl.set k x' }) (v.dI i { v.ys[i] with c := { v.ys[i].c with sl := v.ys[i].c.sl.set k x' } }) ∧ Safe X W (W.setCell ⟨g, k * 3 + j, none⟩ u) := by
 have hrow : kS v.ys[i] ∈ v.rows s := iY (gL hi) (by simp [eU])
 have hb : (kS v.ys[i]).v.ownBlock = some g := by unfold kS; rw [hg]; rfl
 have h4 := hs.r.og _ hrow g hb
 have h5 := (hs.r.FN hi).cell (i := 3) (by simp) (g := g) (c := v.ys[i].c2) (by show (kS v.ys[i]).v = _; unfold kS; rw [hg]; rfl) (k * 3 + j) u h1
 have e1 : ({ kS v.ys[i] with xs := (kS v.ys[i]).xs.set (k * 3 + j) u } : Rs) = kS { v.ys[i] with c := { v.ys[i].c with sl := v.ys[i].c.sl.set k x' } } := by
  unfold kS
  simp only
  rw [qY aK hj v.ys[i].c.sl k hk hu]
 have e2 : jR (v.dI i { v.ys[i] with c := { v.ys[i].c with sl := v.ys[i].c.sl.set k x' } }) = jR v := by
  have e : flat bV (v.ys.set i { v.ys[i] with c := { v.ys[i].c with sl := v.ys[i].c.sl.set k x' } }) = flat bV v.ys := wQ v.ys i hi rfl
  unfold jR Sc.dI
  simp only [List.length_set]
  rw [e]
 have hr := hs.r.upC hi (y' := { v.ys[i] with c := { v.ys[i].c with sl := v.ys[i].c.sl.set k x' } }) (hs.r.DW hrow hb (k * 3 + j) u) (by
  rw [e2, ← e1]
  exact h5) (fun r hr' g' hg' => .inl (by
  simp only [eU, List.mem_cons, List.not_mem_nil, or_false] at hr'
  rcases hr' with rfl | rfl | rfl
  ·exact ⟨mQ v.ys[i], iY (gL hi) (by simp [eU]), hg'⟩
  ·exact ⟨kS v.ys[i], hrow, hg'⟩
  ·exact ⟨nS v.ys[i], iY (gL hi) (by simp [eU]), hg'⟩))
 have hk := hs.PW h4.1 (k * 3 + j) u
 rw [← qZ v s i] at hk
 exact ⟨⟨hr, hk.1, hk.2⟩, (Safe.refl X W).set h4.2 (k * 3 + j) u⟩
theorem SS.Zi (hs : SS W G X s v) {i : Nat} (hi : i < v.ys.length) {l' : List Sl} {a' : Option Addr} {n' c' : Nat} (hown : W2.ownsRow 0 137 3 (.slice a' n' c') n' (flat aX l')) (hg : W.grownBy W2 (kS v.ys[i]).v.ownBlock)
  (hl : ∀ k, (Value.slice a' n' c').ownBlock = some k → (kS v.ys[i]).v.ownBlock = some k ∨ W.heap.size ≤ k) {gc : Nat} (hgc : v.a2 = some ⟨gc, 0, none⟩) :
  SS (W2.setCell ⟨gc, i * 6 + 4, none⟩ (.slice a' n' c')) G X (s.dU i { v.ys[i].c with sl := l' }) (v.dI i { v.ys[i] with a2 := a', n2 := n', c2 := c', c := { v.ys[i].c with sl := l' } }) ∧ Safe X W (W2.setCell ⟨gc, i * 6 + 4, none⟩ (.slice a' n' c')) := by
 have hrow : kS v.ys[i] ∈ v.rows s := iY (gL hi) (by simp [eU])
 have hcb : (jR v).v.ownBlock = some gc := by unfold jR; rw [hgc]; rfl
 have h4 := hs.r.og _ (dS v s) gc hcb
 have o1 := (hs.r.FN hi).grown (i := 3) (by simp) hg (r' := kS { v.ys[i] with a2 := a', n2 := n', c2 := c', c := { v.ys[i].c with sl := l' } }) hown hl
 have o2 := o1.cell (i := 1) (by simp) (g := gc) (c := v.c2) (by show (jR v).v = _; unfold jR; rw [hgc]; rfl) (i * 6 + 4) (.slice a' n' c') rfl
 have e1 : ({ jR v with xs := (jR v).xs.set (i * 6 + 4) (.slice a' n' c') } : Rs) = jR (v.dI i { v.ys[i] with a2 := a', n2 := n', c2 := c', c := { v.ys[i].c with sl := l' } }) := by
  unfold jR Sc.dI
  simp only [List.length_set]
  rw [qY cZ (by decide) v.ys i hi (x := { v.ys[i] with a2 := a', n2 := n', c2 := c', c := { v.ys[i].c with sl := l' } }) rfl]
 have sf : Safe (fun k => ¬ v.blk s G k) W W2 := Safe.jO hg fun k hk e => hk (.inr ⟨_, hrow, e.symm⟩)
 have hr := hs.r.upC hi (y' := { v.ys[i] with a2 := a', n2 := n', c2 := c', c := { v.ys[i].c with sl := l' } }) (sf.set (fun h => h (.inr ⟨_, dS v s, hcb⟩)) (i * 6 + 4) (.slice a' n' c')) (by
  rw [← e1]
  exact o2) (fun r hr' g' hg' => by
  simp only [eU, List.mem_cons, List.not_mem_nil, or_false] at hr'
  rcases hr' with rfl | rfl | rfl
  ·exact .inl ⟨mQ v.ys[i], iY (gL hi) (by simp [eU]), hg'⟩
  ·rcases hl g' hg' with h | h
   ·exact .inl ⟨kS v.ys[i], hrow, h⟩
   ·exact .inr (hs.r.fresh h)
  ·exact .inl ⟨nS v.ys[i], iY (gL hi) (by simp [eU]), hg'⟩)
 have hG : some G ≠ (kS v.ys[i]).v.ownBlock := fun e => (hs.r.og _ hrow G e.symm).1 rfl
 have hk1 := aA (bH hs.k hs.r.hr.gs hg hG) (c := gc) (fun e => h4.1 e.symm) (i * 6 + 4) (.slice a' n' c')
 have hk2 := aH (bI hs.fz hs.r.hr.gs hg hG) ⟨gc, i * 6 + 4, none⟩ (.slice a' n' c')
 rw [← qZ v s i] at hk1
 exact ⟨⟨hr, hk1, hk2⟩, (Safe.jO hg fun k hk e => (hs.r.og _ hrow k e.symm).2 hk).set h4.2 (i * 6 + 4) _⟩
theorem SS.Zj (hs : SS W G X s v) {i : Nat} (hi : i < v.ys.length) {l' : List (List UInt8)} {a' : Option Addr} {n' c' : Nat} (hown : W2.ownsRow 0 9 1 (.slice a' n' c') n' (flat encS l')) (hg : W.grownBy W2 (mQ v.ys[i]).v.ownBlock)
  (hl : ∀ k, (Value.slice a' n' c').ownBlock = some k → (mQ v.ys[i]).v.ownBlock = some k ∨ W.heap.size ≤ k) {gc : Nat} (hgc : v.a2 = some ⟨gc, 0, none⟩) :
  SS (W2.setCell ⟨gc, i * 6, none⟩ (.slice a' n' c')) G X (s.dU i { v.ys[i].c with ns := l' }) (v.dI i { v.ys[i] with a1 := a', n1 := n', c1 := c', c := { v.ys[i].c with ns := l' } }) ∧ Safe X W (W2.setCell ⟨gc, i * 6, none⟩ (.slice a' n' c')) := by
 have hrow : mQ v.ys[i] ∈ v.rows s := iY (gL hi) (by simp [eU])
 have hcb : (jR v).v.ownBlock = some gc := by unfold jR; rw [hgc]; rfl
 have h4 := hs.r.og _ (dS v s) gc hcb
 have o1 := (hs.r.FN hi).grown (i := 2) (by simp) hg (r' := mQ { v.ys[i] with a1 := a', n1 := n', c1 := c', c := { v.ys[i].c with ns := l' } }) hown hl
 have o2 := o1.cell (i := 1) (by simp) (g := gc) (c := v.c2) (by show (jR v).v = _; unfold jR; rw [hgc]; rfl) (i * 6 + 0) (.slice a' n' c') rfl
 have e1 : ({ jR v with xs := (jR v).xs.set (i * 6 + 0) (.slice a' n' c') } : Rs) = jR (v.dI i { v.ys[i] with a1 := a', n1 := n', c1 := c', c := { v.ys[i].c with ns := l' } }) := by
  unfold jR Sc.dI
  simp only [List.length_set]
  rw [qY cZ (by decide) v.ys i hi (x := { v.ys[i] with a1 := a', n1 := n', c1 := c', c := { v.ys[i].c with ns := l' } }) rfl]
 have sf : Safe (fun k => ¬ v.blk s G k) W W2 := Safe.jO hg fun k hk e => hk (.inr ⟨_, hrow, e.symm⟩)
 have hr := hs.r.upC hi (y' := { v.ys[i] with a1 := a', n1 := n', c1 := c', c := { v.ys[i].c with ns := l' } }) (sf.set (fun h => h (.inr ⟨_, dS v s, hcb⟩)) (i * 6 + 0) (.slice a' n' c')) (by
  rw [← e1]
  exact o2) (fun r hr' g' hg' => by
  simp only [eU, List.mem_cons, List.not_mem_nil, or_false] at hr'
  rcases hr' with rfl | rfl | rfl
  ·rcases hl g' hg' with h | h
   ·exact .inl ⟨mQ v.ys[i], hrow, h⟩
   ·exact .inr (hs.r.fresh h)
  ·exact .inl ⟨kS v.ys[i], iY (gL hi) (by simp [eU]), hg'⟩
  ·exact .inl ⟨nS v.ys[i], iY (gL hi) (by simp [eU]), hg'⟩)
 have hG : some G ≠ (mQ v.ys[i]).v.ownBlock := fun e => (hs.r.og _ hrow G e.symm).1 rfl
 have hk1 := aA (bH hs.k hs.r.hr.gs hg hG) (c := gc) (fun e => h4.1 e.symm) (i * 6 + 0) (.slice a' n' c')
 have hk2 := aH (bI hs.fz hs.r.hr.gs hg hG) ⟨gc, i * 6 + 0, none⟩ (.slice a' n' c')
 rw [← qZ v s i] at hk1
 exact ⟨⟨hr, hk1, hk2⟩, (Safe.jO hg fun k hk e => (hs.r.og _ hrow k e.symm).2 hk).set h4.2 (i * 6 + 0) _⟩
theorem SS.Zk (hs : SS W G X s v) (hb : Below W.heap.size W W1) {h' : Hp} {hc' : Hc} (hn : lK W1 W.heap.size h' hc') (hb2 : Below W1.heap.size W1 W2) {xs : List Int} {a : Option Addr} {n c : Nat} (ho : W2.ownsRow W1.heap.size 3 1 (.slice a n c) n (xs.map vI)) :
  SS ((((((W2.setCell ⟨G, 1, none⟩ (.slice hc'.az 2 hc'.cz)).setCell ⟨G, 2, none⟩ (.slice hc'.am 2 hc'.cm)).setCell ⟨G, 3, none⟩ (.int .i64 (h'.aF : Int))).setCell ⟨G, 4, none⟩ (.slice hc'.al hc'.lc.length hc'.cl)).setCell ⟨G, 5, none⟩ (.slice hc'.av h'.live.length hc'.cv)).setCell ⟨G, 0, none⟩ (.slice a n c)) G X { s with w := xs, h := h' } { v with a1 := a, n1 := n, c1 := c, hc := hc' } ∧
  Safe X W ((((((W2.setCell ⟨G, 1, none⟩ (.slice hc'.az 2 hc'.cz)).setCell ⟨G, 2, none⟩ (.slice hc'.am 2 hc'.cm)).setCell ⟨G, 3, none⟩ (.int .i64 (h'.aF : Int))).setCell ⟨G, 4, none⟩ (.slice hc'.al hc'.lc.length hc'.cl)).setCell ⟨G, 5, none⟩ (.slice hc'.av h'.live.length hc'.cv)).setCell ⟨G, 0, none⟩ (.slice a n c)) := by
 have h1 := hs.r.heap hb hn
 have h2 := h1.words hb2 ho
 have K := aC hs.k hs.r.hr.gs (Below.step hb hb2)
 have F := aJ hs.fz hs.r.hr.gs (Below.step hb hb2)
 have K1 := aG K 1 (.slice hc'.az 2 hc'.cz)
 have K2 := aG K1 2 (.slice hc'.am 2 hc'.cm)
 have K3 := aG K2 3 (.int .i64 (h'.aF : Int))
 have K4 := aG K3 4 (.slice hc'.al hc'.lc.length hc'.cl)
 have K5 := aG K4 5 (.slice hc'.av h'.live.length hc'.cv)
 have K6 := aG K5 0 (.slice a n c)
 have F1 := aH F ⟨G, 1, none⟩ (.slice hc'.az 2 hc'.cz)
 have F2 := aH F1 ⟨G, 2, none⟩ (.slice hc'.am 2 hc'.cm)
 have F3 := aH F2 ⟨G, 3, none⟩ (.int .i64 (h'.aF : Int))
 have F4 := aH F3 ⟨G, 4, none⟩ (.slice hc'.al hc'.lc.length hc'.cl)
 have F5 := aH F4 ⟨G, 5, none⟩ (.slice hc'.av h'.live.length hc'.cv)
 have F6 := aH F5 ⟨G, 0, none⟩ (.slice a n c)
 unfold Sc.vals at K6
 simp only [gE, gG, gH] at K6
 exact ⟨⟨(((((h2.lS 1 _).lS 2 _).lS 3 _).lS 4 _).lS 5 _).lS 0 _, K6, F6⟩, ((((((Safe.fP (Below.step hb hb2)).set hs.r.hr.xg 1 _).set hs.r.hr.xg 2 _).set hs.r.hr.xg 3 _).set hs.r.hr.xg 4 _).set hs.r.hr.xg 5 _).set hs.r.hr.xg 0 _⟩
theorem SS.PX (hs : SS W G X s v) {i : Nat} (hi : i < v.ys.length) {y : Cc} (hy : v.ys[i] = y) {l' : List Sl} {a' : Option Addr} {n' c' : Nat} (hown : W2.ownsRow 0 137 3 (.slice a' n' c') n' (flat aX l')) (hg : W.grownBy W2 (kS y).v.ownBlock)
  (hl : ∀ k, (Value.slice a' n' c').ownBlock = some k → (kS y).v.ownBlock = some k ∨ W.heap.size ≤ k) {gc : Nat} (hgc : v.a2 = some ⟨gc, 0, none⟩) :
  ∃ v', SS (W2.setCell ⟨gc, i * 6 + 4, none⟩ (.slice a' n' c')) G X (s.dU i { y.c with sl := l' }) v' ∧ Safe X W (W2.setCell ⟨gc, i * 6 + 4, none⟩ (.slice a' n' c')) ∧ v'.a2 = v.a2 := by
 subst hy
 have h := hs.Zi hi hown hg hl hgc
 exact ⟨_, h.1, h.2, rfl⟩
theorem SR.Vg (hs : SR W G X s v) {i : Nat} (hi : i < v.ys.length) {y : Cc} (hy : v.ys[i] = y) {gc : Nat} (hgc : v.a2 = some ⟨gc, 0, none⟩) : (kS y).v.ownBlock ≠ some gc := fun e => by
 subst hy
 have h := (hs.FN hi).off (i := 1) (j := 3) (by simp) (by simp) (by decide) gc (by show (jR v).v.ownBlock = _; unfold jR; rw [hgc]; rfl)
 exact h e
theorem SS.PY (hs : SS W G X s v) {i : Nat} (hi : i < v.ys.length) {y : Cc} (hy : v.ys[i] = y) {g : Nat} (hg : y.a3 = some ⟨g, 0, none⟩) (cpu : Nat) (p : Int) :
  ∃ v', SS (W.setCell ⟨g, cpu, none⟩ (vI p)) G X (s.dU i { y.c with ac := y.c.ac.set cpu p }) v' ∧ Safe X W (W.setCell ⟨g, cpu, none⟩ (vI p)) ∧ v'.a2 = v.a2 := by
 subst hy
 have h := hs.Zh hi hg cpu p
 exact ⟨_, h.1, h.2, rfl⟩
theorem SS.aCs (hs : SS W G X s v) {i : Nat} (hi : i < v.ys.length) {y : Cc} (hy : v.ys[i] = y) {g : Nat} (hg : y.a2 = some ⟨g, 0, none⟩) {k : Nat} (hk : k < y.c.sl.length) (h' : Int) {n' : Nat} :
  ∃ v', SS ((W.setCell ⟨g, k * 3 + 2, none⟩ (vI h')).setCell ⟨g, k * 3 + 1, none⟩ (vI n')) G X (s.dU i { y.c with sl := y.c.sl.set k ⟨y.c.sl[k].p, n', h'⟩ }) v' ∧ Safe X W ((W.setCell ⟨g, k * 3 + 2, none⟩ (vI h')).setCell ⟨g, k * 3 + 1, none⟩ (vI n')) ∧ v'.a2 = v.a2 := by
 subst hy
 have h1 := hs.KI hi hg hk (x' := ⟨v.ys[i].c.sl[k].p, v.ys[i].c.sl[k].n, h'⟩) (j := 2) (by decide) (u := vI h') rfl rfl
 have hi2 : i < (v.dI i { v.ys[i] with c := { v.ys[i].c with sl := v.ys[i].c.sl.set k ⟨v.ys[i].c.sl[k].p, v.ys[i].c.sl[k].n, h'⟩ } }).ys.length := by
  unfold Sc.dI
  simpa using hi
 have e1 : (v.dI i { v.ys[i] with c := { v.ys[i].c with sl := v.ys[i].c.sl.set k ⟨v.ys[i].c.sl[k].p, v.ys[i].c.sl[k].n, h'⟩ } }).ys[i] = { v.ys[i] with c := { v.ys[i].c with sl := v.ys[i].c.sl.set k ⟨v.ys[i].c.sl[k].p, v.ys[i].c.sl[k].n, h'⟩ } } := by simp [Sc.dI]
 have h2 := h1.1.KI hi2 (g := g) (by rw [e1]; exact hg) (k := k) (by rw [e1]; simpa using hk) (x' := ⟨v.ys[i].c.sl[k].p, n', h'⟩) (j := 1) (by decide) (u := vI n') (by
  simp only [e1, List.getElem_set_self]
  rfl) rfl
 have h3 := h2.1
 have e2 : (s.dU i { v.ys[i].c with sl := v.ys[i].c.sl.set k ⟨v.ys[i].c.sl[k].p, v.ys[i].c.sl[k].n, h'⟩ }).dU i { (v.dI i { v.ys[i] with c := { v.ys[i].c with sl := v.ys[i].c.sl.set k ⟨v.ys[i].c.sl[k].p, v.ys[i].c.sl[k].n, h'⟩ } }).ys[i].c with sl := (v.dI i { v.ys[i] with c := { v.ys[i].c with sl := v.ys[i].c.sl.set k ⟨v.ys[i].c.sl[k].p, v.ys[i].c.sl[k].n, h'⟩ } }).ys[i].c.sl.set k ⟨v.ys[i].c.sl[k].p, n', h'⟩ } = s.dU i { v.ys[i].c with sl := v.ys[i].c.sl.set k ⟨v.ys[i].c.sl[k].p, n', h'⟩ } := by
  unfold Sy.dU
  simp only [e1, List.set_set]
 rw [e2] at h3
 exact ⟨_, h3, h1.2.trans h2.2, rfl⟩
end
end
section
open Go.RowKit

theorem Qo (l : List Int) : ∀ u ∈ flat encI l, u.oneCell' = true := by
 intro u hu
 simp only [flat, List.mem_flatMap] at hu
 obtain ⟨r, _, hr⟩ := hu
 simp only [encI, List.mem_cons, List.not_mem_nil, or_false] at hr
 rcases hr with rfl <;> rfl
theorem cloneS (a : Option Addr) (n cap : Nat) (xs : List (List UInt8)) (w : World) (hn : xs.length = n) (hl : n * 16 ≤ 140737488355328) (hr : Row w a (flat encS xs)) :
  Calls Tryz.prog 87 #[.slice a n cap] w fun e w' => ∃ a' c', e = .returned (.slice a' n c') ∧ w'.ownsRow w.heap.size 9 1 (.slice a' n c') n (flat encS xs) ∧ Below w.heap.size w w' := by
 have q22 : ∀ (w : World) (a : Option Addr) (n c n' c' : Nat), (binOp .eql 91 (.slice a n c) (.slice none n' c')).run Tryz.prog w = .ok (.bool a.isNone) w := fun w a n c n' c' => Lib.run_eql_slice_nil w _ _ a n c n' c' Tryz.underlying91
 subst hn
 cases a with
 | none =>
  have hx : xs = [] := by
   cases xs with
   | nil => rfl
   | cons u l => obtain ⟨b, off, e1, _⟩ := aN aU (by decide) hr (j := 0) (by simp); cases e1
  subst hx
  go_enter Tryz.func87, Tryz.ntmps87
  go_wp2
  go_ret
  exact ⟨none, 0, rfl, World.ownsRow_nil _ _ _ _, Below.refl _ _⟩
 | some ad =>
  go_enter Tryz.func87, Tryz.ntmps87
  go_wp2_with (at_builtin; refine gU rfl _ _ 91 rfl w.heap.size 9 (.string ByteArray.empty) 1 16 Tryz.underlying91 zK rfl (by decide) (by decide) _ _ _ _ rfl (World.ownsRow_made w #[] 0 (Nat.le_refl _) (Nat.zero_le _) (by simp)) (some ad) xs.length cap (flat encS xs) rfl ?q1 ?q2 ?q3 ?q4 ?q5 ?_)
  case q1 => exact flat_length aU xs
  case q2 => exact hr.below (aB _ _)
  case q3 => exact vH xs
  case q4 => rw [Nat.zero_add]; exact hl
  case q5 => simp
  intro a' c' w1 hown hgrow
  go_wp2
  go_ret
  exact ⟨a', c', rfl, hown, (aB w _).grown hgrow (by simp) (by intro k hk; simp [Value.ownBlock] at hk; omega)⟩

theorem TU (a : Option Addr) (n cap : Nat) (xs : List Sl) (w : World) (hn : xs.length = n) (hl : n * 24 ≤ 140737488355328) (hr : Row w a (flat aX xs)) :
  Calls Tryz.prog 88 #[.slice a n cap] w fun e w' => ∃ a' c', e = .returned (.slice a' n c') ∧ w'.ownsRow w.heap.size 137 3 (.slice a' n c') n (flat aX xs) ∧ Below w.heap.size w w' := by
 have q22 : ∀ (w : World) (a : Option Addr) (n c n' c' : Nat), (binOp .eql 92 (.slice a n c) (.slice none n' c')).run Tryz.prog w = .ok (.bool a.isNone) w := fun w a n c n' c' => Lib.run_eql_slice_nil w _ _ a n c n' c' Tryz.underlying92
 subst hn
 cases a with
 | none =>
  have hx : xs = [] := by
   cases xs with
   | nil => rfl
   | cons u l => obtain ⟨b, off, e1, _⟩ := aN aK (by decide) hr (j := 0) (by simp); cases e1
  subst hx
  go_enter Tryz.func88, Tryz.ntmps88
  go_wp2
  go_ret
  exact ⟨none, 0, rfl, World.ownsRow_nil _ _ _ _, Below.refl _ _⟩
 | some ad =>
  go_enter Tryz.func88, Tryz.ntmps88
  go_wp2_with (at_builtin; refine gU rfl _ _ 92 rfl w.heap.size 137 (.agg #[.int .i64 0, .int .i64 0, .int .i64 0]) 3 24 Tryz.underlying92 vG rfl (by decide) (by decide) _ _ _ _ rfl (World.ownsRow_made w #[] 0 (Nat.le_refl _) (Nat.zero_le _) (by simp)) (some ad) xs.length cap (flat aX xs) rfl ?q1 ?q2 ?q3 ?q4 ?q5 ?_)
  case q1 => exact flat_length aK xs
  case q2 => exact hr.below (aB _ _)
  case q3 => exact qX xs
  case q4 => rw [Nat.zero_add]; exact hl
  case q5 => simp
  intro a' c' w1 hown hgrow
  go_wp2
  go_ret
  exact ⟨a', c', rfl, hown, (aB w _).grown hgrow (by simp) (by intro k hk; simp [Value.ownBlock] at hk; omega)⟩

theorem Qp (a : Option Addr) (n cap : Nat) (xs : List Int) (w : World) (hn : xs.length = n) (hl : n * 8 ≤ 140737488355328) (hr : Row w a (flat encI xs)) :
  Calls Tryz.prog 85 #[.slice a n cap] w fun e w' => ∃ a' c', e = .returned (.slice a' n c') ∧ w'.ownsRow w.heap.size 3 1 (.slice a' n c') n (flat encI xs) ∧ Below w.heap.size w w' := by
 have q22 : ∀ (w : World) (a : Option Addr) (n c n' c' : Nat), (binOp .eql 39 (.slice a n c) (.slice none n' c')).run Tryz.prog w = .ok (.bool a.isNone) w := fun w a n c n' c' => Lib.run_eql_slice_nil w _ _ a n c n' c' Tryz.underlying39
 subst hn
 cases a with
 | none =>
  have hx : xs = [] := by
   cases xs with
   | nil => rfl
   | cons u l => obtain ⟨b, off, e1, _⟩ := aN qF (by decide) hr (j := 0) (by simp); cases e1
  subst hx
  go_enter Tryz.func85, Tryz.ntmps85
  go_wp2
  go_ret
  exact ⟨none, 0, rfl, World.ownsRow_nil _ _ _ _, Below.refl _ _⟩
 | some ad =>
  go_enter Tryz.func85, Tryz.ntmps85
  go_wp2_with (at_builtin; refine gU rfl _ _ 39 rfl w.heap.size 3 (.int .i64 0) 1 8 Tryz.underlying39 l7 rfl (by decide) (by decide) _ _ _ _ rfl (World.ownsRow_made w #[] 0 (Nat.le_refl _) (Nat.zero_le _) (by simp)) (some ad) xs.length cap (flat encI xs) rfl ?q1 ?q2 ?q3 ?q4 ?q5 ?_)
  case q1 => exact flat_length qF xs
  case q2 => exact hr.below (aB _ _)
  case q3 => exact Qo xs
  case q4 => rw [Nat.zero_add]; exact hl
  case q5 => simp
  intro a' c' w1 hown hgrow
  go_wp2
  go_ret
  exact ⟨a', c', rfl, hown, (aB w _).grown hgrow (by simp) (by intro k hk; simp [Value.ownBlock] at hk; omega)⟩
end
end Go.Proofs.YtcmpmobhongkiaaGreatDoor
