/- Ss1, Ss2, Ss3, Blk22, Sb6, Mp2, Sy5: texts of this claim, joined. -/
import Derived.Test.YtkcaheebaicinaaGreatDoorSN12
import Derived.Test.YtkcaheebaicinaaGreatDoorSN13
import Derived.Test.YtkcaheebaicinaaGreatDoorSN20
import Derived.Test.YtkcaheebaicinaaGreatDoorSN23
import Derived.Test.YtkcaheebaicinaaGreatDoorSN24
import Derived.Test.YtkcaheebaicinaaGreatDoorSN25
import Derived.Test.YtkcaheebaicinaaGreatDoorSN26
import Derived.Test.YtkcaheebaicinaaGreatDoorSN4
import Derived.Maps.OwnOps
import Derived.StringKeys
import Derived.Lib.Strings
/- A system behind a pointer: its rows are its own. No program in sight but its types. -/
namespace Go.Proofs.YtkcaheebaicinaaGreatDoor
open Go.RowKit
set_option linter.unusedVariables false

def wrR (v : Sc) (s : Sy) : Rs := ⟨3, 1, .slice v.a1 v.n1 v.c1, v.n1, s.w.map vI⟩
def csR (v : Sc) : Rs := ⟨72, 6, .slice v.a2 v.ys.length v.c2, v.ys.length, flat encCc v.ys⟩
def nsR (y : Cc) : Rs := ⟨9, 1, .slice y.a1 y.n1 y.c1, y.n1, flat encS y.c.ns⟩
def slR (y : Cc) : Rs := ⟨87, 3, .slice y.a2 y.n2 y.c2, y.n2, flat encSl y.c.sl⟩
def acR (y : Cc) : Rs := ⟨3, 1, .slice y.a3 y.n3 y.c3, y.n3, y.c.ac.map vI⟩
def ccRs (y : Cc) : List Rs := [nsR y, slR y, acR y]
def Sc.rows (v : Sc) (s : Sy) : List Rs := wrR v s :: csR v :: v.ys.flatMap ccRs
/-- the rows, those of a cache ahead -/
def Sc.front (v : Sc) (s : Sy) (y : Cc) (ys : List Cc) : List Rs := wrR v s :: csR v :: nsR y :: slR y :: acR y :: ys.flatMap ccRs

theorem perm_eraseC {α : Type} : ∀ {l : List α} {i : Nat} (hi : i < l.length), l.Perm (l[i] :: l.eraseIdx i)
  | a :: l, 0, _ => List.Perm.refl _
  | a :: l, i + 1, hi => by
    simp only [List.getElem_cons_succ, List.eraseIdx_cons_succ]
    exact ((perm_eraseC (l := l) (i := i) (by simpa using hi)).cons a).trans (.swap _ _ _)
theorem rows_perm (v : Sc) (s : Sy) {i : Nat} (hi : i < v.ys.length) : (v.rows s).Perm (v.front s v.ys[i] (v.ys.eraseIdx i)) :=
  ((List.Perm.flatMap_right ccRs (perm_eraseC hi)).cons _).cons _

structure SR (W : World) (G : Nat) (X : Nat → Prop) (s : Sy) (v : Sc) : Prop where
  own : OwnL W 0 (v.rows s)
  og : ∀ r ∈ v.rows s, ∀ g, r.v.ownBlock = some g → g ≠ G ∧ ¬ X g
  hr : HR W G X s.h v.hc
  hd : ∀ r ∈ v.rows s, ∀ q ∈ v.hc.rows s.h ++ v.hc.reads s.h, r.off q
  cy : v.ys.map (·.c) = s.cs
structure SS (W : World) (G : Nat) (X : Nat → Prop) (s : Sy) (v : Sc) : Prop where
  r : SR W G X s v
  k : ∀ o, W.cell? ⟨G, o, none⟩ = (v.vals s)[o]?
  fz : ∀ o, W.frozen? ⟨G, o, none⟩ = false
/-- all of it lies in memory from B on, and not in B itself -/
def SNew (W : World) (B : Nat) (s : Sy) (v : Sc) : Prop := SR W B (fun k => k < B) s v

theorem own_kept {w w' : World} {base : Nat} {e : TypeId} {size : Nat} {v : Value} {n : Nat} {xs : List Value} (h : w.ownsRow base e size v n xs) (hb : ∀ k, v.ownBlock = some k → k < w.heap.size → w'.heap[k]? = w.heap[k]?) : w'.ownsRow base e size v n xs := by
  refine ⟨h.1, ?_⟩
  rcases h.2 with h' | ⟨g, cap, cur, h1, h2, hgg, rest⟩
  · exact .inl h'
  · refine .inr ⟨g, cap, cur, h1, h2, ?_, rest⟩
    rw [hb g (by rw [h1]; rfl) (Array.getElem?_eq_some_iff.1 hgg).1]
    exact hgg
section
variable {W W' : World} {G : Nat} {X Y : Nat → Prop} {h : Hp} {c : Hc}
theorem HR.kept (hs : HR W G X h c) (sf : Safe Y W W') (hy : ∀ q ∈ c.rows h ++ c.reads h, ∀ k, q.v.ownBlock = some k → Y k) : HR W' G X h c :=
  ⟨⟨fun r hr => own_kept (hs.own.each r hr) fun k hk hlt => sf.block k hlt (hy r (List.mem_append_left _ hr) k hk), hs.own.dis⟩,
   fun r hr => own_kept (hs.ro r hr) fun k hk hlt => sf.block k hlt (hy r (List.mem_append_right _ hr) k hk), hs.ds, hs.og, hs.rg, hs.rx, Nat.lt_of_lt_of_le hs.gs sf.size, hs.xg, fun k hk => Nat.lt_of_lt_of_le (hs.xs k hk) sf.size, hs.e0, hs.e1, hs.ll⟩
/-- what lies all in new memory lies beside whatever was there -/
theorem HR.lift {B : Nat} (hs : HR W B (fun k => k < B) h c) (hG : G < B) (hX : ∀ k, X k → k < B) (hxg : ¬ X G) : HR W G X h c :=
  ⟨hs.own, hs.ro, hs.ds, fun r hr g hg => by have := (hs.og r hr g hg).2; exact ⟨by omega, fun e => this (hX g e)⟩, fun r hr e => hs.rx r hr G e hG, fun r hr g hg e => hs.rx r hr g hg (hX g e), Nat.lt_trans hG hs.gs, hxg, fun k hk => Nat.lt_trans (hX k hk) hs.gs, hs.e0, hs.e1, hs.ll⟩
/-- behind another pointer -/
theorem HR.any {G' : Nat} {X' : Nat → Prop} (hs : HR W G' X' h c) (hG : G < W.heap.size) (hq : ∀ q ∈ c.rows h ++ c.reads h, ∀ k, q.v.ownBlock = some k → k ≠ G ∧ ¬ X k) (hX : ∀ k, X k → k < W.heap.size) (hxg : ¬ X G) : HR W G X h c :=
  ⟨hs.own, hs.ro, hs.ds, fun r hr g hg => hq r (List.mem_append_left _ hr) g hg, fun r hr e => (hq r (List.mem_append_right _ hr) G e).1 rfl, fun r hr g hg => (hq r (List.mem_append_right _ hr) g hg).2, hG, hxg, hX, hs.e0, hs.e1, hs.ll⟩
theorem HR.lt (hs : HR W G X h c) : ∀ q ∈ c.rows h ++ c.reads h, ∀ k, q.v.ownBlock = some k → k < W.heap.size := fun q hq k hk => by
  rcases List.mem_append.1 hq with hq | hq
  · exact ((hs.own.each q hq).lt k hk).2
  · exact ((hs.ro q hq).lt k hk).2
theorem HR.gne (hs : HR W G X h c) : ∀ q ∈ c.rows h ++ c.reads h, q.v.ownBlock ≠ some G := fun q hq e => by
  rcases List.mem_append.1 hq with hq | hq
  · exact (hs.og q hq G e).1 rfl
  · exact hs.rg q hq e
end

section
variable {W W' W1 : World} {G : Nat} {X Y : Nat → Prop} {s s' : Sy} {v v' : Sc}
theorem SR.lt (hs : SR W G X s v) : ∀ r ∈ v.rows s, ∀ g, r.v.ownBlock = some g → g < W.heap.size := fun r hr g hg => (hs.own.lt r hr g hg).2
theorem SR.below (hs : SR W G X s v) (hb : Below W.heap.size W W') : SR W' G X s v :=
  ⟨hs.own.below hb, hs.og, hs.hr.below hb, hs.hd, hs.cy⟩
theorem SS.below (hs : SS W G X s v) (hb : Below W.heap.size W W') : SS W' G X s v :=
  ⟨hs.r.below hb, box_step hs.k hs.r.hr.gs hb, frz_step hs.fz hs.r.hr.gs hb⟩
/-- the blocks that a system's changes touch -/
def Sc.blk (v : Sc) (s : Sy) (G k : Nat) : Prop := k = G ∨ ∃ r ∈ v.rows s, r.v.ownBlock = some k
theorem SR.xblk (hs : SR W G X s v) {k : Nat} (hk : X k) : ¬ v.blk s G k := by
  rintro (rfl | ⟨r, hr, e⟩)
  · exact hs.hr.xg hk
  · exact (hs.og r hr k e).2 hk
/-- a block that is nobody's -/
def Sc.fr (v : Sc) (s : Sy) (G : Nat) (X : Nat → Prop) (g : Nat) : Prop := g ≠ G ∧ ¬ X g ∧ ∀ q ∈ v.hc.rows s.h ++ v.hc.reads s.h, q.v.ownBlock ≠ some g
theorem SR.fresh (hs : SR W G X s v) {g : Nat} (hg : W.heap.size ≤ g) : v.fr s G X g :=
  ⟨fun e => by have := hs.hr.gs; omega, fun e => by have := hs.hr.xs g e; omega, fun q hq e => by have := hs.hr.lt q hq g e; omega⟩
/-- rows have been changed, or laid anew; the heap is as it was -/
theorem SR.step (hs : SR W G X s v) (sf : Safe (fun k => ¬ v.blk s G k) W W') (hh : s'.h = s.h) (hc : v'.hc = v.hc) (own : OwnL W' 0 (v'.rows s')) (hb : ∀ r ∈ v'.rows s', ∀ g, r.v.ownBlock = some g → (∃ q ∈ v.rows s, q.v.ownBlock = some g) ∨ v.fr s G X g) (cy : v'.ys.map (·.c) = s'.cs) : SR W' G X s' v' := by
  refine ⟨own, fun r hr g hg => ?_, ?_, fun r hr q hq g h1 h2 => ?_, cy⟩
  · rcases hb r hr g hg with ⟨q, hq, e⟩ | h
    · exact hs.og q hq g e
    · exact ⟨h.1, h.2.1⟩
  · rw [hh, hc]
    refine hs.hr.kept sf fun q hq k hk => ?_
    rintro (rfl | ⟨r, hr, e⟩)
    · exact hs.hr.gne q hq hk
    · exact hs.hd r hr q hq k e hk
  · rw [hh, hc] at hq
    rcases hb r hr g h1 with ⟨q', hq', e⟩ | h
    · exact hs.hd q' hq' q hq g e h2
    · exact h.2.2 q hq h2
/-- another heap, all in new memory -/
theorem SR.heap (hs : SR W G X s v) (hb : Below W.heap.size W W1) {h : Hp} {c : Hc} (hn : HNew W1 W.heap.size h c) : SR W1 G X { s with h := h } { v with hc := c } := by
  have hrow : ({ v with hc := c } : Sc).rows { s with h := h } = v.rows s := rfl
  refine ⟨hrow ▸ hs.own.below hb, fun r hr => hs.og r (hrow ▸ hr), HR.lift hn hs.hr.gs hs.hr.xs hs.hr.xg, fun r hr q hq g h1 h2 => ?_, hs.cy⟩
  have h3 := hs.lt r (hrow ▸ hr) g h1
  rcases List.mem_append.1 hq with hq | hq
  · exact (hn.og q hq g h2).2 h3
  · exact hn.rx q hq g h2 h3
/-- other words, in new memory -/
theorem SR.words (hs : SR W G X s v) (hb : Below W.heap.size W W1) {xs : List Int} {a : Option Addr} {n c : Nat} (ho : W1.ownsRow W.heap.size 3 1 (.slice a n c) n (xs.map vI)) : SR W1 G X { s with w := xs } { v with a1 := a, n1 := n, c1 := c } := by
  have h1 := hs.own.below hb
  have h2 : OwnL W1 0 ((⟨3, 1, .slice a n c, n, xs.map vI⟩ : Rs) :: csR v :: v.ys.flatMap ccRs) :=
    OwnL.cons (h1.sub (List.sublist_cons_self _ _)) (r' := ⟨3, 1, .slice a n c, n, xs.map vI⟩) ho (Nat.zero_le _) fun r hr g hg => hs.lt r (List.mem_cons_of_mem _ hr) g hg
  refine hs.step (Safe.ofBelow hb) rfl rfl h2 (fun r hr g hg => ?_) hs.cy
  rcases List.mem_cons.1 hr with rfl | hr
  · exact .inr (hs.fresh (ho.lt g hg).1)
  · exact .inl ⟨r, List.mem_cons_of_mem _ hr, hg⟩
/-- every block beside the system may be held fast -/
theorem SR.more (hs : SR W G X s v) (hy : ∀ k, Y k → k < W.heap.size ∧ ¬ v.blk s G k ∧ ∀ q ∈ v.hc.rows s.h ++ v.hc.reads s.h, q.v.ownBlock ≠ some k) : SR W G Y s v :=
  ⟨hs.own, fun r hr g hg => ⟨(hs.og r hr g hg).1, fun e => (hy g e).2.1 (.inr ⟨r, hr, hg⟩)⟩, hs.hr.more fun k hk => ⟨(hy k hk).1, fun e => (hy k hk).2.1 (.inl e), fun r hr => (hy k hk).2.2 r (List.mem_append_left _ hr), fun r hr => (hy k hk).2.2 r (List.mem_append_right _ hr)⟩, hs.hd, hs.cy⟩
theorem SS.more (hs : SS W G X s v) (hy : ∀ k, Y k → k < W.heap.size ∧ ¬ v.blk s G k ∧ ∀ q ∈ v.hc.rows s.h ++ v.hc.reads s.h, q.v.ownBlock ≠ some k) : SS W G Y s v := ⟨hs.r.more hy, hs.k, hs.fz⟩
/-- what is laid anew is held fast, too -/
theorem SS.new (hs : SS W G X s v) (hb : Below W.heap.size W W') : SS W' G (fun k => X k ∨ (W.heap.size ≤ k ∧ k < W'.heap.size)) s v :=
  (hs.below hb).more fun k hk => by
    rcases hk with hk | ⟨h1, h2⟩
    · refine ⟨Nat.lt_of_lt_of_le (hs.r.hr.xs k hk) hb.size, hs.r.xblk hk, fun q hq e => ?_⟩
      rcases List.mem_append.1 hq with hq | hq
      · exact (hs.r.hr.og q hq k e).2 hk
      · exact hs.r.hr.rx q hq k e hk
    · refine ⟨h2, ?_, fun q hq e => ?_⟩
      · rintro (rfl | ⟨r, hr, e⟩)
        · have := hs.r.hr.gs; omega
        · have := hs.r.lt r hr k e; omega
      · have := hs.r.hr.lt q hq k e; omega
theorem SS.sub (hs : SS W G X s v) (hy : ∀ k, Y k → X k) : SS W G Y s v :=
  ⟨⟨hs.r.own, fun r hr g hg => ⟨(hs.r.og r hr g hg).1, fun e => (hs.r.og r hr g hg).2 (hy g e)⟩, hs.r.hr.sub hy, hs.r.hd, hs.r.cy⟩, hs.k, hs.fz⟩
/-- what lies all in new memory goes behind another pointer -/
theorem SR.lift {B : Nat} (hs : SNew W B s v) (hG : G < B) (hX : ∀ k, X k → k < B) (hxg : ¬ X G) : SR W G X s v :=
  ⟨hs.own, fun r hr g hg => by have := (hs.og r hr g hg).2; exact ⟨by omega, fun e => this (hX g e)⟩, hs.hr.lift hG hX hxg, hs.hd, hs.cy⟩
/-- a block that is held fast is written -/
theorem SR.far (hs : SR W G X s v) {g : Nat} (hx : ¬ v.blk s G g) (hq : ∀ q ∈ v.hc.rows s.h ++ v.hc.reads s.h, q.v.ownBlock ≠ some g) (i : Nat) (u : Value) : SR (W.setCell ⟨g, i, none⟩ u) G X s v :=
  ⟨hs.own.far (fun r hr e => hx (.inr ⟨r, hr, e⟩)) i u, hs.og, hs.hr.kept (Y := fun k => k ≠ g) ((Safe.refl _ W).set (by simp) i u) (fun q h k hk e => hq q h (e ▸ hk)), hs.hd, hs.cy⟩
theorem SS.farX (hs : SS W G X s v) {g : Nat} (hx : X g) (i : Nat) (u : Value) : SS (W.setCell ⟨g, i, none⟩ u) G X s v :=
  ⟨hs.r.far (hs.r.xblk hx) (fun q hq e => by
    rcases List.mem_append.1 hq with hq | hq
    · exact (hs.r.hr.og q hq g e).2 hx
    · exact hs.r.hr.rx q hq g e hx) i u, box_set_other hs.k (fun e => hs.r.hr.xg (e ▸ hx)) i u, frz_set hs.fz _ _⟩
/-- a word of the system is written -/
theorem SR.setG (hs : SR W G X s v) (i : Nat) (u : Value) : SR (W.setCell ⟨G, i, none⟩ u) G X s v :=
  ⟨hs.own.far (fun r hr e => (hs.og r hr G e).1 rfl) i u, hs.og, hs.hr.setG i u, hs.hd, hs.cy⟩
/-- the system as a value -/
theorem map_enc {l : List Int} : l.map vI = flat encI l := by rw [flat_encI]
theorem SR.y (hs : SR W G X s v) {y : Cc} (hy : y ∈ v.ys) : (nsR y).on W 0 ∧ (slR y).on W 0 ∧ (acR y).on W 0 := by
  have h : ∀ r ∈ ccRs y, r.on W 0 := fun r hr => hs.own.each r (by
    unfold Sc.rows
    exact List.mem_cons_of_mem _ (List.mem_cons_of_mem _ (List.mem_flatMap.2 ⟨y, hy, hr⟩)))
  exact ⟨h _ (by simp [ccRs]), h _ (by simp [ccRs]), h _ (by simp [ccRs])⟩
theorem SR.at (hs : SR W G X s v) : SyAt W v s := by
  have hw : (wrR v s).on W 0 := hs.own.each _ (by simp [Sc.rows])
  have hc : (csR v).on W 0 := hs.own.each _ (by simp [Sc.rows])
  refine ⟨?_, own_row hw, hs.hr.at, own_row hc, hs.cy, fun y hy => ?_, own_cap hw, own_cap hc⟩
  · have := hw.1
    unfold wrR at this
    simpa using this
  · obtain ⟨h1, h2, h3⟩ := hs.y hy
    refine ⟨own_flat_len encS_length (by decide) h1, own_flat_len encSl_length (by decide) h2, ?_, own_row h1, own_row h2, own_row h3, own_cap h1, own_cap h2, own_cap h3⟩
    have := h3.1
    unfold acR at this
    simpa using this
end
end Go.Proofs.YtkcaheebaicinaaGreatDoor
/- A system behind a pointer: a cache more. No program in sight but its types. -/
namespace Go.Proofs.YtkcaheebaicinaaGreatDoor
open Go.RowKit
set_option linter.unusedVariables false

section
variable {W W' W9 : World} {G : Nat} {X Y : Nat → Prop} {s s' : Sy} {v v' : Sc}
theorem rows_cs (v : Sc) (s : Sy) : csR v ∈ v.rows s := by simp [Sc.rows]
theorem rows_wr (v : Sc) (s : Sy) : wrR v s ∈ v.rows s := by simp [Sc.rows]
theorem rows_cc {v : Sc} {s : Sy} {y : Cc} (hy : y ∈ v.ys) {r : Rs} (hr : r ∈ ccRs y) : r ∈ v.rows s := by
  unfold Sc.rows
  exact List.mem_cons_of_mem _ (List.mem_cons_of_mem _ (List.mem_flatMap.2 ⟨y, hy, hr⟩))
/-- a cache more -/
theorem SS.addC (hs : SS W G X s v) {y : Cc} (hy : OwnL W 0 (acR y :: slR y :: nsR y :: v.rows s)) (hfr : ∀ r ∈ ccRs y, ∀ g, r.v.ownBlock = some g → v.fr s G X g) {g9 cap9 : Nat} (hg9 : W.grownBy W9 (csR v).v.ownBlock)
    (ho9 : W9.ownsRow 0 72 6 (.slice (some ⟨g9, 0, none⟩) (v.ys.length + 1) cap9) (v.ys.length + 1) (flat encCc (v.ys ++ [y]))) (hl9 : (csR v).v.ownBlock = some g9 ∨ W.heap.size ≤ g9) :
    SS (W9.setCell ⟨G, 6, none⟩ (.slice (some ⟨g9, 0, none⟩) (v.ys.length + 1) cap9)) G X { s with cs := s.cs ++ [y.c] } { v with a2 := some ⟨g9, 0, none⟩, c2 := cap9, ys := v.ys ++ [y] } ∧
    Safe X W (W9.setCell ⟨G, 6, none⟩ (.slice (some ⟨g9, 0, none⟩) (v.ys.length + 1) cap9)) := by
  have hlen : (v.ys ++ [y]).length = v.ys.length + 1 := by simp
  have own9 : OwnL W9 0 (acR y :: slR y :: nsR y :: wrR v s :: (⟨72, 6, .slice (some ⟨g9, 0, none⟩) (v.ys.length + 1) cap9, v.ys.length + 1, flat encCc (v.ys ++ [y])⟩ : Rs) :: v.ys.flatMap ccRs) :=
    hy.grown (i := 4) (by simp [Sc.rows]) hg9 (r' := ⟨72, 6, .slice (some ⟨g9, 0, none⟩) (v.ys.length + 1) cap9, v.ys.length + 1, flat encCc (v.ys ++ [y])⟩) ho9 (fun g hg => by
      obtain rfl : g9 = g := by simpa [Value.ownBlock] using hg
      exact hl9)
  have hcs : csR { v with a2 := some ⟨g9, 0, none⟩, c2 := cap9, ys := v.ys ++ [y] } = ⟨72, 6, .slice (some ⟨g9, 0, none⟩) (v.ys.length + 1) cap9, v.ys.length + 1, flat encCc (v.ys ++ [y])⟩ := by
    unfold csR
    simp only [hlen]
  have hrows : ({ v with a2 := some ⟨g9, 0, none⟩, c2 := cap9, ys := v.ys ++ [y] } : Sc).rows { s with cs := s.cs ++ [y.c] } = wrR v s :: (⟨72, 6, .slice (some ⟨g9, 0, none⟩) (v.ys.length + 1) cap9, v.ys.length + 1, flat encCc (v.ys ++ [y])⟩ : Rs) :: (v.ys.flatMap ccRs ++ [nsR y, slR y, acR y]) := by
    unfold Sc.rows
    rw [hcs]
    simp only [List.flatMap_append, List.flatMap_cons, List.flatMap_nil, List.append_nil]
    rfl
  have hperm : (acR y :: slR y :: nsR y :: wrR v s :: (⟨72, 6, .slice (some ⟨g9, 0, none⟩) (v.ys.length + 1) cap9, v.ys.length + 1, flat encCc (v.ys ++ [y])⟩ : Rs) :: v.ys.flatMap ccRs).Perm (({ v with a2 := some ⟨g9, 0, none⟩, c2 := cap9, ys := v.ys ++ [y] } : Sc).rows { s with cs := s.cs ++ [y.c] }) := by
    rw [hrows]
    have h1 : ∀ (l : List Rs), (acR y :: slR y :: nsR y :: l).Perm (l ++ [nsR y, slR y, acR y]) := fun l =>
      (List.perm_append_comm (l₁ := [acR y, slR y, nsR y]) (l₂ := l)).trans (List.Perm.append_left l (List.reverse_perm [nsR y, slR y, acR y]))
    exact h1 (_ :: _ :: v.ys.flatMap ccRs)
  have hsf : Safe (fun k => ¬ v.blk s G k) W W9 := Safe.ofGrown hg9 fun k hk e => hk (.inr ⟨csR v, rows_cs v s, e.symm⟩)
  have h9 := hs.r.step (s' := { s with cs := s.cs ++ [y.c] }) (v' := { v with a2 := some ⟨g9, 0, none⟩, c2 := cap9, ys := v.ys ++ [y] }) hsf rfl rfl (own9.perm hperm) (fun r hr g hg => by
    rw [hrows] at hr
    rcases List.mem_cons.1 hr with rfl | hr
    · exact .inl ⟨_, rows_wr v s, hg⟩
    · rcases List.mem_cons.1 hr with rfl | hr
      · obtain rfl : g9 = g := by simpa [Value.ownBlock] using hg
        rcases hl9 with h | h
        · exact .inl ⟨_, rows_cs v s, h⟩
        · exact .inr (hs.r.fresh h)
      · rcases List.mem_append.1 hr with hr | hr
        · exact .inl ⟨r, List.mem_cons_of_mem _ (List.mem_cons_of_mem _ hr), hg⟩
        · exact .inr (hfr r hr g hg)) (by simp [hs.r.cy])
  have hG : some G ≠ (csR v).v.ownBlock := fun e => (hs.r.og _ (rows_cs v s) G e.symm).1 rfl
  have K := box_set (box_grown hs.k hs.r.hr.gs hg9 hG) 6 (.slice (some ⟨g9, 0, none⟩) (v.ys.length + 1) cap9)
  have hv : ({ v with a2 := some ⟨g9, 0, none⟩, c2 := cap9, ys := v.ys ++ [y] } : Sc).vals { s with cs := s.cs ++ [y.c] } = (v.vals s).setIfInBounds 6 (.slice (some ⟨g9, 0, none⟩) (v.ys.length + 1) cap9) := by
    unfold Sc.vals
    simp only [hlen]
    rfl
  rw [← hv] at K
  exact ⟨⟨h9.setG 6 _, K, frz_set (frz_grown hs.fz hs.r.hr.gs hg9 hG) _ _⟩, (Safe.ofGrown hg9 fun k hk e => (hs.r.og _ (rows_cs v s) k e.symm).2 hk).set hs.r.hr.xg 6 _⟩
/-- a cache's three rows, copied; its box is written -/
theorem SS.three {w5 wd wa wb wc : World} {T : Nat} (hs : SS w5 G X s v) (hX : X T) (hd : Below w5.heap.size w5 wd) (hba : Below wd.heap.size wd wa) (hbb : Below wa.heap.size wa wb) (hbc : Below wb.heap.size wb wc) {y : Cc}
    (hoa : wa.ownsRow wd.heap.size 9 1 (.slice y.a1 y.n1 y.c1) y.n1 (flat encS y.c.ns)) (hob : wb.ownsRow wa.heap.size 87 3 (.slice y.a2 y.n2 y.c2) y.n2 (flat encSl y.c.sl)) (hoc : wc.ownsRow wb.heap.size 3 1 (.slice y.a3 y.n3 y.c3) y.n3 (flat encI y.c.ac)) (i1 i2 i3 : Nat) (u1 u2 u3 : Value) :
    SS (((wc.setCell ⟨T, i1, none⟩ u1).setCell ⟨T, i2, none⟩ u2).setCell ⟨T, i3, none⟩ u3) G X s v ∧ OwnL (((wc.setCell ⟨T, i1, none⟩ u1).setCell ⟨T, i2, none⟩ u2).setCell ⟨T, i3, none⟩ u3) 0 (acR y :: slR y :: nsR y :: v.rows s) ∧ (∀ r ∈ ccRs y, ∀ g, r.v.ownBlock = some g → v.fr s G X g) := by
  rw [flat_encI] at hoc
  have b5a := Below.step hd hba
  have hT : T < w5.heap.size := hs.r.hr.xs T hX
  have h5d := hd.size
  have hda := hba.size
  have hab := hbb.size
  have o1 : OwnL wa 0 (nsR y :: v.rows s) := (hs.r.own.below b5a).cons (r' := nsR y) hoa (Nat.zero_le _) fun r hr g hg => Nat.lt_of_lt_of_le (hs.r.lt r hr g hg) h5d
  have o2 : OwnL wb 0 (slR y :: nsR y :: v.rows s) := (o1.below hbb).cons (r' := slR y) hob (Nat.zero_le _) fun r hr g hg => (o1.lt r hr g hg).2
  have o3 : OwnL wc 0 (acR y :: slR y :: nsR y :: v.rows s) := (o2.below hbc).cons (r' := acR y) hoc (Nat.zero_le _) fun r hr g hg => (o2.lt r hr g hg).2
  have hge : ∀ r ∈ ccRs y, ∀ g, r.v.ownBlock = some g → w5.heap.size ≤ g := fun r hr g hg => by
    simp only [ccRs, List.mem_cons, List.not_mem_nil, or_false] at hr
    rcases hr with rfl | rfl | rfl
    · have := (hoa.lt g hg).1; omega
    · have := (hob.lt g hg).1; omega
    · have := (hoc.lt g hg).1; omega
  have hne : ∀ r ∈ acR y :: slR y :: nsR y :: v.rows s, r.v.ownBlock ≠ some T := fun r hr e => by
    simp only [List.mem_cons] at hr
    rcases hr with rfl | rfl | rfl | hr
    · have := hge (acR y) (by simp [ccRs]) T e; omega
    · have := hge (slR y) (by simp [ccRs]) T e; omega
    · have := hge (nsR y) (by simp [ccRs]) T e; omega
    · exact (hs.r.og r hr T e).2 hX
  exact ⟨(((hs.below (Below.step b5a (Below.step hbb hbc))).farX hX i1 u1).farX hX i2 u2).farX hX i3 u3, ((o3.far hne i1 u1).far hne i2 u2).far hne i3 u3, fun r hr g hg => hs.r.fresh (hge r hr g hg)⟩
/-- behind another block that was held fast -/
theorem SR.toX (hs : SR W G X s v) {B : Nat} (hB : X B) (hy : ∀ k, Y k → X k) (hn : ¬ Y B) : SR W B Y s v :=
  ⟨hs.own, fun r hr g hg => ⟨fun e => (hs.og r hr g hg).2 (e ▸ hB), fun e => (hs.og r hr g hg).2 (hy g e)⟩, hs.hr.any (hs.hr.xs B hB) (fun q hq k hk => by
    have h : ¬ X k := fun e => by
      rcases List.mem_append.1 hq with hq | hq
      · exact (hs.hr.og q hq k hk).2 e
      · exact hs.hr.rx q hq k hk e
    exact ⟨fun e => h (e ▸ hB), fun e => h (hy k e)⟩) (fun k hk => hs.hr.xs k (hy k hk)) hn, hs.hd, hs.cy⟩
theorem SR.farX (hs : SR W G X s v) {g : Nat} (hx : X g) (i : Nat) (u : Value) : SR (W.setCell ⟨g, i, none⟩ u) G X s v :=
  hs.far (hs.xblk hx) (fun q hq e => by
    rcases List.mem_append.1 hq with hq | hq
    · exact (hs.hr.og q hq g e).2 hx
    · exact hs.hr.rx q hq g e hx) i u
end
end Go.Proofs.YtkcaheebaicinaaGreatDoor
/- A system behind a pointer: a cache's rows change; another heap, other words. No program in sight but its types. -/
namespace Go.Proofs.YtkcaheebaicinaaGreatDoor
open Go.RowKit
set_option linter.unusedVariables false

theorem flat_cell {α : Type} {enc : α → List Value} {k : Nat} (hk : ∀ x, (enc x).length = k) {i : Nat} (hi : i < k) {u : Value} {x : α} : ∀ (l : List α) (j : Nat) (hj : j < l.length), enc x = (enc l[j]).set i u → (flat enc l).set (j * k + i) u = flat enc (l.set j x)
  | a :: l, 0, _, hx => by
    rw [flat_cons, List.set_cons_zero, flat_cons, Nat.zero_mul, Nat.zero_add, List.set_append_left _ _ (by rw [hk]; exact hi)]
    rw [show enc x = (enc a).set i u from hx]
  | a :: l, j + 1, hj, hx => by
    rw [flat_cons, List.set_cons_succ, flat_cons, List.set_append_right _ _ (by rw [hk, Nat.add_mul]; omega), hk, show (j + 1) * k + i - k = j * k + i by rw [Nat.add_mul]; omega, flat_cell hk hi l j (by simpa using hj) hx]
theorem flat_same {α : Type} {enc : α → List Value} {x : α} : ∀ (l : List α) (j : Nat) (hj : j < l.length), enc x = enc l[j] → flat enc (l.set j x) = flat enc l
  | a :: l, 0, _, hx => by rw [List.set_cons_zero, flat_cons, flat_cons, show enc x = enc a from hx]
  | a :: l, j + 1, hj, hx => by rw [List.set_cons_succ, flat_cons, flat_cons, flat_same l j (by simpa using hj) hx]

section
variable {W W' W1 W2 W9 : World} {G : Nat} {X Y : Nat → Prop} {s s' : Sy} {v v' : Sc}
def Sc.setY (v : Sc) (i : Nat) (y : Cc) : Sc := { v with ys := v.ys.set i y }
theorem setY_vals (v : Sc) (s : Sy) (i : Nat) (y : Cc) (c : Ca) : (v.setY i y).vals (s.setC i c) = v.vals s := by
  unfold Sc.vals Sc.setY
  simp only [List.length_set]
  rfl
/-- a cache's rows have changed -/
theorem SR.upC (hs : SR W G X s v) {i : Nat} (hi : i < v.ys.length) {y' : Cc} (sf : Safe (fun k => ¬ v.blk s G k) W W')
    (own : OwnL W' 0 (wrR v s :: csR (v.setY i y') :: nsR y' :: slR y' :: acR y' :: (v.ys.eraseIdx i).flatMap ccRs))
    (hb : ∀ r ∈ ccRs y', ∀ g, r.v.ownBlock = some g → (∃ q ∈ v.rows s, q.v.ownBlock = some g) ∨ v.fr s G X g) : SR W' G X (s.setC i y'.c) (v.setY i y') := by
  have hi' : i < (v.setY i y').ys.length := by
    unfold Sc.setY
    simpa using hi
  have hp := rows_perm (v.setY i y') (s.setC i y'.c) hi'
  have e1 : (v.setY i y').ys[i] = y' := by simp [Sc.setY]
  have e2 : (v.setY i y').ys.eraseIdx i = v.ys.eraseIdx i := by
    unfold Sc.setY
    exact List.eraseIdx_set_eq
  have e3 : (v.setY i y').front (s.setC i y'.c) (v.setY i y').ys[i] ((v.setY i y').ys.eraseIdx i) = wrR v s :: csR (v.setY i y') :: nsR y' :: slR y' :: acR y' :: (v.ys.eraseIdx i).flatMap ccRs := by
    rw [e1, e2]
    rfl
  rw [e3] at hp
  refine hs.step sf rfl rfl (own.perm hp.symm) (fun r hr g hg => ?_) ?_
  · have hr2 := hp.mem_iff.1 hr
    have hold : ∀ q, q ∈ (v.front s v.ys[i] (v.ys.eraseIdx i)) → q ∈ v.rows s := fun q hq => (rows_perm v s hi).mem_iff.2 hq
    simp only [List.mem_cons] at hr2
    rcases hr2 with rfl | rfl | rfl | rfl | rfl | hr2
    · exact .inl ⟨_, rows_wr v s, hg⟩
    · refine .inl ⟨_, rows_cs v s, ?_⟩
      rw [← hg]
      unfold csR Sc.setY
      simp only [List.length_set]
    · exact hb _ (by simp [ccRs]) g hg
    · exact hb _ (by simp [ccRs]) g hg
    · exact hb _ (by simp [ccRs]) g hg
    · exact .inl ⟨r, hold r (by unfold Sc.front; simp only [List.mem_cons]; exact .inr (.inr (.inr (.inr (.inr hr2))))), hg⟩
  · unfold Sc.setY Sy.setC
    simp only
    rw [List.map_set, hs.cy]
/-- the front of the rows -/
theorem SR.fown (hs : SR W G X s v) {i : Nat} (hi : i < v.ys.length) : OwnL W 0 (wrR v s :: csR v :: nsR v.ys[i] :: slR v.ys[i] :: acR v.ys[i] :: (v.ys.eraseIdx i).flatMap ccRs) := hs.own.perm (rows_perm v s hi)
/-- where a cache's words lie -/
theorem SR.cAt (hs : SR W G X s v) {i : Nat} (hi : i < v.ys.length) : ∃ g, v.a2 = some ⟨g, 0, none⟩ ∧ g < W.heap.size ∧ g ≠ G ∧ ¬ X g ∧ (∀ j, j < 6 → W.cell? ⟨g, i * 6 + j, none⟩ = (encCc v.ys[i])[j]? ∧ W.frozen? ⟨g, i * 6 + j, none⟩ = false) := by
  have hc : (csR v).on W 0 := hs.own.each _ (rows_cs v s)
  have hlen := flat_length encCc_length v.ys
  obtain ⟨g, u, h1, _, h2, _, _⟩ := own_cell hc (i * 6) (by rw [show (csR v).xs = flat encCc v.ys from rfl, hlen]; omega)
  have h3 : (csR v).v.ownBlock = some g := by unfold csR; rw [h1]; rfl
  have h4 := hs.og _ (rows_cs v s) g h3
  refine ⟨g, h1, h2, h4.1, h4.2, fun j hj => ?_⟩
  have hk : i * 6 + j < (csR v).xs.length := by rw [show (csR v).xs = flat encCc v.ys from rfl, hlen]; omega
  obtain ⟨g', h5, _, _, h6, h7⟩ := own_at hc (i * 6 + j) hk
  rw [h1] at h5
  obtain rfl : g = g' := by simpa using h5
  refine ⟨?_, h7⟩
  rw [h6, ← flat_get encCc_length v.ys i hi j hj]
  exact (List.getElem?_eq_getElem hk).symm
theorem SR.cell_ok (hs : SR W G X s v) {r : Rs} (hr : r ∈ v.rows s) {g : Nat} (hg : r.v.ownBlock = some g) (i : Nat) (u : Value) : Safe (fun k => ¬ v.blk s G k) W (W.setCell ⟨g, i, none⟩ u) :=
  (Safe.refl _ W).set (fun h => h (.inr ⟨r, hr, hg⟩)) i u
theorem SS.cellK (hs : SS W G X s v) {g : Nat} (hg : g ≠ G) (i : Nat) (u : Value) : (∀ o, (W.setCell ⟨g, i, none⟩ u).cell? ⟨G, o, none⟩ = (v.vals s)[o]?) ∧ ∀ o, (W.setCell ⟨g, i, none⟩ u).frozen? ⟨G, o, none⟩ = false :=
  ⟨box_set_other hs.k (fun e => hg e.symm) i u, frz_set hs.fz _ _⟩
/-- a processor's own slab is written -/
theorem SS.setAc (hs : SS W G X s v) {i : Nat} (hi : i < v.ys.length) {g : Nat} (hg : v.ys[i].a3 = some ⟨g, 0, none⟩) (cpu : Nat) (p : Int) :
    SS (W.setCell ⟨g, cpu, none⟩ (vI p)) G X (s.setC i { v.ys[i].c with ac := v.ys[i].c.ac.set cpu p }) (v.setY i { v.ys[i] with c := { v.ys[i].c with ac := v.ys[i].c.ac.set cpu p } }) ∧ Safe X W (W.setCell ⟨g, cpu, none⟩ (vI p)) := by
  have hrow : acR v.ys[i] ∈ v.rows s := rows_cc (List.getElem_mem hi) (by simp [ccRs])
  have hb : (acR v.ys[i]).v.ownBlock = some g := by unfold acR; rw [hg]; rfl
  have h4 := hs.r.og _ hrow g hb
  have k := (hs.r.fown hi).cell (i := 4) (by simp) (g := g) (c := v.ys[i].c3) (by show (acR v.ys[i]).v = _; unfold acR; rw [hg]; rfl) cpu (vI p) rfl
  have e1 : ({ acR v.ys[i] with xs := (acR v.ys[i]).xs.set cpu (vI p) } : Rs) = acR { v.ys[i] with c := { v.ys[i].c with ac := v.ys[i].c.ac.set cpu p } } := by
    unfold acR
    simp only [List.map_set]
  have e2 : csR (v.setY i { v.ys[i] with c := { v.ys[i].c with ac := v.ys[i].c.ac.set cpu p } }) = csR v := by
    have e : flat encCc (v.ys.set i { v.ys[i] with c := { v.ys[i].c with ac := v.ys[i].c.ac.set cpu p } }) = flat encCc v.ys := flat_same v.ys i hi rfl
    unfold csR Sc.setY
    simp only [List.length_set]
    rw [e]
  have hr := hs.r.upC hi (y' := { v.ys[i] with c := { v.ys[i].c with ac := v.ys[i].c.ac.set cpu p } }) (hs.r.cell_ok hrow hb cpu (vI p)) (by
    rw [e2, ← e1]
    exact k) (fun r hr' g' hg' => .inl (by
    simp only [ccRs, List.mem_cons, List.not_mem_nil, or_false] at hr'
    rcases hr' with rfl | rfl | rfl
    · exact ⟨nsR v.ys[i], rows_cc (List.getElem_mem hi) (by simp [ccRs]), hg'⟩
    · exact ⟨slR v.ys[i], rows_cc (List.getElem_mem hi) (by simp [ccRs]), hg'⟩
    · exact ⟨acR v.ys[i], hrow, hg'⟩))
  have hk := hs.cellK h4.1 cpu (vI p)
  rw [← setY_vals v s i] at hk
  exact ⟨⟨hr, hk.1, hk.2⟩, (Safe.refl X W).set h4.2 cpu (vI p)⟩
/-- a word of a slab is written -/
theorem SS.setSl (hs : SS W G X s v) {i : Nat} (hi : i < v.ys.length) {g : Nat} (hg : v.ys[i].a2 = some ⟨g, 0, none⟩) {k : Nat} (hk : k < v.ys[i].c.sl.length) {x' : Sl} {j : Nat} (hj : j < 3) {u : Value} (hu : encSl x' = (encSl v.ys[i].c.sl[k]).set j u) (h1 : u.oneCell' = true) :
    SS (W.setCell ⟨g, k * 3 + j, none⟩ u) G X (s.setC i { v.ys[i].c with sl := v.ys[i].c.sl.set k x' }) (v.setY i { v.ys[i] with c := { v.ys[i].c with sl := v.ys[i].c.sl.set k x' } }) ∧ Safe X W (W.setCell ⟨g, k * 3 + j, none⟩ u) := by
  have hrow : slR v.ys[i] ∈ v.rows s := rows_cc (List.getElem_mem hi) (by simp [ccRs])
  have hb : (slR v.ys[i]).v.ownBlock = some g := by unfold slR; rw [hg]; rfl
  have h4 := hs.r.og _ hrow g hb
  have h5 := (hs.r.fown hi).cell (i := 3) (by simp) (g := g) (c := v.ys[i].c2) (by show (slR v.ys[i]).v = _; unfold slR; rw [hg]; rfl) (k * 3 + j) u h1
  have e1 : ({ slR v.ys[i] with xs := (slR v.ys[i]).xs.set (k * 3 + j) u } : Rs) = slR { v.ys[i] with c := { v.ys[i].c with sl := v.ys[i].c.sl.set k x' } } := by
    unfold slR
    simp only
    rw [flat_cell encSl_length hj v.ys[i].c.sl k hk hu]
  have e2 : csR (v.setY i { v.ys[i] with c := { v.ys[i].c with sl := v.ys[i].c.sl.set k x' } }) = csR v := by
    have e : flat encCc (v.ys.set i { v.ys[i] with c := { v.ys[i].c with sl := v.ys[i].c.sl.set k x' } }) = flat encCc v.ys := flat_same v.ys i hi rfl
    unfold csR Sc.setY
    simp only [List.length_set]
    rw [e]
  have hr := hs.r.upC hi (y' := { v.ys[i] with c := { v.ys[i].c with sl := v.ys[i].c.sl.set k x' } }) (hs.r.cell_ok hrow hb (k * 3 + j) u) (by
    rw [e2, ← e1]
    exact h5) (fun r hr' g' hg' => .inl (by
    simp only [ccRs, List.mem_cons, List.not_mem_nil, or_false] at hr'
    rcases hr' with rfl | rfl | rfl
    · exact ⟨nsR v.ys[i], rows_cc (List.getElem_mem hi) (by simp [ccRs]), hg'⟩
    · exact ⟨slR v.ys[i], hrow, hg'⟩
    · exact ⟨acR v.ys[i], rows_cc (List.getElem_mem hi) (by simp [ccRs]), hg'⟩))
  have hk := hs.cellK h4.1 (k * 3 + j) u
  rw [← setY_vals v s i] at hk
  exact ⟨⟨hr, hk.1, hk.2⟩, (Safe.refl X W).set h4.2 (k * 3 + j) u⟩
/-- a cache has other slabs -/
theorem SS.putSl (hs : SS W G X s v) {i : Nat} (hi : i < v.ys.length) {l' : List Sl} {a' : Option Addr} {n' c' : Nat} (hown : W2.ownsRow 0 87 3 (.slice a' n' c') n' (flat encSl l')) (hg : W.grownBy W2 (slR v.ys[i]).v.ownBlock)
    (hl : ∀ k, (Value.slice a' n' c').ownBlock = some k → (slR v.ys[i]).v.ownBlock = some k ∨ W.heap.size ≤ k) {gc : Nat} (hgc : v.a2 = some ⟨gc, 0, none⟩) :
    SS (W2.setCell ⟨gc, i * 6 + 4, none⟩ (.slice a' n' c')) G X (s.setC i { v.ys[i].c with sl := l' }) (v.setY i { v.ys[i] with a2 := a', n2 := n', c2 := c', c := { v.ys[i].c with sl := l' } }) ∧ Safe X W (W2.setCell ⟨gc, i * 6 + 4, none⟩ (.slice a' n' c')) := by
  have hrow : slR v.ys[i] ∈ v.rows s := rows_cc (List.getElem_mem hi) (by simp [ccRs])
  have hcb : (csR v).v.ownBlock = some gc := by unfold csR; rw [hgc]; rfl
  have h4 := hs.r.og _ (rows_cs v s) gc hcb
  have o1 := (hs.r.fown hi).grown (i := 3) (by simp) hg (r' := slR { v.ys[i] with a2 := a', n2 := n', c2 := c', c := { v.ys[i].c with sl := l' } }) hown hl
  have o2 := o1.cell (i := 1) (by simp) (g := gc) (c := v.c2) (by show (csR v).v = _; unfold csR; rw [hgc]; rfl) (i * 6 + 4) (.slice a' n' c') rfl
  have e1 : ({ csR v with xs := (csR v).xs.set (i * 6 + 4) (.slice a' n' c') } : Rs) = csR (v.setY i { v.ys[i] with a2 := a', n2 := n', c2 := c', c := { v.ys[i].c with sl := l' } }) := by
    unfold csR Sc.setY
    simp only [List.length_set]
    rw [flat_cell encCc_length (by decide) v.ys i hi (x := { v.ys[i] with a2 := a', n2 := n', c2 := c', c := { v.ys[i].c with sl := l' } }) rfl]
  have sf : Safe (fun k => ¬ v.blk s G k) W W2 := Safe.ofGrown hg fun k hk e => hk (.inr ⟨_, hrow, e.symm⟩)
  have hr := hs.r.upC hi (y' := { v.ys[i] with a2 := a', n2 := n', c2 := c', c := { v.ys[i].c with sl := l' } }) (sf.set (fun h => h (.inr ⟨_, rows_cs v s, hcb⟩)) (i * 6 + 4) (.slice a' n' c')) (by
    rw [← e1]
    exact o2) (fun r hr' g' hg' => by
    simp only [ccRs, List.mem_cons, List.not_mem_nil, or_false] at hr'
    rcases hr' with rfl | rfl | rfl
    · exact .inl ⟨nsR v.ys[i], rows_cc (List.getElem_mem hi) (by simp [ccRs]), hg'⟩
    · rcases hl g' hg' with h | h
      · exact .inl ⟨slR v.ys[i], hrow, h⟩
      · exact .inr (hs.r.fresh h)
    · exact .inl ⟨acR v.ys[i], rows_cc (List.getElem_mem hi) (by simp [ccRs]), hg'⟩)
  have hG : some G ≠ (slR v.ys[i]).v.ownBlock := fun e => (hs.r.og _ hrow G e.symm).1 rfl
  have hk1 := box_set_other (box_grown hs.k hs.r.hr.gs hg hG) (c := gc) (fun e => h4.1 e.symm) (i * 6 + 4) (.slice a' n' c')
  have hk2 := frz_set (frz_grown hs.fz hs.r.hr.gs hg hG) ⟨gc, i * 6 + 4, none⟩ (.slice a' n' c')
  rw [← setY_vals v s i] at hk1
  exact ⟨⟨hr, hk1, hk2⟩, (Safe.ofGrown hg fun k hk e => (hs.r.og _ hrow k e.symm).2 hk).set h4.2 (i * 6 + 4) _⟩
/-- a cache has other names -/
theorem SS.putNs (hs : SS W G X s v) {i : Nat} (hi : i < v.ys.length) {l' : List (List UInt8)} {a' : Option Addr} {n' c' : Nat} (hown : W2.ownsRow 0 9 1 (.slice a' n' c') n' (flat encS l')) (hg : W.grownBy W2 (nsR v.ys[i]).v.ownBlock)
    (hl : ∀ k, (Value.slice a' n' c').ownBlock = some k → (nsR v.ys[i]).v.ownBlock = some k ∨ W.heap.size ≤ k) {gc : Nat} (hgc : v.a2 = some ⟨gc, 0, none⟩) :
    SS (W2.setCell ⟨gc, i * 6, none⟩ (.slice a' n' c')) G X (s.setC i { v.ys[i].c with ns := l' }) (v.setY i { v.ys[i] with a1 := a', n1 := n', c1 := c', c := { v.ys[i].c with ns := l' } }) ∧ Safe X W (W2.setCell ⟨gc, i * 6, none⟩ (.slice a' n' c')) := by
  have hrow : nsR v.ys[i] ∈ v.rows s := rows_cc (List.getElem_mem hi) (by simp [ccRs])
  have hcb : (csR v).v.ownBlock = some gc := by unfold csR; rw [hgc]; rfl
  have h4 := hs.r.og _ (rows_cs v s) gc hcb
  have o1 := (hs.r.fown hi).grown (i := 2) (by simp) hg (r' := nsR { v.ys[i] with a1 := a', n1 := n', c1 := c', c := { v.ys[i].c with ns := l' } }) hown hl
  have o2 := o1.cell (i := 1) (by simp) (g := gc) (c := v.c2) (by show (csR v).v = _; unfold csR; rw [hgc]; rfl) (i * 6 + 0) (.slice a' n' c') rfl
  have e1 : ({ csR v with xs := (csR v).xs.set (i * 6 + 0) (.slice a' n' c') } : Rs) = csR (v.setY i { v.ys[i] with a1 := a', n1 := n', c1 := c', c := { v.ys[i].c with ns := l' } }) := by
    unfold csR Sc.setY
    simp only [List.length_set]
    rw [flat_cell encCc_length (by decide) v.ys i hi (x := { v.ys[i] with a1 := a', n1 := n', c1 := c', c := { v.ys[i].c with ns := l' } }) rfl]
  have sf : Safe (fun k => ¬ v.blk s G k) W W2 := Safe.ofGrown hg fun k hk e => hk (.inr ⟨_, hrow, e.symm⟩)
  have hr := hs.r.upC hi (y' := { v.ys[i] with a1 := a', n1 := n', c1 := c', c := { v.ys[i].c with ns := l' } }) (sf.set (fun h => h (.inr ⟨_, rows_cs v s, hcb⟩)) (i * 6 + 0) (.slice a' n' c')) (by
    rw [← e1]
    exact o2) (fun r hr' g' hg' => by
    simp only [ccRs, List.mem_cons, List.not_mem_nil, or_false] at hr'
    rcases hr' with rfl | rfl | rfl
    · rcases hl g' hg' with h | h
      · exact .inl ⟨nsR v.ys[i], hrow, h⟩
      · exact .inr (hs.r.fresh h)
    · exact .inl ⟨slR v.ys[i], rows_cc (List.getElem_mem hi) (by simp [ccRs]), hg'⟩
    · exact .inl ⟨acR v.ys[i], rows_cc (List.getElem_mem hi) (by simp [ccRs]), hg'⟩)
  have hG : some G ≠ (nsR v.ys[i]).v.ownBlock := fun e => (hs.r.og _ hrow G e.symm).1 rfl
  have hk1 := box_set_other (box_grown hs.k hs.r.hr.gs hg hG) (c := gc) (fun e => h4.1 e.symm) (i * 6 + 0) (.slice a' n' c')
  have hk2 := frz_set (frz_grown hs.fz hs.r.hr.gs hg hG) ⟨gc, i * 6 + 0, none⟩ (.slice a' n' c')
  rw [← setY_vals v s i] at hk1
  exact ⟨⟨hr, hk1, hk2⟩, (Safe.ofGrown hg fun k hk e => (hs.r.og _ hrow k e.symm).2 hk).set h4.2 (i * 6 + 0) _⟩
/-- another heap and other words -/
theorem SS.putHW (hs : SS W G X s v) (hb : Below W.heap.size W W1) {h' : Hp} {hc' : Hc} (hn : HNew W1 W.heap.size h' hc') (hb2 : Below W1.heap.size W1 W2) {xs : List Int} {a : Option Addr} {n c : Nat} (ho : W2.ownsRow W1.heap.size 3 1 (.slice a n c) n (xs.map vI)) :
    SS ((((((W2.setCell ⟨G, 1, none⟩ (.slice hc'.az 2 hc'.cz)).setCell ⟨G, 2, none⟩ (.slice hc'.am 2 hc'.cm)).setCell ⟨G, 3, none⟩ (.int .i64 (h'.cpus : Int))).setCell ⟨G, 4, none⟩ (.slice hc'.al hc'.lc.length hc'.cl)).setCell ⟨G, 5, none⟩ (.slice hc'.av h'.live.length hc'.cv)).setCell ⟨G, 0, none⟩ (.slice a n c)) G X { s with w := xs, h := h' } { v with a1 := a, n1 := n, c1 := c, hc := hc' } ∧
    Safe X W ((((((W2.setCell ⟨G, 1, none⟩ (.slice hc'.az 2 hc'.cz)).setCell ⟨G, 2, none⟩ (.slice hc'.am 2 hc'.cm)).setCell ⟨G, 3, none⟩ (.int .i64 (h'.cpus : Int))).setCell ⟨G, 4, none⟩ (.slice hc'.al hc'.lc.length hc'.cl)).setCell ⟨G, 5, none⟩ (.slice hc'.av h'.live.length hc'.cv)).setCell ⟨G, 0, none⟩ (.slice a n c)) := by
  have h1 := hs.r.heap hb hn
  have h2 := h1.words hb2 ho
  have K := box_step hs.k hs.r.hr.gs (Below.step hb hb2)
  have F := frz_step hs.fz hs.r.hr.gs (Below.step hb hb2)
  have K1 := box_set K 1 (.slice hc'.az 2 hc'.cz)
  have K2 := box_set K1 2 (.slice hc'.am 2 hc'.cm)
  have K3 := box_set K2 3 (.int .i64 (h'.cpus : Int))
  have K4 := box_set K3 4 (.slice hc'.al hc'.lc.length hc'.cl)
  have K5 := box_set K4 5 (.slice hc'.av h'.live.length hc'.cv)
  have K6 := box_set K5 0 (.slice a n c)
  have F1 := frz_set F ⟨G, 1, none⟩ (.slice hc'.az 2 hc'.cz)
  have F2 := frz_set F1 ⟨G, 2, none⟩ (.slice hc'.am 2 hc'.cm)
  have F3 := frz_set F2 ⟨G, 3, none⟩ (.int .i64 (h'.cpus : Int))
  have F4 := frz_set F3 ⟨G, 4, none⟩ (.slice hc'.al hc'.lc.length hc'.cl)
  have F5 := frz_set F4 ⟨G, 5, none⟩ (.slice hc'.av h'.live.length hc'.cv)
  have F6 := frz_set F5 ⟨G, 0, none⟩ (.slice a n c)
  unfold Sc.vals at K6
  simp only [List.setIfInBounds_toArray, List.set_cons_zero, List.set_cons_succ] at K6
  exact ⟨⟨(((((h2.setG 1 _).setG 2 _).setG 3 _).setG 4 _).setG 5 _).setG 0 _, K6, F6⟩, ((((((Safe.ofBelow (Below.step hb hb2)).set hs.r.hr.xg 1 _).set hs.r.hr.xg 2 _).set hs.r.hr.xg 3 _).set hs.r.hr.xg 4 _).set hs.r.hr.xg 5 _).set hs.r.hr.xg 0 _⟩
theorem SS.putSlY (hs : SS W G X s v) {i : Nat} (hi : i < v.ys.length) {y : Cc} (hy : v.ys[i] = y) {l' : List Sl} {a' : Option Addr} {n' c' : Nat} (hown : W2.ownsRow 0 87 3 (.slice a' n' c') n' (flat encSl l')) (hg : W.grownBy W2 (slR y).v.ownBlock)
    (hl : ∀ k, (Value.slice a' n' c').ownBlock = some k → (slR y).v.ownBlock = some k ∨ W.heap.size ≤ k) {gc : Nat} (hgc : v.a2 = some ⟨gc, 0, none⟩) :
    ∃ v', SS (W2.setCell ⟨gc, i * 6 + 4, none⟩ (.slice a' n' c')) G X (s.setC i { y.c with sl := l' }) v' ∧ Safe X W (W2.setCell ⟨gc, i * 6 + 4, none⟩ (.slice a' n' c')) ∧ v'.a2 = v.a2 := by
  subst hy
  have h := hs.putSl hi hown hg hl hgc
  exact ⟨_, h.1, h.2, rfl⟩
theorem SR.cs_sl (hs : SR W G X s v) {i : Nat} (hi : i < v.ys.length) {y : Cc} (hy : v.ys[i] = y) {gc : Nat} (hgc : v.a2 = some ⟨gc, 0, none⟩) : (slR y).v.ownBlock ≠ some gc := fun e => by
  subst hy
  have h := (hs.fown hi).off (i := 1) (j := 3) (by simp) (by simp) (by decide) gc (by show (csR v).v.ownBlock = _; unfold csR; rw [hgc]; rfl)
  exact h e
theorem SS.setAcY (hs : SS W G X s v) {i : Nat} (hi : i < v.ys.length) {y : Cc} (hy : v.ys[i] = y) {g : Nat} (hg : y.a3 = some ⟨g, 0, none⟩) (cpu : Nat) (p : Int) :
    ∃ v', SS (W.setCell ⟨g, cpu, none⟩ (vI p)) G X (s.setC i { y.c with ac := y.c.ac.set cpu p }) v' ∧ Safe X W (W.setCell ⟨g, cpu, none⟩ (vI p)) ∧ v'.a2 = v.a2 := by
  subst hy
  have h := hs.setAc hi hg cpu p
  exact ⟨_, h.1, h.2, rfl⟩
/-- a slab gives its first object away: two words are written -/
theorem SS.popY (hs : SS W G X s v) {i : Nat} (hi : i < v.ys.length) {y : Cc} (hy : v.ys[i] = y) {g : Nat} (hg : y.a2 = some ⟨g, 0, none⟩) {k : Nat} (hk : k < y.c.sl.length) (h' : Int) {n' : Nat} :
    ∃ v', SS ((W.setCell ⟨g, k * 3 + 2, none⟩ (vI h')).setCell ⟨g, k * 3 + 1, none⟩ (vI n')) G X (s.setC i { y.c with sl := y.c.sl.set k ⟨y.c.sl[k].p, n', h'⟩ }) v' ∧ Safe X W ((W.setCell ⟨g, k * 3 + 2, none⟩ (vI h')).setCell ⟨g, k * 3 + 1, none⟩ (vI n')) ∧ v'.a2 = v.a2 := by
  subst hy
  have h1 := hs.setSl hi hg hk (x' := ⟨v.ys[i].c.sl[k].p, v.ys[i].c.sl[k].n, h'⟩) (j := 2) (by decide) (u := vI h') rfl rfl
  have hi2 : i < (v.setY i { v.ys[i] with c := { v.ys[i].c with sl := v.ys[i].c.sl.set k ⟨v.ys[i].c.sl[k].p, v.ys[i].c.sl[k].n, h'⟩ } }).ys.length := by
    unfold Sc.setY
    simpa using hi
  have e1 : (v.setY i { v.ys[i] with c := { v.ys[i].c with sl := v.ys[i].c.sl.set k ⟨v.ys[i].c.sl[k].p, v.ys[i].c.sl[k].n, h'⟩ } }).ys[i] = { v.ys[i] with c := { v.ys[i].c with sl := v.ys[i].c.sl.set k ⟨v.ys[i].c.sl[k].p, v.ys[i].c.sl[k].n, h'⟩ } } := by simp [Sc.setY]
  have h2 := h1.1.setSl hi2 (g := g) (by rw [e1]; exact hg) (k := k) (by rw [e1]; simpa using hk) (x' := ⟨v.ys[i].c.sl[k].p, n', h'⟩) (j := 1) (by decide) (u := vI n') (by
    simp only [e1, List.getElem_set_self]
    rfl) rfl
  have h3 := h2.1
  have e2 : (s.setC i { v.ys[i].c with sl := v.ys[i].c.sl.set k ⟨v.ys[i].c.sl[k].p, v.ys[i].c.sl[k].n, h'⟩ }).setC i { (v.setY i { v.ys[i] with c := { v.ys[i].c with sl := v.ys[i].c.sl.set k ⟨v.ys[i].c.sl[k].p, v.ys[i].c.sl[k].n, h'⟩ } }).ys[i].c with sl := (v.setY i { v.ys[i] with c := { v.ys[i].c with sl := v.ys[i].c.sl.set k ⟨v.ys[i].c.sl[k].p, v.ys[i].c.sl[k].n, h'⟩ } }).ys[i].c.sl.set k ⟨v.ys[i].c.sl[k].p, n', h'⟩ } = s.setC i { v.ys[i].c with sl := v.ys[i].c.sl.set k ⟨v.ys[i].c.sl[k].p, n', h'⟩ } := by
    unfold Sy.setC
    simp only [e1, List.set_set]
  rw [e2] at h3
  exact ⟨_, h3, h1.2.trans h2.2, rfl⟩
end
end Go.Proofs.YtkcaheebaicinaaGreatDoor
/- Contract of package buddy: Pages. -/
namespace Go.Proofs.YtkcaheebaicinaaGreatDoor
open Go.RowKit
set_option linter.unusedVariables false

def sumB : List Bk → Nat
  | [] => 0
  | b :: l => 2 ^ b.o + sumB l
theorem sumB_take (l : List Bk) (i : Nat) (hi : i < l.length) : sumB (l.take (i + 1)) = sumB (l.take i) + 2 ^ l[i].o := by
  induction l generalizing i with
  | nil => simp at hi
  | cons b l ih =>
    cases i with
    | zero => simp [sumB]
    | succ i =>
      have hi' : i < l.length := by simpa using hi
      rw [List.take_succ_cons, List.take_succ_cons, sumB, sumB, ih i hi']
      simp only [List.getElem_cons_succ]
      omega
theorem sumB_le (l : List Bk) (h : ∀ b ∈ l, b.o ≤ 4) : sumB l ≤ l.length * 16 := by
  induction l with
  | nil => simp [sumB]
  | cons b l ih =>
    have h1 := ih (fun b hb => h b (by simp [hb]))
    have h2 := pow_bk (h b (by simp))
    simp only [sumB, List.length_cons]
    omega

set_option maxHeartbeats 4000000 in
set_option maxRecDepth 100000 in
theorem pages_ok (a1 a2 : Option Addr) (n1 n2 c1 c2 : Nat) (z : Zn) (w : World) (hat : ZAt w a1 a2 n1 n2 z) (hz : z.ok) :
    Calls Tryz.prog 132 #[.agg #[.int .i64 z.f, .int .i64 z.e, .slice a1 n1 c1, .slice a2 n2 c2]] w fun ev w' => ev = .returned (.tuple #[.int .i64 (sumB z.l : Nat), .int .i64 0]) ∧ Below w.heap.size w w' := by
  have hlen : z.l.length ≤ 256 := Nat.le_trans (OkL.length_le hz.2 (fun b hb => (hz.2.fit b hb).1.2.2.1)) hz.1.e2
  obtain ⟨K1, F1, hsz, hbw⟩ := boxes1 w #[.int .i64 (z.f : Int), .int .i64 (z.e : Int), .slice a1 n1 c1, .slice a2 n2 c2] 110
  have hat0 := hat.below hbw
  have l1 := hat.l1
  clear hat
  go_enter Tryz.func132, Tryz.ntmps132
  go_wp2_with fail
  generalize w.alloc (.cells #[.int .i64 (z.f : Int), .int .i64 (z.e : Int), .slice a1 n1 c1, .slice a2 n2 c2] 110) = w0 at *
  refine (check_ok _ _ _ _ _ _ z _ hat0 hz).mono ?_
  rintro ev w1 ⟨rfl, hb1⟩
  have K1b := box_step K1 hsz hb1
  have hat1 := hat0.below hb1
  have hbw1 := Below.step hbw hb1
  have hs1 := Nat.lt_of_lt_of_le hsz hb1.size
  clear K1 F1 hat0 hbw hb1
  dsimp only
  go_wp2
  go_loopw [5, 16] (fun s5 s16 wr => ∃ i : Nat, i ≤ n1 ∧ s16 = .int .i64 (i : Int) ∧ s5 = .int .i64 (sumB (z.l.take i) : Nat) ∧ Hid (Below w1.heap.size w1 wr)) (fun _ s16 _ => n1 - (intOf s16).toNat)
  case atStart => exact ⟨0, Nat.zero_le _, rfl, rfl, Below.refl _ _⟩
  case round =>
    obtain ⟨i, hi, rfl, rfl, hb⟩ := hrel
    by_cases hlt : i < n1
    · have hlt2 : i < z.l.length := by omega
      obtain ⟨bb, off, ha1, hbb, hc⟩ := row_elem encBk_length (by decide) (hat1.r1.below hb.out) hlt2
      obtain rfl := ha1
      obtain ⟨hc0, hc1, hc2⟩ := encBk_cells hc
      have hfit := (hz.2.fit _ (List.getElem_mem hlt2)).1
      have hsum := Hid.mk (sumB_take z.l i hlt2)
      have hle := sumB_le (z.l.take i) (fun b hb => (hz.2.fit b (List.mem_of_mem_take hb)).1.1)
      rw [List.length_take] at hle
      have hle2 : sumB (z.l.take i) ≤ 5000 := by omega
      clear hc hle
      generalize z.l[i] = x at *
      have hsh := shl_bk hfit.1
      have hpw := pow_bk hfit.1
      have hNew := Hid.mk (Below.step hb.out (below_alloc wr (.cells #[.int .i64 (x.a : Int), .int .i64 (x.o : Int), .int .i64 (x.t : Int)] 95)))
      obtain ⟨S, hS⟩ : ∃ S, sumB (z.l.take i) = S := ⟨_, rfl⟩
      rw [hS] at hle2 hsum ⊢
      clear hS
      have hlti : (i : Int) < n1 := by omega
      have hw : wrap64 ((S : Int) + wrap64 (2 ^ min x.o 64)) = ((S + 2 ^ x.o : Nat) : Int) := by
        rw [show min x.o 64 = x.o by have := hfit.1; omega, hsh]
        generalize 2 ^ x.o = q at *
        have := IntWalk.wrap64_in ((S : Int) + q) (by omega)
        rw [Int.natCast_add]
        exact this
      go_wp2
      go_roundw
      case rel => exact ⟨i + 1, by omega, by go_num, by rw [hsum.out]; simp only [Value.int.injEq, true_and]; exact hw, hNew⟩
      case measure => simp [intOf]; omega
    · obtain rfl : i = n1 := by omega
      have he : z.l.take i = z.l := by rw [← l1, List.take_length]
      rw [he]
      go_wp2
      go_ret2
      exact ⟨rfl, Below.step hbw1 hb.out⟩
end Go.Proofs.YtkcaheebaicinaaGreatDoor
/- Contracts of package slab: Layout, the search of a slab's block; sets that are maps. -/
namespace Go.Proofs.YtkcaheebaicinaaGreatDoor
open Go.RowKit
set_option linter.unusedVariables false
set_option linter.unusedSimpArgs false

theorem layoutS_ok (k : Nat) (w : World) (h1 : 1 ≤ k) (h2 : k ≤ 64) :
    Calls Tryz.prog 30 #[.int .i64 k] w fun e w' => e = .returned (.tuple #[.int .i64 (layO k : Nat), .int .i64 (layN k : Nat), .int .i64 0]) ∧ w = w' := by
  have e16 : ((16 / k : Nat) : Int) = 16 / (k : Int) := by simp
  have e32 : ((32 / k : Nat) : Int) = 32 / (k : Int) := by simp
  have e64 : ((64 / k : Nat) : Int) = 64 / (k : Int) := by simp
  by_cases h3 : 4 ≤ 16 / k
  · have hO : layO k = 0 := by unfold layO; rw [if_pos h3]
    have hN : layN k = 16 / k := by unfold layN; rw [hO]
    rw [hO, hN, e16]
    exact layout_0 k w (by omega) (by omega) (by omega)
  · by_cases h4 : 4 ≤ 32 / k
    · have hO : layO k = 1 := by unfold layO; rw [if_neg h3, if_pos h4]
      have hN : layN k = 32 / k := by unfold layN; rw [hO]
      rw [hO, hN, e32]
      exact layout_1 k w (by omega) (by omega) (by omega) (by omega)
    · have hO : layO k = 2 := by unfold layO; rw [if_neg h3, if_neg h4]
      have hN : layN k = 64 / k := by unfold layN; rw [hO]
      rw [hO, hN, e64]
      exact layout_2 k w (by omega) (by omega) (by omega) (by omega)

theorem cmp_cache (b : Bk) (p : Nat) (w : World) (ha : b.a ≤ 1000) (hp : p ≤ 1000) :
    Calls Tryz.prog 75 #[.agg #[.int .i64 b.a, .int .i64 b.o, .int .i64 b.t], .int .i64 p] w fun e w' => e = .returned (.int .i64 ((b.a : Int) - p)) ∧ Below w.heap.size w w' := by
  go_enter Tryz.func75, Tryz.ntmps75
  go_wp2
  go_ret
  exact ⟨rfl, below_alloc _ _⟩

set_option maxRecDepth 100000 in
theorem search_cache (a : Option Addr) (n cap : Nat) (l : List Bk) (p : Nat) (w : World) (hn : l.length = n) (hl : n ≤ 1000) (hr : Row w a (flat encBk l)) (hrise : Rise l) (ha : ∀ b ∈ l, b.a ≤ 1000) (hp : p ≤ 1000) :
    Calls Tryz.prog 74 #[.slice a n cap, .int .i64 p, .func (.func 75) #[] #[]] w fun e w' => e = .returned (.tuple #[.int .i64 (lb l p : Int), .bool (hasB l p)]) ∧ Below w.heap.size w w' := by
  subst hn
  have hle := lb_le l p
  have eg : ∀ args w, (callFunc 75 args).run Tryz.prog w = .ok (.enter 75 args) w := enters_of Tryz.func75 (by kernel_rfl) rfl
  go_enter Tryz.func74, Tryz.ntmps74
  go_wp2
  go_loopw [9, 10, 11] (fun s9 s10 _ wr => ∃ i j : Nat, i ≤ lb l p ∧ lb l p ≤ j ∧ j ≤ l.length ∧ s9 = .int .i64 i ∧ s10 = .int .i64 j ∧ Below w.heap.size w wr) (fun s9 s10 _ _ => (intOf s10).toNat - (intOf s9).toNat)
  case atStart => exact ⟨0, l.length, Nat.zero_le _, hle, Nat.le_refl _, rfl, rfl, Below.refl _ _⟩
  case round =>
    obtain ⟨i, j, h1, h2, h3, rfl, rfl, hb3⟩ := hrel
    by_cases hlt : i < j
    · have hhl : (i + j) / 2 < l.length := by omega
      have hiff := Hid.mk (lb_iff hrise (a := p) hhl)
      obtain ⟨b, off, rfl, hb, hc⟩ := row_elem encBk_length (by decide) (hr.below hb3) hhl
      obtain ⟨hc0, hc1, hc2⟩ := encBk_cells hc
      have hal := ha _ (List.getElem_mem hhl)
      clear hr hc
      generalize l[(i + j) / 2] = y at *
      go_wp2_with fail
      refine (cmp_cache y p _ hal hp).mono ?_
      rintro e w1 ⟨rfl, hb1⟩
      have hb4 := Below.step hb3 hb1
      clear hc0 hc1 hc2
      by_cases hlt2 : y.a < p
      · have h4 := hiff.out.2 hlt2
        have h5 : (y.a : Int) - p < 0 := by omega
        go_wp2
        go_roundw
        case rel => exact ⟨(i + j) / 2 + 1, j, by omega, h2, h3, by go_num, rfl, hb4⟩
        case measure => simp [intOf]; omega
      · have h4 : ¬ (i + j) / 2 < lb l p := fun h => hlt2 (hiff.out.1 h)
        have h5 : ¬ (y.a : Int) - p < 0 := by omega
        go_wp2
        go_roundw
        case rel => exact ⟨i, (i + j) / 2, h1, by omega, by omega, rfl, by go_num, hb4⟩
        case measure => simp [intOf]; omega
    · obtain rfl : i = lb l p := by omega
      have hkk : (lb l p : Int) ≤ l.length := by omega
      by_cases hk : lb l p < l.length
      · obtain ⟨b, off, rfl, hb, hc⟩ := row_elem encBk_length (by decide) (hr.below hb3) hk
        obtain ⟨hc0, hc1, hc2⟩ := encBk_cells hc
        have hal := ha _ (List.getElem_mem hk)
        have hat := Hid.mk (hasB_at hrise (a := p) hk)
        have hk2 : (lb l p : Int) < l.length := by omega
        clear hr hc
        generalize l[lb l p] = y at *
        generalize hK0 : lb l p = K at *
        have HK := Hid.mk hK0
        clear hK0
        go_wp2_with fail
        refine (cmp_cache y p _ hal hp).mono ?_
        rintro e w1 ⟨rfl, hb1⟩
        have hb4 := Below.step hb3 hb1
        clear hc0 hc1 hc2
        by_cases hy : y.a = p
        · have h5 : ((y.a : Int) - p == 0) = true := by rw [beq_iff_eq]; omega
          go_wp2
          go_ret2
          refine ⟨?_, hb4⟩
          rw [hat.out, HK.out, decide_eq_true hy]; rfl
        · have h5 : ((y.a : Int) - p == 0) = false := by rw [beq_eq_false_iff_ne]; omega
          go_wp2
          go_ret2
          refine ⟨?_, hb4⟩
          rw [hat.out, HK.out, decide_eq_false hy]; rfl
      · have hat := Hid.mk (hasB_end hrise (a := p) (by omega))
        have hk2 : ¬ (lb l p : Int) < l.length := by omega
        clear hr
        generalize hK0 : lb l p = K at *
        have HK := Hid.mk hK0
        clear hK0
        go_wp2
        go_ret2
        refine ⟨?_, hb3⟩
        rw [hat.out, HK.out]; rfl

end Go.Proofs.YtkcaheebaicinaaGreatDoor
/- Sets of names and of pages in a call's own maps; names in their order. No program in sight but its types. -/
namespace Go.Proofs.YtkcaheebaicinaaGreatDoor
open Go.RowKit
set_option linter.unusedVariables false

/-! ## The order of names -/
theorem bl_irr : ∀ x : List UInt8, Go.Op.bytesLess x x = false
  | [] => rfl
  | a :: x => by
    rw [Go.Op.bytesLess, bl_irr x]
    simp
theorem bl_trans : ∀ {x y z : List UInt8}, Go.Op.bytesLess x y = true → Go.Op.bytesLess y z = true → Go.Op.bytesLess x z = true
  | [], [], _, h, _ => by simp [Go.Op.bytesLess] at h
  | [], _ :: _, [], _, h => by simp [Go.Op.bytesLess] at h
  | [], _ :: _, _ :: _, _, _ => rfl
  | _ :: _, [], _, h, _ => by simp [Go.Op.bytesLess] at h
  | _ :: _, _ :: _, [], _, h => by simp [Go.Op.bytesLess] at h
  | a :: x, b :: y, c :: z, h, k => by
    simp only [Go.Op.bytesLess, Bool.or_eq_true, Bool.and_eq_true, decide_eq_true_eq, beq_iff_eq, UInt8.lt_iff_toNat_lt] at h k ⊢
    rcases h with h | ⟨rfl, h⟩
    · rcases k with k | ⟨rfl, k⟩
      · exact .inl (by omega)
      · exact .inl h
    · rcases k with k | ⟨rfl, k⟩
      · exact .inl k
      · exact .inr ⟨rfl, bl_trans h k⟩
theorem bl_list {x y : List UInt8} {b : Bool} (h : Go.Op.bytesLess x y = b) : Go.Op.bytesLess (ByteArray.mk x.toArray).toList (ByteArray.mk y.toArray).toList = b := by
  rw [Go.Lib.toList_data, Go.Lib.toList_data]
  exact h
theorem run_geq_s {x y : List UInt8} (w : World) {b : Bool} (h : Go.Op.bytesLess x y = b) : (binOp .geq 9 (.string ⟨x.toArray⟩) (.string ⟨y.toArray⟩)).run Tryz.prog w = .ok (.bool (!b)) w := by
  simp [binOp, Go.Op.stringOp]
  exact h

/-! ## Sets -/
theorem info_boolM : (Tryz.prog.info? 4).map (fun i => (i.zero, i.size, i.bytes)) = some (some (.bool false), 1, 1) := by kernel_rfl
theorem zero_boolM (w : World) : (zeroValue 4).run Tryz.prog w = .ok (.bool false) w := by
  obtain ⟨i, hi, hz, hs, hb⟩ := info_parts info_boolM
  simp [zeroValue, typeInfo, hi, hz]
theorem below_row {w w' : World} {B n : Nat} (hg : w.grownBy w' (some B)) (h1 : n ≤ B) (h2 : n ≤ w.heap.size) : Below n w w' :=
  ⟨hg.os, hg.tape, hg.output, hg.size, fun k hk => hg.block k (by omega) (by simp; omega)⟩
theorem box_row {w w' : World} {B b : Nat} {vs : Array Value} (hk : ∀ o, w.cell? ⟨b, o, none⟩ = vs[o]?) (hg : w.grownBy w' (some B)) (hb : b < w.heap.size) (hne : b ≠ B) (o : Nat) : w'.cell? ⟨b, o, none⟩ = vs[o]? :=
  (World.cell?_of_block (w := w) (a := ⟨b, o, none⟩) (hg.block b hb (by simp; exact hne))).trans (hk o)
section
variable {w : World} {B n : Nat} {S : Lit → Prop}
theorem key_s (l : List UInt8) (hl : l.length ≤ 1000) : keyOf Tryz.prog 9 (sV l) = some (.string l) := by
  have h := Go.WideMaps.keyOf_string_mk Tryz.underlying9 (s := ByteArray.mk l.toArray) (by unfold maxLen; show l.toArray.size ≤ _; simp; omega)
  simpa [sV] using h
theorem key_i (p : Nat) (hp : p ≤ 1000) : keyOf Tryz.prog 3 (.int .i64 (p : Int)) = some (.int .i64 (p : Int)) :=
  Go.Maps.keyOf_int_mk Tryz.underlying3 (by
    show (decide (IntKind.i64.min ≤ (p : Int)) && decide ((p : Int) ≤ IntKind.i64.max)) = true
    rw [show IntKind.i64.min = -9223372036854775808 from rfl, show IntKind.i64.max = 9223372036854775807 from rfl]
    simp
    omega)
theorem setS_out (h : SetAt w Tryz.prog 9 4 B n S) (l : List UInt8) (hl : l.length ≤ 1000) (hno : ¬ S (.string l)) : (Instr.lookup 82 (.map (some B)) (sV l) false).run Tryz.prog w = .ok (.bool false) w :=
  h.out (Go.Maps.string_keyed Tryz.underlying9) Tryz.underlying82 Tryz.underlying4 (zero_boolM w) (key_s l hl) trivial hno
theorem setS_put (h : SetAt w Tryz.prog 9 4 B n S) (hn : n ≤ 1000000) (l : List UInt8) (hl : l.length ≤ 1000) : ∃ w', (Instr.mapUpdate 82 (.map (some B)) (sV l) (.bool true)).run Tryz.prog w = .ok () w' ∧ SetAt w' Tryz.prog 9 4 B (n + 1) (fun x => x = .string l ∨ S x) ∧ w.grownBy w' (some B) :=
  h.put (Go.Maps.string_keyed Tryz.underlying9) Tryz.underlying82 Tryz.underlying4 (by unfold maxLen; omega) (key_s l hl) trivial
theorem setI_out (h : SetAt w Tryz.prog 3 4 B n S) (p : Nat) (hp : p ≤ 1000) (hno : ¬ S (.int .i64 (p : Int))) : (Instr.lookup 83 (.map (some B)) (.int .i64 (p : Int)) false).run Tryz.prog w = .ok (.bool false) w :=
  h.out (Go.Maps.int_keyed Tryz.underlying3) Tryz.underlying83 Tryz.underlying4 (zero_boolM w) (key_i p hp) trivial hno
theorem setI_put (h : SetAt w Tryz.prog 3 4 B n S) (hn : n ≤ 1000000) (p : Nat) (hp : p ≤ 1000) : ∃ w', (Instr.mapUpdate 83 (.map (some B)) (.int .i64 (p : Int)) (.bool true)).run Tryz.prog w = .ok () w' ∧ SetAt w' Tryz.prog 3 4 B (n + 1) (fun x => x = .int .i64 (p : Int) ∨ S x) ∧ w.grownBy w' (some B) :=
  h.put (Go.Maps.int_keyed Tryz.underlying3) Tryz.underlying83 Tryz.underlying4 (by unfold maxLen; omega) (key_i p hp) trivial
end
end Go.Proofs.YtkcaheebaicinaaGreatDoor
/- Systems in plain words: a cache more, a name more: what may be stays so. A new system. No program in sight. -/
namespace Go.Proofs.YtkcaheebaicinaaGreatDoor
set_option linter.unusedVariables false

theorem bl_total : ∀ {x y : List UInt8}, x ≠ y → Go.Op.bytesLess x y = false → Go.Op.bytesLess y x = true
  | [], [], h, _ => absurd rfl h
  | [], _ :: _, _, h => by simp [Go.Op.bytesLess] at h
  | _ :: _, [], _, _ => rfl
  | a :: x, b :: y, hne, h => by
    simp only [Go.Op.bytesLess, Bool.or_eq_false_iff, Bool.and_eq_false_iff, decide_eq_false_iff_not, beq_eq_false_iff_ne] at h
    simp only [Go.Op.bytesLess, Bool.or_eq_true, Bool.and_eq_true, decide_eq_true_eq, beq_iff_eq]
    by_cases hab : a = b
    · subst hab
      refine .inr ⟨rfl, bl_total (fun e => hne (by rw [e])) ?_⟩
      rcases h.2 with h2 | h2
      · exact absurd rfl h2
      · exact h2
    · left
      have h1 := h.1
      rw [UInt8.lt_iff_toNat_lt] at h1 ⊢
      have h3 : a.toNat ≠ b.toNat := fun e => hab (UInt8.toNat_inj.1 e)
      omega
theorem tw_take {α : Type} (q : α → Bool) (l : List α) : l.take (l.takeWhile q).length = l.takeWhile q ∧ l.drop (l.takeWhile q).length = l.dropWhile q := by
  have h : l.takeWhile q ++ l.dropWhile q = l := List.takeWhile_append_dropWhile
  constructor
  · conv => lhs; arg 2; rw [← h]
    exact List.take_left' rfl
  · conv => lhs; arg 2; rw [← h]
    exact List.drop_left' rfl
theorem mem_twA {α : Type} {q : α → Bool} {y : α} : ∀ {l : List α}, y ∈ l.takeWhile q → q y = true
  | [], h => by simp at h
  | b :: l, h => by
    by_cases hb : q b = true
    · rw [List.takeWhile_cons_of_pos hb] at h
      rcases List.mem_cons.1 h with rfl | h
      · exact hb
      · exact mem_twA h
    · rw [List.takeWhile_cons_of_neg hb] at h
      simp at h
theorem dw_ge {n : List UInt8} : ∀ {l : List (List UInt8)}, (l.Pairwise fun x y => Go.Op.bytesLess x y = true) → n ∉ l → ∀ y ∈ l.dropWhile (fun x => Go.Op.bytesLess x n), Go.Op.bytesLess n y = true
  | [], _, _, y, hy => by simp at hy
  | b :: l, hl, hn, y, hy => by
    rw [List.pairwise_cons] at hl
    cases hb : Go.Op.bytesLess b n with
    | true =>
      rw [List.dropWhile_cons_of_pos (p := fun x => Go.Op.bytesLess x n) hb] at hy
      exact dw_ge hl.2 (fun h => hn (List.mem_cons_of_mem _ h)) y hy
    | false =>
      rw [List.dropWhile_cons_of_neg (p := fun x => Go.Op.bytesLess x n) (by simp [hb])] at hy
      have h1 := bl_total (x := b) (y := n) (fun e => hn (by rw [← e]; exact List.mem_cons_self)) hb
      rcases List.mem_cons.1 hy with rfl | hy
      · exact h1
      · exact bl_trans h1 (hl.1 y hy)
/-- a name in its place -/
def insN (l : List (List UInt8)) (n : List UInt8) : List (List UInt8) := l.take (lbN l n) ++ n :: l.drop (lbN l n)
theorem insN_pair {l : List (List UInt8)} {n : List UInt8} (hl : l.Pairwise fun x y => Go.Op.bytesLess x y = true) (hn : n ∉ l) : (insN l n).Pairwise fun x y => Go.Op.bytesLess x y = true := by
  have h : l.takeWhile (fun x => Go.Op.bytesLess x n) ++ l.dropWhile (fun x => Go.Op.bytesLess x n) = l := List.takeWhile_append_dropWhile
  have h3 := hl
  rw [← h, List.pairwise_append] at h3
  unfold insN lbN
  rw [(tw_take _ l).1, (tw_take _ l).2, List.pairwise_append, List.pairwise_cons]
  refine ⟨h3.1, ⟨fun y hy => dw_ge hl hn y hy, h3.2.1⟩, fun a ha b hb => ?_⟩
  rcases List.mem_cons.1 hb with rfl | hb
  · exact mem_twA (q := fun x => Go.Op.bytesLess x b) ha
  · exact h3.2.2 a ha b hb
theorem mem_insN {l : List (List UInt8)} {n y : List UInt8} : y ∈ insN l n ↔ y = n ∨ y ∈ l := by
  unfold insN
  conv => rhs; rw [← List.take_append_drop (lbN l n) l]
  simp only [List.mem_append, List.mem_cons]
  constructor
  · rintro (h | h | h)
    · exact .inr (.inl h)
    · exact .inl h
    · exact .inr (.inr h)
  · rintro (h | h | h)
    · exact .inr (.inl h)
    · exact .inl h
    · exact .inr (.inr h)
theorem pw_set {α : Type} {R : α → α → Prop} {l : List α} (h : l.Pairwise R) {i : Nat} {c : α} (h2 : ∀ j (hj : j < l.length), j < i → R l[j] c) (h3 : ∀ j (hj : j < l.length), i < j → R c l[j]) : (l.set i c).Pairwise R := by
  rw [List.pairwise_iff_getElem] at h ⊢
  intro j k hj hk hjk
  rw [List.length_set] at hj hk
  rw [List.getElem_set, List.getElem_set]
  split
  · rename_i e
    subst e
    rw [if_neg (by omega)]
    exact h3 k hk hjk
  · split
    · rename_i e
      subst e
      exact h2 j hj hjk
    · exact h j k hj hk hjk
/-- a cache more, or a name more -/
theorem SOk.create {s s' : Sy} (hk : SOk s) {n : List UInt8} {z : Nat} (hnm : nameB n = true) (hz : 1 ≤ z ∧ z ≤ 64) (hno : s.named n = none) (h : s.create n z = some s') : SOk s' ∧ s'.h = s.h ∧ s'.w = s.w := by
  have hall : ∀ c ∈ s.cs, n ∉ c.ns := fun c hc hn => by
    unfold Sy.named at hno
    rw [List.findIdx?_eq_none_iff] at hno
    have h1 := hno c hc
    rw [List.contains_iff_mem.2 hn] at h1
    cases h1
  unfold Sy.create at h
  split at h
  · rename_i i hfd
    rw [List.findIdx?_eq_some_iff_getElem] at hfd
    obtain ⟨hi, hzi, _⟩ := hfd
    rw [List.getElem?_eq_getElem hi] at h
    simp only at h
    obtain rfl := Option.some.inj h
    have hcm := List.getElem_mem hi
    have hck := hk.ck _ hcm
    have hmv : ∀ d ∈ s.cs, CaOk (s.setC i { s.cs[i] with ns := insN s.cs[i].ns n }) d := fun d hd => (hk.ck d hd).move rfl fun x hx => ⟨((hk.ck d hd).sk x hx).live, ((hk.ck d hd).sk x hx).chain⟩
    have hne := hall _ hcm
    refine ⟨⟨hk.wl, hk.hk, by show (s.cs.set i _).length ≤ 20; rw [List.length_set]; exact hk.cl, fun d hd => ?_, pw_set hk.zd (fun j hj hji => ?_) (fun j hj hij => ?_), pw_set hk.nd (fun j hj hji m hm hm2 => ?_) (fun j hj hij m hm => ?_), pw_set hk.pd (fun j hj hji => ?_) (fun j hj hij => ?_)⟩, rfl, rfl⟩
    · rcases List.mem_or_eq_of_mem_set hd with h1 | rfl
      · exact hmv d h1
      · refine ⟨hck.z, hck.o, hck.r, fun e => ?_, fun m hm => ?_, insN_pair hck.nr hne, hck.ac, hck.sr, fun x hx => ⟨(hck.sk x hx).live, (hck.sk x hx).chain⟩, hck.aw, hck.ad⟩
        · have h2 := (mem_insN (l := s.cs[i].ns) (n := n) (y := n)).2 (.inl rfl)
          rw [show insN s.cs[i].ns n = [] from e] at h2
          simp at h2
        · rcases mem_insN.1 hm with rfl | hm
          · exact hnm
          · exact hck.nm m hm
    · exact List.pairwise_iff_getElem.1 hk.zd j i hj hi hji
    · exact List.pairwise_iff_getElem.1 hk.zd i j hi hj hij
    · rcases mem_insN.1 hm2 with rfl | hm2
      · exact hall _ (List.getElem_mem hj) hm
      · exact List.pairwise_iff_getElem.1 hk.nd j i hj hi hji m hm hm2
    · rcases mem_insN.1 hm with rfl | hm
      · exact hall _ (List.getElem_mem hj)
      · exact List.pairwise_iff_getElem.1 hk.nd i j hi hj hij m hm
    · exact List.pairwise_iff_getElem.1 hk.pd j i hj hi hji
    · exact List.pairwise_iff_getElem.1 hk.pd i j hi hj hij
  · rename_i hfd
    split at h
    · cases h
    · rename_i hl
      obtain rfl := Option.some.inj h
      rw [List.findIdx?_eq_none_iff] at hfd
      have hcl := hk.cl
      refine ⟨⟨hk.wl, hk.hk, by simp; omega, fun d hd => ?_, ?_, ?_, ?_⟩, rfl, rfl⟩
      · rcases List.mem_append.1 hd with h1 | h1
        · exact (hk.ck d h1).move rfl fun x hx => ⟨((hk.ck d h1).sk x hx).live, ((hk.ck d h1).sk x hx).chain⟩
        · obtain rfl := List.mem_singleton.1 h1
          refine ⟨hz, rfl, rfl, by simp, fun m hm => ?_, by simp, by simp, List.Pairwise.nil, fun x hx => by simp at hx, fun a ha => .inl (List.eq_of_mem_replicate ha), ?_⟩
          · obtain rfl := List.mem_singleton.1 hm
            exact hnm
          · rw [List.pairwise_iff_getElem]
            intro j k hj hk' _ _
            simp
      · show (s.cs ++ [_]).Pairwise _
        rw [List.pairwise_append]
        refine ⟨hk.zd, by simp, fun a ha b hb => ?_⟩
        obtain rfl := List.mem_singleton.1 hb
        have := hfd a ha
        simpa using this
      · show (s.cs ++ [_]).Pairwise _
        rw [List.pairwise_append]
        refine ⟨hk.nd, by simp, fun a ha b hb m hm hm2 => ?_⟩
        obtain rfl := List.mem_singleton.1 hb
        obtain rfl := List.mem_singleton.1 hm2
        exact hall a ha hm
      · show (s.cs ++ [_]).Pairwise _
        rw [List.pairwise_append]
        refine ⟨hk.pd, by simp, fun a ha b hb x hx y hy => ?_⟩
        obtain rfl := List.mem_singleton.1 hb
        simp at hy

/-! ## A new system -/
def kN (k : Nat) : List UInt8 := match k with
  | 1 => [107, 49]
  | 2 => [107, 50]
  | 4 => [107, 52]
  | 8 => [107, 56]
  | 16 => [107, 49, 54]
  | _ => [107, 51, 50]
def newCa (cpus k : Nat) : Ca := ⟨[kN k], k, layN k, layO k, [], List.replicate cpus (-1)⟩
/-- after so many caches -/
def newSy (h : Hp) (j : Nat) : Sy := ⟨List.replicate 4096 0, h, ([1, 2, 4, 8, 16, 32].take j).map (newCa h.cpus)⟩
theorem newSy_ok {h : Hp} (hk : HOk h) : SOk (newSy h 0) := by
  have e : (newSy h 0).cs = [] := rfl
  refine ⟨List.length_replicate, hk, ?_, fun c hc => ?_, ?_, ?_, ?_⟩
  · rw [e]; exact Nat.zero_le _
  · rw [e] at hc; cases hc
  · rw [e]; exact List.Pairwise.nil
  · rw [e]; exact List.Pairwise.nil
  · rw [e]; exact List.Pairwise.nil
theorem newSy_step (h : Hp) {j : Nat} (hj : j < 6) : (newSy h j).named (kN ([1, 2, 4, 8, 16, 32].getD j 0)) = none ∧ (newSy h j).create (kN ([1, 2, 4, 8, 16, 32].getD j 0)) ([1, 2, 4, 8, 16, 32].getD j 0) = some (newSy h (j + 1)) ∧ nameB (kN ([1, 2, 4, 8, 16, 32].getD j 0)) = true := by
  obtain rfl | rfl | rfl | rfl | rfl | rfl : j = 0 ∨ j = 1 ∨ j = 2 ∨ j = 3 ∨ j = 4 ∨ j = 5 := by omega
  all_goals exact ⟨rfl, rfl, by decide⟩
end Go.Proofs.YtkcaheebaicinaaGreatDoor
