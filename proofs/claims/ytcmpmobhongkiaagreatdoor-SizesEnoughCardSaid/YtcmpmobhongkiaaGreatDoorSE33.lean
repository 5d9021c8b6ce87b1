/- texts of this claim, joined. -/
import Derived.Test.YtcmpmobhongkiaaGreatDoorSE0
import Derived.Test.YtcmpmobhongkiaaGreatDoorSE12
import Derived.Test.YtcmpmobhongkiaaGreatDoorSE16
import Derived.Test.YtcmpmobhongkiaaGreatDoorSE19
import Derived.Test.YtcmpmobhongkiaaGreatDoorSE22
import Derived.Test.YtcmpmobhongkiaaGreatDoorSE23
import Derived.Test.YtcmpmobhongkiaaGreatDoorSE24
import Derived.Test.YtcmpmobhongkiaaGreatDoorSE31
import Derived.Test.YtcmpmobhongkiaaGreatDoorSE32
set_option linter.unusedVariables false
set_option linter.unusedSimpArgs false
namespace Go.Proofs.YtcmpmobhongkiaaGreatDoor
section
theorem nT {α β : Type} {f : α → β} {l : List α} {i : Nat} {c c' : α} (h : l[i]? = some c) (he : f c' = f c) : (l.set i c').map f = l.map f := by
 obtain ⟨hi, hc⟩ := List.getElem?_eq_some_iff.1 h
 apply List.ext_getElem (by simp)
 intro j h1 h2
 simp only [List.getElem_map, List.getElem_set]
 split
 ·rename_i e
  subst e
  rw [he, hc]
 ·rfl
def Sy.sig (s : Sy) : List (List (List UInt8) × Nat) := s.cs.map fun c => (c.ns, c.z)
theorem Em (s : Sy) (i cpu k : Nat) : (s.mine i cpu k).sig = s.sig := by
 unfold Sy.mine Sy.sig
 cases hc : s.cs[i]? with
 | none => rfl
 | some c =>
  simp only
  cases hx : c.sl[k]? with
  | none => rfl
  | some x => exact nT hc rfl
theorem QW {s t : Sy} {i k : Nat} {a : Int} (h : s.pop i k = some (t, a)) : t.sig = s.sig := by
 unfold Sy.pop at h
 cases hc : s.cs[i]? with
 | none => rw [hc] at h; cases h
 | some c =>
  rw [hc] at h
  simp only at h
  cases hx : c.sl[k]? with
  | none => rw [hx] at h; cases h
  | some x =>
   rw [hx] at h
   have h1 := gP h
   rw [Prod.mk.injEq] at h1
   rw [← h1.1]
   exact nT hc rfl
theorem Oj {s t : Sy} {i cpu k : Nat} {c : Ca} (hc : s.cs[i]? = some c) (h : s.grow i cpu c = some (t, k)) : t.sig = s.sig := by
 unfold Sy.grow at h
 split at h
 ·have h1 := gP h
  rw [Prod.mk.injEq] at h1
  rw [← h1.1]
  exact nT hc rfl
 ·cases h
theorem GI {s t : Sy} {i cpu k : Nat} (h : s.choose i cpu = some (t, k)) : t.sig = s.sig := by
 unfold Sy.choose at h
 cases hc : s.cs[i]? with
 | none => rw [hc] at h; cases h
 | some c =>
  rw [hc] at h
  simp only at h
  split at h
  ·have h1 := gP h
   rw [Prod.mk.injEq] at h1
   rw [← h1.1]
  ·split at h
   ·have h1 := gP h
    rw [Prod.mk.injEq] at h1
    rw [← h1.1]
    exact Em _ _ _ _
   ·split at h
    ·rename_i heq
     have h1 := gP h
     rw [Prod.mk.injEq] at h1
     rw [← h1.1, Em]
     exact Oj hc heq
    ·cases h
theorem Jg {s t : Sy} {i cpu : Nat} {a : Int} (h : s.one i cpu = some (t, a)) : t.sig = s.sig := by
 unfold Sy.one at h
 cases hc : s.choose i cpu with
 | none => rw [hc] at h; cases h
 | some r =>
  obtain ⟨u, k⟩ := r
  rw [hc] at h
  exact (QW h).trans (GI hc)
def Sy.nss (s : Sy) : List (List (List UInt8)) := s.cs.map (·.ns)
theorem GK {s t : Sy} (h : t.sig = s.sig) : t.nss = s.nss := by
 have h1 := congrArg (List.map Prod.fst) h
 unfold Sy.sig at h1
 simp only [List.map_map] at h1
 exact h1
theorem QX {s t : Sy} {i cpu : Nat} {a : Int} (h : s.one i cpu = some (t, a)) : t.nss = s.nss := GK (Jg h)
theorem CG {s t : Sy} (h : t.nss = s.nss) {N : Nat} (hs : ∀ c ∈ s.cs, c.ns.length ≤ N) : ∀ c ∈ t.cs, c.ns.length ≤ N := fun c hc => by
 have h1 : c.ns ∈ t.nss := List.mem_map_of_mem hc
 rw [h] at h1
 obtain ⟨d, hd, e⟩ := List.mem_map.1 h1
 rw [← e]
 exact hs d hd
end
section
open Go.RowKit

def OG (v : Sc) (s : Sy) : Rs := ⟨3, 1, .slice v.a1 v.n1 v.c1, v.n1, s.w.map vI⟩
def kH (v : Sc) : Rs := ⟨94, 6, .slice v.a2 v.ys.length v.c2, v.ys.length, flat dP v.ys⟩
def nI (y : Cc) : Rs := ⟨9, 1, .slice y.a1 y.n1 y.c1, y.n1, flat encS y.c.ns⟩
def kY (y : Cc) : Rs := ⟨137, 3, .slice y.a2 y.n2 y.c2, y.n2, flat aW y.c.sl⟩
def nK (y : Cc) : Rs := ⟨3, 1, .slice y.a3 y.n3 y.c3, y.n3, y.c.ac.map vI⟩
def fB (y : Cc) : List Rs := [nI y, kY y, nK y]
def Sc.rows (v : Sc) (s : Sy) : List Rs := OG v s :: kH v :: v.ys.flatMap fB
def Sc.front (v : Sc) (s : Sy) (y : Cc) (ys : List Cc) : List Rs := OG v s :: kH v :: nI y :: kY y :: nK y :: ys.flatMap fB

theorem wP {α : Type} : ∀ {l : List α} {i : Nat} (hi : i < l.length), l.Perm (l[i] :: l.eraseIdx i)
  | a :: l, 0, _ => List.Perm.refl _
  | a :: l, i + 1, hi => by
    simp only [List.getElem_cons_succ, List.eraseIdx_cons_succ]
    exact ((wP (l := l) (i := i) (by simpa using hi)).cons a).trans (.swap _ _ _)
theorem vK (v : Sc) (s : Sy) {i : Nat} (hi : i < v.ys.length) : (v.rows s).Perm (v.front s v.ys[i] (v.ys.eraseIdx i)) :=
  ((List.Perm.flatMap_right fB (wP hi)).cons _).cons _

structure SR (W : World) (G : Nat) (X : Nat → Prop) (s : Sy) (v : Sc) : Prop where
  own : dA W 0 (v.rows s)
  og : ∀ r ∈ v.rows s, ∀ g, r.v.ownBlock = some g → g ≠ G ∧ ¬ X g
  hr : HR W G X s.h v.hc
  hd : ∀ r ∈ v.rows s, ∀ q ∈ v.hc.rows s.h ++ v.hc.reads s.h, r.off q
  cy : v.ys.map (·.c) = s.cs
structure SS (W : World) (G : Nat) (X : Nat → Prop) (s : Sy) (v : Sc) : Prop where
  r : SR W G X s v
  k : ∀ o, W.cell? ⟨G, o, none⟩ = (v.vals s)[o]?
  fz : ∀ o, W.frozen? ⟨G, o, none⟩ = false
def kS (W : World) (B : Nat) (s : Sy) (v : Sc) : Prop := SR W B (fun k => k < B) s v

theorem yM {w w' : World} {base : Nat} {e : TypeId} {size : Nat} {v : Value} {n : Nat} {xs : List Value} (h : w.ownsRow base e size v n xs) (hb : ∀ k, v.ownBlock = some k → k < w.heap.size → w'.heap[k]? = w.heap[k]?) : w'.ownsRow base e size v n xs := by
  refine ⟨h.1, ?_⟩
  rcases h.2 with h' | ⟨g, cap, cur, h1, h2, hgg, rest⟩
  · exact .inl h'
  · refine .inr ⟨g, cap, cur, h1, h2, ?_, rest⟩
    rw [hb g (by rw [h1]; rfl) (Array.getElem?_eq_some_iff.1 hgg).1]
    exact hgg
section
variable {W W' : World} {G : Nat} {X Y : Nat → Prop} {h : Hp} {c : Hc}
theorem HR.kept (hs : HR W G X h c) (sf : Safe Y W W') (hy : ∀ q ∈ c.rows h ++ c.reads h, ∀ k, q.v.ownBlock = some k → Y k) : HR W' G X h c :=
  ⟨⟨fun r hr => yM (hs.own.each r hr) fun k hk hlt => sf.block k hlt (hy r (List.mem_append_left _ hr) k hk), hs.own.Bl⟩,
   fun r hr => yM (hs.ro r hr) fun k hk hlt => sf.block k hlt (hy r (List.mem_append_right _ hr) k hk), hs.ds, hs.og, hs.rg, hs.rx, gI hs.gs sf.size, hs.xg, fun k hk => gI (hs.xs k hk) sf.size, hs.e0, hs.e1, hs.ll⟩
theorem HR.lift {B : Nat} (hs : HR W B (fun k => k < B) h c) (hG : G < B) (hX : ∀ k, X k → k < B) (hxg : ¬ X G) : HR W G X h c :=
  ⟨hs.own, hs.ro, hs.ds, fun r hr g hg => by have := (hs.og r hr g hg).2; exact ⟨by omega, fun e => this (hX g e)⟩, fun r hr e => hs.rx r hr G e hG, fun r hr g hg e => hs.rx r hr g hg (hX g e), Nat.lt_trans hG hs.gs, hxg, fun k hk => Nat.lt_trans (hX k hk) hs.gs, hs.e0, hs.e1, hs.ll⟩
theorem HR.any {G' : Nat} {X' : Nat → Prop} (hs : HR W G' X' h c) (hG : G < W.heap.size) (hq : ∀ q ∈ c.rows h ++ c.reads h, ∀ k, q.v.ownBlock = some k → k ≠ G ∧ ¬ X k) (hX : ∀ k, X k → k < W.heap.size) (hxg : ¬ X G) : HR W G X h c :=
  ⟨hs.own, hs.ro, hs.ds, fun r hr g hg => hq r (List.mem_append_left _ hr) g hg, fun r hr e => (hq r (List.mem_append_right _ hr) G e).1 rfl, fun r hr g hg => (hq r (List.mem_append_right _ hr) g hg).2, hG, hxg, hX, hs.e0, hs.e1, hs.ll⟩
theorem HR.lt (hs : HR W G X h c) : ∀ q ∈ c.rows h ++ c.reads h, ∀ k, q.v.ownBlock = some k → k < W.heap.size := fun q hq k hk => by
  rcases List.mem_append.1 hq with hq | hq
  · exact ((hs.own.each q hq).lt k hk).2
  · exact ((hs.ro q hq).lt k hk).2
theorem HR.gne (hs : HR W G X h c) : ∀ q ∈ c.rows h ++ c.reads h, q.v.ownBlock ≠ some G := fun q hq e => by
  rcases List.mem_append.1 hq with hq | hq
  · exact (hs.og q hq G e).1 rfl
  · exact hs.rg q hq e
end

section
variable {W W' W1 : World} {G : Nat} {X Y : Nat → Prop} {s s' : Sy} {v v' : Sc}
theorem SR.lt (hs : SR W G X s v) : ∀ r ∈ v.rows s, ∀ g, r.v.ownBlock = some g → g < W.heap.size := fun r hr g hg => (hs.own.lt r hr g hg).2
theorem SR.below (hs : SR W G X s v) (hb : Below W.heap.size W W') : SR W' G X s v :=
  ⟨hs.own.below hb, hs.og, hs.hr.below hb, hs.hd, hs.cy⟩
theorem SS.below (hs : SS W G X s v) (hb : Below W.heap.size W W') : SS W' G X s v :=
  ⟨hs.r.below hb, aB hs.k hs.r.hr.gs hb, aJ hs.fz hs.r.hr.gs hb⟩
def Sc.blk (v : Sc) (s : Sy) (G k : Nat) : Prop := k = G ∨ ∃ r ∈ v.rows s, r.v.ownBlock = some k
theorem SR.Rj (hs : SR W G X s v) {k : Nat} (hk : X k) : ¬ v.blk s G k := by
  rintro (rfl | ⟨r, hr, e⟩)
  · exact hs.hr.xg hk
  · exact (hs.og r hr k e).2 hk
def Sc.fr (v : Sc) (s : Sy) (G : Nat) (X : Nat → Prop) (g : Nat) : Prop := g ≠ G ∧ ¬ X g ∧ ∀ q ∈ v.hc.rows s.h ++ v.hc.reads s.h, q.v.ownBlock ≠ some g
theorem SR.fresh (hs : SR W G X s v) {g : Nat} (hg : W.heap.size ≤ g) : v.fr s G X g :=
  ⟨fun e => by have := hs.hr.gs; omega, fun e => by have := hs.hr.xs g e; omega, fun q hq e => by have := hs.hr.lt q hq g e; omega⟩
theorem SR.step (hs : SR W G X s v) (sf : Safe (fun k => ¬ v.blk s G k) W W') (hh : s'.h = s.h) (hc : v'.hc = v.hc) (own : dA W' 0 (v'.rows s')) (hb : ∀ r ∈ v'.rows s', ∀ g, r.v.ownBlock = some g → (∃ q ∈ v.rows s, q.v.ownBlock = some g) ∨ v.fr s G X g) (cy : v'.ys.map (·.c) = s'.cs) : SR W' G X s' v' := by
  refine ⟨own, fun r hr g hg => ?_, ?_, fun r hr q hq g h1 h2 => ?_, cy⟩
  · rcases hb r hr g hg with ⟨q, hq, e⟩ | h
    · exact hs.og q hq g e
    · exact ⟨h.1, h.2.1⟩
  · rw [hh, hc]
    refine hs.hr.kept sf fun q hq k hk => ?_
    rintro (rfl | ⟨r, hr, e⟩)
    · exact hs.hr.gne q hq hk
    · exact hs.hd r hr q hq k e hk
  · rw [hh, hc] at hq
    rcases hb r hr g h1 with ⟨q', hq', e⟩ | h
    · exact hs.hd q' hq' q hq g e h2
    · exact h.2.2 q hq h2
theorem SR.heap (hs : SR W G X s v) (hb : Below W.heap.size W W1) {h : Hp} {c : Hc} (hn : kX W1 W.heap.size h c) : SR W1 G X { s with h := h } { v with hc := c } := by
  have hrow : ({ v with hc := c } : Sc).rows { s with h := h } = v.rows s := rfl
  refine ⟨hrow ▸ hs.own.below hb, fun r hr => hs.og r (hrow ▸ hr), HR.lift hn hs.hr.gs hs.hr.xs hs.hr.xg, fun r hr q hq g h1 h2 => ?_, hs.cy⟩
  have h3 := hs.lt r (hrow ▸ hr) g h1
  rcases List.mem_append.1 hq with hq | hq
  · exact (hn.og q hq g h2).2 h3
  · exact hn.rx q hq g h2 h3
theorem SR.words (hs : SR W G X s v) (hb : Below W.heap.size W W1) {xs : List Int} {a : Option Addr} {n c : Nat} (ho : W1.ownsRow W.heap.size 3 1 (.slice a n c) n (xs.map vI)) : SR W1 G X { s with w := xs } { v with a1 := a, n1 := n, c1 := c } := by
  have h1 := hs.own.below hb
  have h2 : dA W1 0 ((⟨3, 1, .slice a n c, n, xs.map vI⟩ : Rs) :: kH v :: v.ys.flatMap fB) :=
    dA.cons (h1.sub (List.sublist_cons_self _ _)) (r' := ⟨3, 1, .slice a n c, n, xs.map vI⟩) ho (Nat.zero_le _) fun r hr g hg => hs.lt r (List.mem_cons_of_mem _ hr) g hg
  refine hs.step (Safe.iF hb) rfl rfl h2 (fun r hr g hg => ?_) hs.cy
  rcases List.mem_cons.1 hr with rfl | hr
  · exact .inr (hs.fresh (ho.lt g hg).1)
  · exact .inl ⟨r, List.mem_cons_of_mem _ hr, hg⟩
theorem SR.more (hs : SR W G X s v) (hy : ∀ k, Y k → k < W.heap.size ∧ ¬ v.blk s G k ∧ ∀ q ∈ v.hc.rows s.h ++ v.hc.reads s.h, q.v.ownBlock ≠ some k) : SR W G Y s v :=
  ⟨hs.own, fun r hr g hg => ⟨(hs.og r hr g hg).1, fun e => (hy g e).2.1 (.inr ⟨r, hr, hg⟩)⟩, hs.hr.more fun k hk => ⟨(hy k hk).1, fun e => (hy k hk).2.1 (.inl e), fun r hr => (hy k hk).2.2 r (List.mem_append_left _ hr), fun r hr => (hy k hk).2.2 r (List.mem_append_right _ hr)⟩, hs.hd, hs.cy⟩
theorem SS.more (hs : SS W G X s v) (hy : ∀ k, Y k → k < W.heap.size ∧ ¬ v.blk s G k ∧ ∀ q ∈ v.hc.rows s.h ++ v.hc.reads s.h, q.v.ownBlock ≠ some k) : SS W G Y s v := ⟨hs.r.more hy, hs.k, hs.fz⟩
theorem SS.new (hs : SS W G X s v) (hb : Below W.heap.size W W') : SS W' G (fun k => X k ∨ (W.heap.size ≤ k ∧ k < W'.heap.size)) s v :=
  (hs.below hb).more fun k hk => by
    rcases hk with hk | ⟨h1, h2⟩
    · refine ⟨gI (hs.r.hr.xs k hk) hb.size, hs.r.Rj hk, fun q hq e => ?_⟩
      rcases List.mem_append.1 hq with hq | hq
      · exact (hs.r.hr.og q hq k e).2 hk
      · exact hs.r.hr.rx q hq k e hk
    · refine ⟨h2, ?_, fun q hq e => ?_⟩
      · rintro (rfl | ⟨r, hr, e⟩)
        · have := hs.r.hr.gs; omega
        · have := hs.r.lt r hr k e; omega
      · have := hs.r.hr.lt q hq k e; omega
theorem SS.sub (hs : SS W G X s v) (hy : ∀ k, Y k → X k) : SS W G Y s v :=
  ⟨⟨hs.r.own, fun r hr g hg => ⟨(hs.r.og r hr g hg).1, fun e => (hs.r.og r hr g hg).2 (hy g e)⟩, hs.r.hr.sub hy, hs.r.hd, hs.r.cy⟩, hs.k, hs.fz⟩
theorem SR.lift {B : Nat} (hs : kS W B s v) (hG : G < B) (hX : ∀ k, X k → k < B) (hxg : ¬ X G) : SR W G X s v :=
  ⟨hs.own, fun r hr g hg => by have := (hs.og r hr g hg).2; exact ⟨by omega, fun e => this (hX g e)⟩, hs.hr.lift hG hX hxg, hs.hd, hs.cy⟩
theorem SR.far (hs : SR W G X s v) {g : Nat} (hx : ¬ v.blk s G g) (hq : ∀ q ∈ v.hc.rows s.h ++ v.hc.reads s.h, q.v.ownBlock ≠ some g) (i : Nat) (u : Value) : SR (W.setCell ⟨g, i, none⟩ u) G X s v :=
  ⟨hs.own.far (fun r hr e => hx (.inr ⟨r, hr, e⟩)) i u, hs.og, hs.hr.kept (Y := fun k => k ≠ g) ((Safe.refl _ W).set (by simp) i u) (fun q h k hk e => hq q h (e ▸ hk)), hs.hd, hs.cy⟩
theorem SS.dS (hs : SS W G X s v) {g : Nat} (hx : X g) (i : Nat) (u : Value) : SS (W.setCell ⟨g, i, none⟩ u) G X s v :=
  ⟨hs.r.far (hs.r.Rj hx) (fun q hq e => by
    rcases List.mem_append.1 hq with hq | hq
    · exact (hs.r.hr.og q hq g e).2 hx
    · exact hs.r.hr.rx q hq g e hx) i u, aA hs.k (fun e => hs.r.hr.xg (e ▸ hx)) i u, aG hs.fz _ _⟩
theorem SR.jL (hs : SR W G X s v) (i : Nat) (u : Value) : SR (W.setCell ⟨G, i, none⟩ u) G X s v :=
  ⟨hs.own.far (fun r hr e => (hs.og r hr G e).1 rfl) i u, hs.og, hs.hr.jL i u, hs.hd, hs.cy⟩
theorem SR.y (hs : SR W G X s v) {y : Cc} (hy : y ∈ v.ys) : (nI y).on W 0 ∧ (kY y).on W 0 ∧ (nK y).on W 0 := by
  have h : ∀ r ∈ fB y, r.on W 0 := fun r hr => hs.own.each r (by
    unfold Sc.rows
    exact List.mem_cons_of_mem _ (List.mem_cons_of_mem _ (List.mem_flatMap.2 ⟨y, hy, hr⟩)))
  exact ⟨h _ (by simp [fB]), h _ (by simp [fB]), h _ (by simp [fB])⟩
theorem SR.at (hs : SR W G X s v) : oU W v s := by
  have hw : (OG v s).on W 0 := hs.own.each _ (by simp [Sc.rows])
  have hc : (kH v).on W 0 := hs.own.each _ (by simp [Sc.rows])
  refine ⟨?_, aX hw, hs.hr.at, aX hc, hs.cy, fun y hy => ?_, dL hw, dL hc⟩
  · have := hw.1
    unfold OG at this
    simpa using this
  · obtain ⟨h1, h2, h3⟩ := hs.y hy
    refine ⟨aZ aV (by decide) h1, aZ aO (by decide) h2, ?_, aX h1, aX h2, aX h3, dL h1, dL h2, dL h3⟩
    have := h3.1
    unfold nK at this
    simpa using this
end
end
section
open Go.RowKit

section
variable {W W' W9 : World} {G : Nat} {X Y : Nat → Prop} {s s' : Sy} {v v' : Sc}
theorem fO (v : Sc) (s : Sy) : kH v ∈ v.rows s := by simp [Sc.rows]
theorem Jk (v : Sc) (s : Sy) : OG v s ∈ v.rows s := by simp [Sc.rows]
theorem iZ {v : Sc} {s : Sy} {y : Cc} (hy : y ∈ v.ys) {r : Rs} (hr : r ∈ fB y) : r ∈ v.rows s := by
 unfold Sc.rows
 exact List.mem_cons_of_mem _ (List.mem_cons_of_mem _ (List.mem_flatMap.2 ⟨y, hy, hr⟩))
theorem SS.XF (hs : SS W G X s v) {y : Cc} (hy : dA W 0 (nK y :: kY y :: nI y :: v.rows s)) (hfr : ∀ r ∈ fB y, ∀ g, r.v.ownBlock = some g → v.fr s G X g) {g9 cap9 : Nat} (hg9 : W.grownBy W9 (kH v).v.ownBlock)
  (ho9 : W9.ownsRow 0 94 6 (.slice (some ⟨g9, 0, none⟩) (v.ys.length + 1) cap9) (v.ys.length + 1) (flat dP (v.ys ++ [y]))) (hl9 : (kH v).v.ownBlock = some g9 ∨ W.heap.size ≤ g9) :
  SS (W9.setCell ⟨G, 6, none⟩ (.slice (some ⟨g9, 0, none⟩) (v.ys.length + 1) cap9)) G X { s with cs := s.cs ++ [y.c] } { v with a2 := some ⟨g9, 0, none⟩, c2 := cap9, ys := v.ys ++ [y] } ∧
  Safe X W (W9.setCell ⟨G, 6, none⟩ (.slice (some ⟨g9, 0, none⟩) (v.ys.length + 1) cap9)) := by
 have hlen : (v.ys ++ [y]).length = v.ys.length + 1 := by simp
 have own9 : dA W9 0 (nK y :: kY y :: nI y :: OG v s :: (⟨94, 6, .slice (some ⟨g9, 0, none⟩) (v.ys.length + 1) cap9, v.ys.length + 1, flat dP (v.ys ++ [y])⟩ : Rs) :: v.ys.flatMap fB) :=
  hy.grown (i := 4) (by simp [Sc.rows]) hg9 (r' := ⟨94, 6, .slice (some ⟨g9, 0, none⟩) (v.ys.length + 1) cap9, v.ys.length + 1, flat dP (v.ys ++ [y])⟩) ho9 (fun g hg => by
   obtain rfl : g9 = g := by simpa [Value.ownBlock] using hg
   exact hl9)
 have hcs : kH { v with a2 := some ⟨g9, 0, none⟩, c2 := cap9, ys := v.ys ++ [y] } = ⟨94, 6, .slice (some ⟨g9, 0, none⟩) (v.ys.length + 1) cap9, v.ys.length + 1, flat dP (v.ys ++ [y])⟩ := by
  unfold kH
  simp only [hlen]
 have hrows : ({ v with a2 := some ⟨g9, 0, none⟩, c2 := cap9, ys := v.ys ++ [y] } : Sc).rows { s with cs := s.cs ++ [y.c] } = OG v s :: (⟨94, 6, .slice (some ⟨g9, 0, none⟩) (v.ys.length + 1) cap9, v.ys.length + 1, flat dP (v.ys ++ [y])⟩ : Rs) :: (v.ys.flatMap fB ++ [nI y, kY y, nK y]) := by
  unfold Sc.rows
  rw [hcs]
  simp only [List.flatMap_append, List.flatMap_cons, List.flatMap_nil, List.append_nil]
  rfl
 have hperm : (nK y :: kY y :: nI y :: OG v s :: (⟨94, 6, .slice (some ⟨g9, 0, none⟩) (v.ys.length + 1) cap9, v.ys.length + 1, flat dP (v.ys ++ [y])⟩ : Rs) :: v.ys.flatMap fB).Perm (({ v with a2 := some ⟨g9, 0, none⟩, c2 := cap9, ys := v.ys ++ [y] } : Sc).rows { s with cs := s.cs ++ [y.c] }) := by
  rw [hrows]
  have h1 : ∀ (l : List Rs), (nK y :: kY y :: nI y :: l).Perm (l ++ [nI y, kY y, nK y]) := fun l =>
   (List.perm_append_comm (l₁ := [nK y, kY y, nI y]) (l₂ := l)).trans (List.Perm.append_left l (List.reverse_perm [nI y, kY y, nK y]))
  exact h1 (_ :: _ :: v.ys.flatMap fB)
 have hsf : Safe (fun k => ¬ v.blk s G k) W W9 := Safe.kP hg9 fun k hk e => hk (.inr ⟨kH v, fO v s, e.symm⟩)
 have h9 := hs.r.step (s' := { s with cs := s.cs ++ [y.c] }) (v' := { v with a2 := some ⟨g9, 0, none⟩, c2 := cap9, ys := v.ys ++ [y] }) hsf rfl rfl (own9.perm hperm) (fun r hr g hg => by
  rw [hrows] at hr
  rcases List.mem_cons.1 hr with rfl | hr
  ·exact .inl ⟨_, Jk v s, hg⟩
  ·rcases List.mem_cons.1 hr with rfl | hr
   ·obtain rfl : g9 = g := by simpa [Value.ownBlock] using hg
    rcases hl9 with h | h
    ·exact .inl ⟨_, fO v s, h⟩
    ·exact .inr (hs.r.fresh h)
   ·rcases List.mem_append.1 hr with hr | hr
    ·exact .inl ⟨r, List.mem_cons_of_mem _ (List.mem_cons_of_mem _ hr), hg⟩
    ·exact .inr (hfr r hr g hg)) (by simp [hs.r.cy])
 have hG : some G ≠ (kH v).v.ownBlock := fun e => (hs.r.og _ (fO v s) G e.symm).1 rfl
 have K := aH (bJ hs.k hs.r.hr.gs hg9 hG) 6 (.slice (some ⟨g9, 0, none⟩) (v.ys.length + 1) cap9)
 have hv : ({ v with a2 := some ⟨g9, 0, none⟩, c2 := cap9, ys := v.ys ++ [y] } : Sc).vals { s with cs := s.cs ++ [y.c] } = (v.vals s).setIfInBounds 6 (.slice (some ⟨g9, 0, none⟩) (v.ys.length + 1) cap9) := by
  unfold Sc.vals
  simp only [hlen]
  rfl
 rw [← hv] at K
 exact ⟨⟨h9.jL 6 _, K, aG (bK hs.fz hs.r.hr.gs hg9 hG) _ _⟩, (Safe.kP hg9 fun k hk e => (hs.r.og _ (fO v s) k e.symm).2 hk).set hs.r.hr.xg 6 _⟩
theorem SS.three {w5 wd wa wb wc : World} {T : Nat} (hs : SS w5 G X s v) (hX : X T) (hd : Below w5.heap.size w5 wd) (hba : Below wd.heap.size wd wa) (hbb : Below wa.heap.size wa wb) (hbc : Below wb.heap.size wb wc) {y : Cc}
  (hoa : wa.ownsRow wd.heap.size 9 1 (.slice y.a1 y.n1 y.c1) y.n1 (flat encS y.c.ns)) (hob : wb.ownsRow wa.heap.size 137 3 (.slice y.a2 y.n2 y.c2) y.n2 (flat aW y.c.sl)) (hoc : wc.ownsRow wb.heap.size 3 1 (.slice y.a3 y.n3 y.c3) y.n3 (flat encI y.c.ac)) (i1 i2 i3 : Nat) (u1 u2 u3 : Value) :
  SS (((wc.setCell ⟨T, i1, none⟩ u1).setCell ⟨T, i2, none⟩ u2).setCell ⟨T, i3, none⟩ u3) G X s v ∧ dA (((wc.setCell ⟨T, i1, none⟩ u1).setCell ⟨T, i2, none⟩ u2).setCell ⟨T, i3, none⟩ u3) 0 (nK y :: kY y :: nI y :: v.rows s) ∧ (∀ r ∈ fB y, ∀ g, r.v.ownBlock = some g → v.fr s G X g) := by
 rw [kG] at hoc
 have b5a := Below.step hd hba
 have hT : T < w5.heap.size := hs.r.hr.xs T hX
 have h5d := hd.size
 have hda := hba.size
 have hab := hbb.size
 have o1 : dA wa 0 (nI y :: v.rows s) := (hs.r.own.below b5a).cons (r' := nI y) hoa (Nat.zero_le _) fun r hr g hg => gI (hs.r.lt r hr g hg) h5d
 have o2 : dA wb 0 (kY y :: nI y :: v.rows s) := (o1.below hbb).cons (r' := kY y) hob (Nat.zero_le _) fun r hr g hg => (o1.lt r hr g hg).2
 have o3 : dA wc 0 (nK y :: kY y :: nI y :: v.rows s) := (o2.below hbc).cons (r' := nK y) hoc (Nat.zero_le _) fun r hr g hg => (o2.lt r hr g hg).2
 have hge : ∀ r ∈ fB y, ∀ g, r.v.ownBlock = some g → w5.heap.size ≤ g := fun r hr g hg => by
  simp only [fB, List.mem_cons, List.not_mem_nil, or_false] at hr
  rcases hr with rfl | rfl | rfl
  ·have := (hoa.lt g hg).1; omega
  ·have := (hob.lt g hg).1; omega
  ·have := (hoc.lt g hg).1; omega
 have hne : ∀ r ∈ nK y :: kY y :: nI y :: v.rows s, r.v.ownBlock ≠ some T := fun r hr e => by
  simp only [List.mem_cons] at hr
  rcases hr with rfl | rfl | rfl | hr
  ·have := hge (nK y) (by simp [fB]) T e; omega
  ·have := hge (kY y) (by simp [fB]) T e; omega
  ·have := hge (nI y) (by simp [fB]) T e; omega
  ·exact (hs.r.og r hr T e).2 hX
 exact ⟨(((hs.below (Below.step b5a (Below.step hbb hbc))).dS hX i1 u1).dS hX i2 u2).dS hX i3 u3, ((o3.far hne i1 u1).far hne i2 u2).far hne i3 u3, fun r hr g hg => hs.r.fresh (hge r hr g hg)⟩
theorem SR.ZK (hs : SR W G X s v) {B : Nat} (hB : X B) (hy : ∀ k, Y k → X k) (hn : ¬ Y B) : SR W B Y s v :=
 ⟨hs.own, fun r hr g hg => ⟨fun e => (hs.og r hr g hg).2 (e ▸ hB), fun e => (hs.og r hr g hg).2 (hy g e)⟩, hs.hr.any (hs.hr.xs B hB) (fun q hq k hk => by
  have h : ¬ X k := fun e => by
   rcases List.mem_append.1 hq with hq | hq
   ·exact (hs.hr.og q hq k hk).2 e
   ·exact hs.hr.rx q hq k hk e
  exact ⟨fun e => h (e ▸ hB), fun e => h (hy k e)⟩) (fun k hk => hs.hr.xs k (hy k hk)) hn, hs.hd, hs.cy⟩
theorem SR.dS (hs : SR W G X s v) {g : Nat} (hx : X g) (i : Nat) (u : Value) : SR (W.setCell ⟨g, i, none⟩ u) G X s v :=
 hs.far (hs.Rj hx) (fun q hq e => by
  rcases List.mem_append.1 hq with hq | hq
  ·exact (hs.hr.og q hq g e).2 hx
  ·exact hs.hr.rx q hq g e hx) i u
end
end
section
open Go.RowKit

theorem qO {α : Type} {enc : α → List Value} {k : Nat} (hk : ∀ x, (enc x).length = k) {i : Nat} (hi : i < k) {u : Value} {x : α} : ∀ (l : List α) (j : Nat) (hj : j < l.length), enc x = (enc l[j]).set i u → (flat enc l).set (j * k + i) u = flat enc (l.set j x)
 | a :: l, 0, _, hx => by
  rw [dB, gG, dB, Nat.zero_mul, Nat.zero_add, List.set_append_left _ _ (by rw [hk]; exact hi)]
  rw [show enc x = (enc a).set i u from hx]
 | a :: l, j + 1, hj, hx => by
  rw [dB, gH, dB, List.set_append_right _ _ (by rw [hk, Nat.add_mul]; omega), hk, show (j + 1) * k + i - k = j * k + i by rw [Nat.add_mul]; omega, qO hk hi l j (by simpa using hj) hx]
theorem vM {α : Type} {enc : α → List Value} {x : α} : ∀ (l : List α) (j : Nat) (hj : j < l.length), enc x = enc l[j] → flat enc (l.set j x) = flat enc l
 | a :: l, 0, _, hx => by rw [gG, dB, dB, show enc x = enc a from hx]
 | a :: l, j + 1, hj, hx => by rw [gH, dB, dB, vM l j (by simpa using hj) hx]

section
variable {W W' W1 W2 W9 : World} {G : Nat} {X Y : Nat → Prop} {s s' : Sy} {v v' : Sc}
def Sc.dN (v : Sc) (i : Nat) (y : Cc) : Sc := { v with ys := v.ys.set i y }
theorem qP (v : Sc) (s : Sy) (i : Nat) (y : Cc) (c : Ca) : (v.dN i y).vals (s.jO i c) = v.vals s := by
 unfold Sc.vals Sc.dN
 simp only [List.length_set]
 rfl
theorem SR.ZL (hs : SR W G X s v) {i : Nat} (hi : i < v.ys.length) {y' : Cc} (sf : Safe (fun k => ¬ v.blk s G k) W W')
  (own : dA W' 0 (OG v s :: kH (v.dN i y') :: nI y' :: kY y' :: nK y' :: (v.ys.eraseIdx i).flatMap fB))
  (hb : ∀ r ∈ fB y', ∀ g, r.v.ownBlock = some g → (∃ q ∈ v.rows s, q.v.ownBlock = some g) ∨ v.fr s G X g) : SR W' G X (s.jO i y'.c) (v.dN i y') := by
 have hi' : i < (v.dN i y').ys.length := by
  unfold Sc.dN
  simpa using hi
 have hp := vK (v.dN i y') (s.jO i y'.c) hi'
 have e1 : (v.dN i y').ys[i] = y' := by simp [Sc.dN]
 have e2 : (v.dN i y').ys.eraseIdx i = v.ys.eraseIdx i := by
  unfold Sc.dN
  exact List.eraseIdx_set_eq
 have e3 : (v.dN i y').front (s.jO i y'.c) (v.dN i y').ys[i] ((v.dN i y').ys.eraseIdx i) = OG v s :: kH (v.dN i y') :: nI y' :: kY y' :: nK y' :: (v.ys.eraseIdx i).flatMap fB := by
  rw [e1, e2]
  rfl
 rw [e3] at hp
 refine hs.step sf rfl rfl (own.perm hp.symm) (fun r hr g hg => ?_) ?_
 ·have hr2 := hp.mem_iff.1 hr
  have hold : ∀ q, q ∈ (v.front s v.ys[i] (v.ys.eraseIdx i)) → q ∈ v.rows s := fun q hq => (vK v s hi).mem_iff.2 hq
  simp only [List.mem_cons] at hr2
  rcases hr2 with rfl | rfl | rfl | rfl | rfl | hr2
  ·exact .inl ⟨_, Jk v s, hg⟩
  ·refine .inl ⟨_, fO v s, ?_⟩
   rw [← hg]
   unfold kH Sc.dN
   simp only [List.length_set]
  ·exact hb _ (by simp [fB]) g hg
  ·exact hb _ (by simp [fB]) g hg
  ·exact hb _ (by simp [fB]) g hg
  ·exact .inl ⟨r, hold r (by unfold Sc.front; simp only [List.mem_cons]; exact .inr (.inr (.inr (.inr (.inr hr2))))), hg⟩
 ·unfold Sc.dN Sy.jO
  simp only
  rw [List.map_set, hs.cy]
theorem SR.Lh (hs : SR W G X s v) {i : Nat} (hi : i < v.ys.length) : dA W 0 (OG v s :: kH v :: nI v.ys[i] :: kY v.ys[i] :: nK v.ys[i] :: (v.ys.eraseIdx i).flatMap fB) := hs.own.perm (vK v s hi)
theorem SR.WR (hs : SR W G X s v) {i : Nat} (hi : i < v.ys.length) : ∃ g, v.a2 = some ⟨g, 0, none⟩ ∧ g < W.heap.size ∧ g ≠ G ∧ ¬ X g ∧ (∀ j, j < 6 → W.cell? ⟨g, i * 6 + j, none⟩ = (dP v.ys[i])[j]? ∧ W.frozen? ⟨g, i * 6 + j, none⟩ = false) := by
 have hc : (kH v).on W 0 := hs.own.each _ (fO v s)
 have hlen := flat_length dR v.ys
 obtain ⟨g, u, h1, _, h2, _, _⟩ := dW hc (i * 6) (by rw [show (kH v).xs = flat dP v.ys from rfl, hlen]; omega)
 have h3 : (kH v).v.ownBlock = some g := by unfold kH; rw [h1]; rfl
 have h4 := hs.og _ (fO v s) g h3
 refine ⟨g, h1, h2, h4.1, h4.2, fun j hj => ?_⟩
 have hk : i * 6 + j < (kH v).xs.length := by rw [show (kH v).xs = flat dP v.ys from rfl, hlen]; omega
 obtain ⟨g', h5, _, _, h6, h7⟩ := rJ hc (i * 6 + j) hk
 rw [h1] at h5
 obtain rfl : g = g' := by simpa using h5
 refine ⟨?_, h7⟩
 rw [h6, ← flat_get dR v.ys i hi j hj]
 exact (gJ hk).symm
theorem SR.Jl (hs : SR W G X s v) {r : Rs} (hr : r ∈ v.rows s) {g : Nat} (hg : r.v.ownBlock = some g) (i : Nat) (u : Value) : Safe (fun k => ¬ v.blk s G k) W (W.setCell ⟨g, i, none⟩ u) :=
 (Safe.refl _ W).set (fun h => h (.inr ⟨r, hr, hg⟩)) i u
theorem SS.TV (hs : SS W G X s v) {g : Nat} (hg : g ≠ G) (i : Nat) (u : Value) : (∀ o, (W.setCell ⟨g, i, none⟩ u).cell? ⟨G, o, none⟩ = (v.vals s)[o]?) ∧ ∀ o, (W.setCell ⟨g, i, none⟩ u).frozen? ⟨G, o, none⟩ = false :=
 ⟨aA hs.k (fun e => hg e.symm) i u, aG hs.fz _ _⟩
theorem SS.XG (hs : SS W G X s v) {i : Nat} (hi : i < v.ys.length) {g : Nat} (hg : v.ys[i].a3 = some ⟨g, 0, none⟩) (cpu : Nat) (p : Int) :
  SS (W.setCell ⟨g, cpu, none⟩ (vI p)) G X (s.jO i { v.ys[i].c with ac := v.ys[i].c.ac.set cpu p }) (v.dN i { v.ys[i] with c := { v.ys[i].c with ac := v.ys[i].c.ac.set cpu p } }) ∧ Safe X W (W.setCell ⟨g, cpu, none⟩ (vI p)) := by
 have hrow : nK v.ys[i] ∈ v.rows s := iZ (gL hi) (by simp [fB])
 have hb : (nK v.ys[i]).v.ownBlock = some g := by unfold nK; rw [hg]; rfl
 have h4 := hs.r.og _ hrow g hb
 have k := (hs.r.Lh hi).cell (i := 4) (by simp) (g := g) (c := v.ys[i].c3) (by show (nK v.ys[i]).v = _; unfold nK; rw [hg]; rfl) cpu (vI p) rfl
 have e1 : ({ nK v.ys[i] with xs := (nK v.ys[i]).xs.set cpu (vI p) } : Rs) = nK { v.ys[i] with c := { v.ys[i].c with ac := v.ys[i].c.ac.set cpu p } } := by
  unfold nK
  simp only [List.map_set]
 have e2 : kH (v.dN i { v.ys[i] with c := { v.ys[i].c with ac := v.ys[i].c.ac.set cpu p } }) = kH v := by
  have e : flat dP (v.ys.set i { v.ys[i] with c := { v.ys[i].c with ac := v.ys[i].c.ac.set cpu p } }) = flat dP v.ys := vM v.ys i hi rfl
  unfold kH Sc.dN
  simp only [List.length_set]
  rw [e]
 have hr := hs.r.ZL hi (y' := { v.ys[i] with c := { v.ys[i].c with ac := v.ys[i].c.ac.set cpu p } }) (hs.r.Jl hrow hb cpu (vI p)) (by
  rw [e2, ← e1]
  exact k) (fun r hr' g' hg' => .inl (by
  simp only [fB, List.mem_cons, List.not_mem_nil, or_false] at hr'
  rcases hr' with rfl | rfl | rfl
  ·exact ⟨nI v.ys[i], iZ (gL hi) (by simp [fB]), hg'⟩
  ·exact ⟨kY v.ys[i], iZ (gL hi) (by simp [fB]), hg'⟩
  ·exact ⟨nK v.ys[i], hrow, hg'⟩))
 have hk := hs.TV h4.1 cpu (vI p)
 rw [← qP v s i] at hk
 exact ⟨⟨hr, hk.1, hk.2⟩, (Safe.refl X W).set h4.2 cpu (vI p)⟩
theorem SS.TW (hs : SS W G X s v) {i : Nat} (hi : i < v.ys.length) {g : Nat} (hg : v.ys[i].a2 = some ⟨g, 0, none⟩) {k : Nat} (hk : k < v.ys[i].c.sl.length) {x' : Sl} {j : Nat} (hj : j < 3) {u : Value} (hu : aW x' = (aW v.ys[i].c.sl[k]).set j u) (h1 : u.oneCell' = true) :
  SS (W.setCell ⟨g, k * 3 + j, none⟩ u) G X (s.jO i { v.ys[i].c with sl := v.ys[i].c.sl.set k x' }) (v.dN i { v.ys[i] with c := { v.ys[i].c with sl := v.ys[i].c.sl.set k x' } }) ∧ Safe X W (W.setCell ⟨g, k * 3 + j, none⟩ u) := by
 have hrow : kY v.ys[i] ∈ v.rows s := iZ (gL hi) (by simp [fB])
 have hb : (kY v.ys[i]).v.ownBlock = some g := by unfold kY; rw [hg]; rfl
 have h4 := hs.r.og _ hrow g hb
 have h5 := (hs.r.Lh hi).cell (i := 3) (by simp) (g := g) (c := v.ys[i].c2) (by show (kY v.ys[i]).v = _; unfold kY; rw [hg]; rfl) (k * 3 + j) u h1
 have e1 : ({ kY v.ys[i] with xs := (kY v.ys[i]).xs.set (k * 3 + j) u } : Rs) = kY { v.ys[i] with c := { v.ys[i].c with sl := v.ys[i].c.sl.set k x' } } := by
  unfold kY
  simp only
  rw [qO aO hj v.ys[i].c.sl k hk hu]
 have e2 : kH (v.dN i { v.ys[i] with c := { v.ys[i].c with sl := v.ys[i].c.sl.set k x' } }) = kH v := by
  have e : flat dP (v.ys.set i { v.ys[i] with c := { v.ys[i].c with sl := v.ys[i].c.sl.set k x' } }) = flat dP v.ys := vM v.ys i hi rfl
  unfold kH Sc.dN
  simp only [List.length_set]
  rw [e]
 have hr := hs.r.ZL hi (y' := { v.ys[i] with c := { v.ys[i].c with sl := v.ys[i].c.sl.set k x' } }) (hs.r.Jl hrow hb (k * 3 + j) u) (by
  rw [e2, ← e1]
  exact h5) (fun r hr' g' hg' => .inl (by
  simp only [fB, List.mem_cons, List.not_mem_nil, or_false] at hr'
  rcases hr' with rfl | rfl | rfl
  ·exact ⟨nI v.ys[i], iZ (gL hi) (by simp [fB]), hg'⟩
  ·exact ⟨kY v.ys[i], hrow, hg'⟩
  ·exact ⟨nK v.ys[i], iZ (gL hi) (by simp [fB]), hg'⟩))
 have hk := hs.TV h4.1 (k * 3 + j) u
 rw [← qP v s i] at hk
 exact ⟨⟨hr, hk.1, hk.2⟩, (Safe.refl X W).set h4.2 (k * 3 + j) u⟩
theorem SS.XH (hs : SS W G X s v) {i : Nat} (hi : i < v.ys.length) {l' : List Sl} {a' : Option Addr} {n' c' : Nat} (hown : W2.ownsRow 0 137 3 (.slice a' n' c') n' (flat aW l')) (hg : W.grownBy W2 (kY v.ys[i]).v.ownBlock)
  (hl : ∀ k, (Value.slice a' n' c').ownBlock = some k → (kY v.ys[i]).v.ownBlock = some k ∨ W.heap.size ≤ k) {gc : Nat} (hgc : v.a2 = some ⟨gc, 0, none⟩) :
  SS (W2.setCell ⟨gc, i * 6 + 4, none⟩ (.slice a' n' c')) G X (s.jO i { v.ys[i].c with sl := l' }) (v.dN i { v.ys[i] with a2 := a', n2 := n', c2 := c', c := { v.ys[i].c with sl := l' } }) ∧ Safe X W (W2.setCell ⟨gc, i * 6 + 4, none⟩ (.slice a' n' c')) := by
 have hrow : kY v.ys[i] ∈ v.rows s := iZ (gL hi) (by simp [fB])
 have hcb : (kH v).v.ownBlock = some gc := by unfold kH; rw [hgc]; rfl
 have h4 := hs.r.og _ (fO v s) gc hcb
 have o1 := (hs.r.Lh hi).grown (i := 3) (by simp) hg (r' := kY { v.ys[i] with a2 := a', n2 := n', c2 := c', c := { v.ys[i].c with sl := l' } }) hown hl
 have o2 := o1.cell (i := 1) (by simp) (g := gc) (c := v.c2) (by show (kH v).v = _; unfold kH; rw [hgc]; rfl) (i * 6 + 4) (.slice a' n' c') rfl
 have e1 : ({ kH v with xs := (kH v).xs.set (i * 6 + 4) (.slice a' n' c') } : Rs) = kH (v.dN i { v.ys[i] with a2 := a', n2 := n', c2 := c', c := { v.ys[i].c with sl := l' } }) := by
  unfold kH Sc.dN
  simp only [List.length_set]
  rw [qO dR (by decide) v.ys i hi (x := { v.ys[i] with a2 := a', n2 := n', c2 := c', c := { v.ys[i].c with sl := l' } }) rfl]
 have sf : Safe (fun k => ¬ v.blk s G k) W W2 := Safe.kP hg fun k hk e => hk (.inr ⟨_, hrow, e.symm⟩)
 have hr := hs.r.ZL hi (y' := { v.ys[i] with a2 := a', n2 := n', c2 := c', c := { v.ys[i].c with sl := l' } }) (sf.set (fun h => h (.inr ⟨_, fO v s, hcb⟩)) (i * 6 + 4) (.slice a' n' c')) (by
  rw [← e1]
  exact o2) (fun r hr' g' hg' => by
  simp only [fB, List.mem_cons, List.not_mem_nil, or_false] at hr'
  rcases hr' with rfl | rfl | rfl
  ·exact .inl ⟨nI v.ys[i], iZ (gL hi) (by simp [fB]), hg'⟩
  ·rcases hl g' hg' with h | h
   ·exact .inl ⟨kY v.ys[i], hrow, h⟩
   ·exact .inr (hs.r.fresh h)
  ·exact .inl ⟨nK v.ys[i], iZ (gL hi) (by simp [fB]), hg'⟩)
 have hG : some G ≠ (kY v.ys[i]).v.ownBlock := fun e => (hs.r.og _ hrow G e.symm).1 rfl
 have hk1 := aA (bJ hs.k hs.r.hr.gs hg hG) (c := gc) (fun e => h4.1 e.symm) (i * 6 + 4) (.slice a' n' c')
 have hk2 := aG (bK hs.fz hs.r.hr.gs hg hG) ⟨gc, i * 6 + 4, none⟩ (.slice a' n' c')
 rw [← qP v s i] at hk1
 exact ⟨⟨hr, hk1, hk2⟩, (Safe.kP hg fun k hk e => (hs.r.og _ hrow k e.symm).2 hk).set h4.2 (i * 6 + 4) _⟩
theorem SS.XI (hs : SS W G X s v) {i : Nat} (hi : i < v.ys.length) {l' : List (List UInt8)} {a' : Option Addr} {n' c' : Nat} (hown : W2.ownsRow 0 9 1 (.slice a' n' c') n' (flat encS l')) (hg : W.grownBy W2 (nI v.ys[i]).v.ownBlock)
  (hl : ∀ k, (Value.slice a' n' c').ownBlock = some k → (nI v.ys[i]).v.ownBlock = some k ∨ W.heap.size ≤ k) {gc : Nat} (hgc : v.a2 = some ⟨gc, 0, none⟩) :
  SS (W2.setCell ⟨gc, i * 6, none⟩ (.slice a' n' c')) G X (s.jO i { v.ys[i].c with ns := l' }) (v.dN i { v.ys[i] with a1 := a', n1 := n', c1 := c', c := { v.ys[i].c with ns := l' } }) ∧ Safe X W (W2.setCell ⟨gc, i * 6, none⟩ (.slice a' n' c')) := by
 have hrow : nI v.ys[i] ∈ v.rows s := iZ (gL hi) (by simp [fB])
 have hcb : (kH v).v.ownBlock = some gc := by unfold kH; rw [hgc]; rfl
 have h4 := hs.r.og _ (fO v s) gc hcb
 have o1 := (hs.r.Lh hi).grown (i := 2) (by simp) hg (r' := nI { v.ys[i] with a1 := a', n1 := n', c1 := c', c := { v.ys[i].c with ns := l' } }) hown hl
 have o2 := o1.cell (i := 1) (by simp) (g := gc) (c := v.c2) (by show (kH v).v = _; unfold kH; rw [hgc]; rfl) (i * 6 + 0) (.slice a' n' c') rfl
 have e1 : ({ kH v with xs := (kH v).xs.set (i * 6 + 0) (.slice a' n' c') } : Rs) = kH (v.dN i { v.ys[i] with a1 := a', n1 := n', c1 := c', c := { v.ys[i].c with ns := l' } }) := by
  unfold kH Sc.dN
  simp only [List.length_set]
  rw [qO dR (by decide) v.ys i hi (x := { v.ys[i] with a1 := a', n1 := n', c1 := c', c := { v.ys[i].c with ns := l' } }) rfl]
 have sf : Safe (fun k => ¬ v.blk s G k) W W2 := Safe.kP hg fun k hk e => hk (.inr ⟨_, hrow, e.symm⟩)
 have hr := hs.r.ZL hi (y' := { v.ys[i] with a1 := a', n1 := n', c1 := c', c := { v.ys[i].c with ns := l' } }) (sf.set (fun h => h (.inr ⟨_, fO v s, hcb⟩)) (i * 6 + 0) (.slice a' n' c')) (by
  rw [← e1]
  exact o2) (fun r hr' g' hg' => by
  simp only [fB, List.mem_cons, List.not_mem_nil, or_false] at hr'
  rcases hr' with rfl | rfl | rfl
  ·rcases hl g' hg' with h | h
   ·exact .inl ⟨nI v.ys[i], hrow, h⟩
   ·exact .inr (hs.r.fresh h)
  ·exact .inl ⟨kY v.ys[i], iZ (gL hi) (by simp [fB]), hg'⟩
  ·exact .inl ⟨nK v.ys[i], iZ (gL hi) (by simp [fB]), hg'⟩)
 have hG : some G ≠ (nI v.ys[i]).v.ownBlock := fun e => (hs.r.og _ hrow G e.symm).1 rfl
 have hk1 := aA (bJ hs.k hs.r.hr.gs hg hG) (c := gc) (fun e => h4.1 e.symm) (i * 6 + 0) (.slice a' n' c')
 have hk2 := aG (bK hs.fz hs.r.hr.gs hg hG) ⟨gc, i * 6 + 0, none⟩ (.slice a' n' c')
 rw [← qP v s i] at hk1
 exact ⟨⟨hr, hk1, hk2⟩, (Safe.kP hg fun k hk e => (hs.r.og _ hrow k e.symm).2 hk).set h4.2 (i * 6 + 0) _⟩
theorem SS.XJ (hs : SS W G X s v) (hb : Below W.heap.size W W1) {h' : Hp} {hc' : Hc} (hn : kX W1 W.heap.size h' hc') (hb2 : Below W1.heap.size W1 W2) {xs : List Int} {a : Option Addr} {n c : Nat} (ho : W2.ownsRow W1.heap.size 3 1 (.slice a n c) n (xs.map vI)) :
  SS ((((((W2.setCell ⟨G, 1, none⟩ (.slice hc'.az 2 hc'.cz)).setCell ⟨G, 2, none⟩ (.slice hc'.am 2 hc'.cm)).setCell ⟨G, 3, none⟩ (.int .i64 (h'.aF : Int))).setCell ⟨G, 4, none⟩ (.slice hc'.al hc'.lc.length hc'.cl)).setCell ⟨G, 5, none⟩ (.slice hc'.av h'.live.length hc'.cv)).setCell ⟨G, 0, none⟩ (.slice a n c)) G X { s with w := xs, h := h' } { v with a1 := a, n1 := n, c1 := c, hc := hc' } ∧
  Safe X W ((((((W2.setCell ⟨G, 1, none⟩ (.slice hc'.az 2 hc'.cz)).setCell ⟨G, 2, none⟩ (.slice hc'.am 2 hc'.cm)).setCell ⟨G, 3, none⟩ (.int .i64 (h'.aF : Int))).setCell ⟨G, 4, none⟩ (.slice hc'.al hc'.lc.length hc'.cl)).setCell ⟨G, 5, none⟩ (.slice hc'.av h'.live.length hc'.cv)).setCell ⟨G, 0, none⟩ (.slice a n c)) := by
 have h1 := hs.r.heap hb hn
 have h2 := h1.words hb2 ho
 have K := aB hs.k hs.r.hr.gs (Below.step hb hb2)
 have F := aJ hs.fz hs.r.hr.gs (Below.step hb hb2)
 have K1 := aH K 1 (.slice hc'.az 2 hc'.cz)
 have K2 := aH K1 2 (.slice hc'.am 2 hc'.cm)
 have K3 := aH K2 3 (.int .i64 (h'.aF : Int))
 have K4 := aH K3 4 (.slice hc'.al hc'.lc.length hc'.cl)
 have K5 := aH K4 5 (.slice hc'.av h'.live.length hc'.cv)
 have K6 := aH K5 0 (.slice a n c)
 have F1 := aG F ⟨G, 1, none⟩ (.slice hc'.az 2 hc'.cz)
 have F2 := aG F1 ⟨G, 2, none⟩ (.slice hc'.am 2 hc'.cm)
 have F3 := aG F2 ⟨G, 3, none⟩ (.int .i64 (h'.aF : Int))
 have F4 := aG F3 ⟨G, 4, none⟩ (.slice hc'.al hc'.lc.length hc'.cl)
 have F5 := aG F4 ⟨G, 5, none⟩ (.slice hc'.av h'.live.length hc'.cv)
 have F6 := aG F5 ⟨G, 0, none⟩ (.slice a n c)
 unfold Sc.vals at K6
 simp only [gE, gG, gH] at K6
 exact ⟨⟨(((((h2.jL 1 _).jL 2 _).jL 3 _).jL 4 _).jL 5 _).jL 0 _, K6, F6⟩, ((((((Safe.iF (Below.step hb hb2)).set hs.r.hr.xg 1 _).set hs.r.hr.xg 2 _).set hs.r.hr.xg 3 _).set hs.r.hr.xg 4 _).set hs.r.hr.xg 5 _).set hs.r.hr.xg 0 _⟩
theorem SS.Vd (hs : SS W G X s v) {i : Nat} (hi : i < v.ys.length) {y : Cc} (hy : v.ys[i] = y) {l' : List Sl} {a' : Option Addr} {n' c' : Nat} (hown : W2.ownsRow 0 137 3 (.slice a' n' c') n' (flat aW l')) (hg : W.grownBy W2 (kY y).v.ownBlock)
  (hl : ∀ k, (Value.slice a' n' c').ownBlock = some k → (kY y).v.ownBlock = some k ∨ W.heap.size ≤ k) {gc : Nat} (hgc : v.a2 = some ⟨gc, 0, none⟩) :
  ∃ v', SS (W2.setCell ⟨gc, i * 6 + 4, none⟩ (.slice a' n' c')) G X (s.jO i { y.c with sl := l' }) v' ∧ Safe X W (W2.setCell ⟨gc, i * 6 + 4, none⟩ (.slice a' n' c')) ∧ v'.a2 = v.a2 := by
 subst hy
 have h := hs.XH hi hown hg hl hgc
 exact ⟨_, h.1, h.2, rfl⟩
theorem SR.XK (hs : SR W G X s v) {i : Nat} (hi : i < v.ys.length) {y : Cc} (hy : v.ys[i] = y) {gc : Nat} (hgc : v.a2 = some ⟨gc, 0, none⟩) : (kY y).v.ownBlock ≠ some gc := fun e => by
 subst hy
 have h := (hs.Lh hi).off (i := 1) (j := 3) (by simp) (by simp) (by decide) gc (by show (kH v).v.ownBlock = _; unfold kH; rw [hgc]; rfl)
 exact h e
theorem SS.Ve (hs : SS W G X s v) {i : Nat} (hi : i < v.ys.length) {y : Cc} (hy : v.ys[i] = y) {g : Nat} (hg : y.a3 = some ⟨g, 0, none⟩) (cpu : Nat) (p : Int) :
  ∃ v', SS (W.setCell ⟨g, cpu, none⟩ (vI p)) G X (s.jO i { y.c with ac := y.c.ac.set cpu p }) v' ∧ Safe X W (W.setCell ⟨g, cpu, none⟩ (vI p)) ∧ v'.a2 = v.a2 := by
 subst hy
 have h := hs.XG hi hg cpu p
 exact ⟨_, h.1, h.2, rfl⟩
theorem SS.aAC (hs : SS W G X s v) {i : Nat} (hi : i < v.ys.length) {y : Cc} (hy : v.ys[i] = y) {g : Nat} (hg : y.a2 = some ⟨g, 0, none⟩) {k : Nat} (hk : k < y.c.sl.length) (h' : Int) {n' : Nat} :
  ∃ v', SS ((W.setCell ⟨g, k * 3 + 2, none⟩ (vI h')).setCell ⟨g, k * 3 + 1, none⟩ (vI n')) G X (s.jO i { y.c with sl := y.c.sl.set k ⟨y.c.sl[k].p, n', h'⟩ }) v' ∧ Safe X W ((W.setCell ⟨g, k * 3 + 2, none⟩ (vI h')).setCell ⟨g, k * 3 + 1, none⟩ (vI n')) ∧ v'.a2 = v.a2 := by
 subst hy
 have h1 := hs.TW hi hg hk (x' := ⟨v.ys[i].c.sl[k].p, v.ys[i].c.sl[k].n, h'⟩) (j := 2) (by decide) (u := vI h') rfl rfl
 have hi2 : i < (v.dN i { v.ys[i] with c := { v.ys[i].c with sl := v.ys[i].c.sl.set k ⟨v.ys[i].c.sl[k].p, v.ys[i].c.sl[k].n, h'⟩ } }).ys.length := by
  unfold Sc.dN
  simpa using hi
 have e1 : (v.dN i { v.ys[i] with c := { v.ys[i].c with sl := v.ys[i].c.sl.set k ⟨v.ys[i].c.sl[k].p, v.ys[i].c.sl[k].n, h'⟩ } }).ys[i] = { v.ys[i] with c := { v.ys[i].c with sl := v.ys[i].c.sl.set k ⟨v.ys[i].c.sl[k].p, v.ys[i].c.sl[k].n, h'⟩ } } := by simp [Sc.dN]
 have h2 := h1.1.TW hi2 (g := g) (by rw [e1]; exact hg) (k := k) (by rw [e1]; simpa using hk) (x' := ⟨v.ys[i].c.sl[k].p, n', h'⟩) (j := 1) (by decide) (u := vI n') (by
  simp only [e1, List.getElem_set_self]
  rfl) rfl
 have h3 := h2.1
 have e2 : (s.jO i { v.ys[i].c with sl := v.ys[i].c.sl.set k ⟨v.ys[i].c.sl[k].p, v.ys[i].c.sl[k].n, h'⟩ }).jO i { (v.dN i { v.ys[i] with c := { v.ys[i].c with sl := v.ys[i].c.sl.set k ⟨v.ys[i].c.sl[k].p, v.ys[i].c.sl[k].n, h'⟩ } }).ys[i].c with sl := (v.dN i { v.ys[i] with c := { v.ys[i].c with sl := v.ys[i].c.sl.set k ⟨v.ys[i].c.sl[k].p, v.ys[i].c.sl[k].n, h'⟩ } }).ys[i].c.sl.set k ⟨v.ys[i].c.sl[k].p, n', h'⟩ } = s.jO i { v.ys[i].c with sl := v.ys[i].c.sl.set k ⟨v.ys[i].c.sl[k].p, n', h'⟩ } := by
  unfold Sy.jO
  simp only [e1, List.set_set]
 rw [e2] at h3
 exact ⟨_, h3, h1.2.trans h2.2, rfl⟩
end
end
section
open Go.RowKit

theorem Pv (l : List Int) : ∀ u ∈ flat encI l, u.oneCell' = true := by
 intro u hu
 simp only [flat, List.mem_flatMap] at hu
 obtain ⟨r, _, hr⟩ := hu
 simp only [encI, List.mem_cons, List.not_mem_nil, or_false] at hr
 rcases hr with rfl <;> rfl
theorem cloneS (a : Option Addr) (n cap : Nat) (xs : List (List UInt8)) (w : World) (hn : xs.length = n) (hl : n * 16 ≤ 140737488355328) (hr : Row w a (flat encS xs)) :
  Calls Tryz.prog 87 #[.slice a n cap] w fun e w' => ∃ a' c', e = .returned (.slice a' n c') ∧ w'.ownsRow w.heap.size 9 1 (.slice a' n c') n (flat encS xs) ∧ Below w.heap.size w w' := by
 have q22 : ∀ (w : World) (a : Option Addr) (n c n' c' : Nat), (binOp .eql 91 (.slice a n c) (.slice none n' c')).run Tryz.prog w = .ok (.bool a.isNone) w := fun w a n c n' c' => Lib.run_eql_slice_nil w _ _ a n c n' c' Tryz.underlying91
 subst hn
 cases a with
 | none =>
  have hx : xs = [] := by
   cases xs with
   | nil => rfl
   | cons u l => obtain ⟨b, off, e1, _⟩ := aK aV (by decide) hr (j := 0) (by simp); cases e1
  subst hx
  go_enter Tryz.func87, Tryz.ntmps87
  go_wp2
  go_ret
  exact ⟨none, 0, rfl, World.ownsRow_nil _ _ _ _, Below.refl _ _⟩
 | some ad =>
  go_enter Tryz.func87, Tryz.ntmps87
  go_wp2_with (at_builtin; refine fJ rfl _ _ 91 rfl w.heap.size 9 (.string ByteArray.empty) 1 16 Tryz.underlying91 Hq rfl (by decide) (by decide) _ _ _ _ rfl (World.ownsRow_made w #[] 0 (Nat.le_refl _) (Nat.zero_le _) (by simp)) (some ad) xs.length cap (flat encS xs) rfl ?q1 ?q2 ?q3 ?q4 ?q5 ?_)
  case q1 => exact flat_length aV xs
  case q2 => exact hr.below (aC _ _)
  case q3 => exact yL xs
  case q4 => rw [Nat.zero_add]; exact hl
  case q5 => simp
  intro a' c' w1 hown hgrow
  go_wp2
  go_ret
  exact ⟨a', c', rfl, hown, (aC w _).grown hgrow (by simp) (by intro k hk; simp [Value.ownBlock] at hk; omega)⟩

theorem RJ (a : Option Addr) (n cap : Nat) (xs : List Sl) (w : World) (hn : xs.length = n) (hl : n * 24 ≤ 140737488355328) (hr : Row w a (flat aW xs)) :
  Calls Tryz.prog 88 #[.slice a n cap] w fun e w' => ∃ a' c', e = .returned (.slice a' n c') ∧ w'.ownsRow w.heap.size 137 3 (.slice a' n c') n (flat aW xs) ∧ Below w.heap.size w w' := by
 have q22 : ∀ (w : World) (a : Option Addr) (n c n' c' : Nat), (binOp .eql 92 (.slice a n c) (.slice none n' c')).run Tryz.prog w = .ok (.bool a.isNone) w := fun w a n c n' c' => Lib.run_eql_slice_nil w _ _ a n c n' c' Tryz.underlying92
 subst hn
 cases a with
 | none =>
  have hx : xs = [] := by
   cases xs with
   | nil => rfl
   | cons u l => obtain ⟨b, off, e1, _⟩ := aK aO (by decide) hr (j := 0) (by simp); cases e1
  subst hx
  go_enter Tryz.func88, Tryz.ntmps88
  go_wp2
  go_ret
  exact ⟨none, 0, rfl, World.ownsRow_nil _ _ _ _, Below.refl _ _⟩
 | some ad =>
  go_enter Tryz.func88, Tryz.ntmps88
  go_wp2_with (at_builtin; refine fJ rfl _ _ 92 rfl w.heap.size 137 (.agg #[.int .i64 0, .int .i64 0, .int .i64 0]) 3 24 Tryz.underlying92 CU rfl (by decide) (by decide) _ _ _ _ rfl (World.ownsRow_made w #[] 0 (Nat.le_refl _) (Nat.zero_le _) (by simp)) (some ad) xs.length cap (flat aW xs) rfl ?q1 ?q2 ?q3 ?q4 ?q5 ?_)
  case q1 => exact flat_length aO xs
  case q2 => exact hr.below (aC _ _)
  case q3 => exact vJ xs
  case q4 => rw [Nat.zero_add]; exact hl
  case q5 => simp
  intro a' c' w1 hown hgrow
  go_wp2
  go_ret
  exact ⟨a', c', rfl, hown, (aC w _).grown hgrow (by simp) (by intro k hk; simp [Value.ownBlock] at hk; omega)⟩

theorem Px (a : Option Addr) (n cap : Nat) (xs : List Int) (w : World) (hn : xs.length = n) (hl : n * 8 ≤ 140737488355328) (hr : Row w a (flat encI xs)) :
  Calls Tryz.prog 85 #[.slice a n cap] w fun e w' => ∃ a' c', e = .returned (.slice a' n c') ∧ w'.ownsRow w.heap.size 3 1 (.slice a' n c') n (flat encI xs) ∧ Below w.heap.size w w' := by
 have q22 : ∀ (w : World) (a : Option Addr) (n c n' c' : Nat), (binOp .eql 39 (.slice a n c) (.slice none n' c')).run Tryz.prog w = .ok (.bool a.isNone) w := fun w a n c n' c' => Lib.run_eql_slice_nil w _ _ a n c n' c' Tryz.underlying39
 subst hn
 cases a with
 | none =>
  have hx : xs = [] := by
   cases xs with
   | nil => rfl
   | cons u l => obtain ⟨b, off, e1, _⟩ := aK qA (by decide) hr (j := 0) (by simp); cases e1
  subst hx
  go_enter Tryz.func85, Tryz.ntmps85
  go_wp2
  go_ret
  exact ⟨none, 0, rfl, World.ownsRow_nil _ _ _ _, Below.refl _ _⟩
 | some ad =>
  go_enter Tryz.func85, Tryz.ntmps85
  go_wp2_with (at_builtin; refine fJ rfl _ _ 39 rfl w.heap.size 3 (.int .i64 0) 1 8 Tryz.underlying39 lK rfl (by decide) (by decide) _ _ _ _ rfl (World.ownsRow_made w #[] 0 (Nat.le_refl _) (Nat.zero_le _) (by simp)) (some ad) xs.length cap (flat encI xs) rfl ?q1 ?q2 ?q3 ?q4 ?q5 ?_)
  case q1 => exact flat_length qA xs
  case q2 => exact hr.below (aC _ _)
  case q3 => exact Pv xs
  case q4 => rw [Nat.zero_add]; exact hl
  case q5 => simp
  intro a' c' w1 hown hgrow
  go_wp2
  go_ret
  exact ⟨a', c', rfl, hown, (aC w _).grown hgrow (by simp) (by intro k hk; simp [Value.ownBlock] at hk; omega)⟩
end
section
open Go.RowKit
def JF (z : Zn) (a1 a2 : Option Addr) (n1 n2 c1 c2 : Nat) : Array Value := #[.int .i64 z.f, .int .i64 z.e, .slice a1 n1 c1, .slice a2 n2 c2]
structure lC (W : World) (Z B : Nat) (X : Nat → Prop) (a1 a2 : Option Addr) (n1 n2 c1 c2 : Nat) (z : Zn) : Prop where
 k : ∀ o, W.cell? ⟨B, o, none⟩ = (JF z a1 a2 n1 n2 c1 c2)[o]?
 fz : ∀ o, W.frozen? ⟨B, o, none⟩ = false
 own : eU W Z a1 a2 n1 n2 c1 c2 z
 lt : B < W.heap.size
 xs : ∀ k, X k → k < W.heap.size
 ne : ∀ g, X g → (Value.slice a1 n1 c1).ownBlock ≠ some g ∧ (Value.slice a2 n2 c2).ownBlock ≠ some g
section
variable {W W' : World} {Z B : Nat} {X : Nat → Prop} {a1 a2 : Option Addr} {n1 n2 c1 c2 : Nat} {z : Zn}
theorem lC.below (h : lC W Z B X a1 a2 n1 n2 c1 c2 z) (hb : Below W.heap.size W W') : lC W' Z B X a1 a2 n1 n2 c1 c2 z :=
 ⟨aB h.k h.lt hb, aJ h.fz h.lt hb, h.own.below hb, gI h.lt hb.size, fun k hk => gI (h.xs k hk) hb.size, h.ne⟩
theorem lC.cells (h : lC W Z B X a1 a2 n1 n2 c1 c2 z) : W.cell? ⟨B, 0, none⟩ = some (.int .i64 z.f) ∧ W.cell? ⟨B, 1, none⟩ = some (.int .i64 z.e) ∧ W.cell? ⟨B, 2, none⟩ = some (.slice a1 n1 c1) ∧ W.cell? ⟨B, 3, none⟩ = some (.slice a2 n2 c2) := ⟨h.k 0, h.k 1, h.k 2, h.k 3⟩
theorem lC.far (h : lC W Z B X a1 a2 n1 n2 c1 c2 z) {g : Nat} (hg : X g) (hne : B ≠ g) (i : Nat) (u : Value) : lC (W.setCell ⟨g, i, none⟩ u) Z B X a1 a2 n1 n2 c1 c2 z :=
 ⟨aA h.k hne i u, aG h.fz _ _, h.own.set (h.ne g hg) i u, by simpa using h.lt, fun k hk => by simpa using h.xs k hk, h.ne⟩
theorem lC.far4 (h : lC W Z B X a1 a2 n1 n2 c1 c2 z) {g : Nat} (hg : X g) (hne : B ≠ g) (u0 u1 u2 u3 : Value) : lC ((((W.setCell ⟨g, 0, none⟩ u0).setCell ⟨g, 1, none⟩ u1).setCell ⟨g, 2, none⟩ u2).setCell ⟨g, 3, none⟩ u3) Z B X a1 a2 n1 n2 c1 c2 z :=
 (((h.far hg hne 0 u0).far hg hne 1 u1).far hg hne 2 u2).far hg hne 3 u3
theorem lC.put (h : lC W Z B X a1 a2 n1 n2 c1 c2 z) (hB : X B) (hZ : Z ≤ W.heap.size) (hb : Below W.heap.size W W') {b1 b2 : Option Addr} {m1 m2 d1 d2 : Nat} {y : Zn} (ho : eU W' W.heap.size b1 b2 m1 m2 d1 d2 y) :
  lC ((((W'.setCell ⟨B, 0, none⟩ (.int .i64 y.f)).setCell ⟨B, 1, none⟩ (.int .i64 y.e)).setCell ⟨B, 2, none⟩ (.slice b1 m1 d1)).setCell ⟨B, 3, none⟩ (.slice b2 m2 d2)) Z B X b1 b2 m1 m2 d1 d2 y := by
 have h' := h.below hb
 have nn : ∀ g, X g → (Value.slice b1 m1 d1).ownBlock ≠ some g ∧ (Value.slice b2 m2 d2).ownBlock ≠ some g := fun g hg => ho.ne (.inl (h.xs g hg))
 have nB := nn B hB
 exact ⟨aH (aH (aH (aH h'.k 0 (.int .i64 y.f)) 1 (.int .i64 y.e)) 2 (.slice b1 m1 d1)) 3 (.slice b2 m2 d2), aG (aG (aG (aG h'.fz _ _) _ _) _ _) _ _, ((((ho.base hZ).set nB _ _).set nB _ _).set nB _ _).set nB _ _, by simpa using h'.lt, fun k hk => by simpa using h'.xs k hk, nn⟩
theorem lC.new (h : lC W Z B X a1 a2 n1 n2 c1 c2 z) (hb : Below W.heap.size W W') {Y : Nat → Prop} (hY : ∀ k, Y k → X k ∨ (W.heap.size ≤ k ∧ k < W'.heap.size)) : lC W' Z B Y a1 a2 n1 n2 c1 c2 z := by
 have h' := h.below hb
 refine ⟨h'.k, h'.fz, h'.own, h'.lt, fun k hk => ?_, fun g hg => ?_⟩
 ·rcases hY k hk with h1 | h1
  ·exact h'.xs k h1
  ·exact h1.2
 ·rcases hY g hg with h1 | h1
  ·exact h'.ne g h1
  ·exact h.own.ne (.inr h1.1)
theorem FK {base : Nat} (ho : eU W base a1 a2 n1 n2 c1 c2 z) (hZ : Z ≤ base) (hX : ∀ k, X k → (k < base ∨ W.heap.size ≤ k) ∧ k ≤ W.heap.size) : lC (W.alloc (.cells (JF z a1 a2 n1 n2 c1 c2) 102)) Z W.heap.size X a1 a2 n1 n2 c1 c2 z :=
 ⟨aY W _ _, dK W _ _, (ho.below (aC _ _)).base hZ, by simp, fun k hk => by have := (hX k hk).2; simp; omega, fun g hg => ho.ne (hX g hg).1⟩
end
theorem JG (W : World) {base : Nat} {e : TypeId} {size n : Nat} {xs : List Value} (hb : base ≤ W.heap.size) (hl : xs.length = n * size) (hn : n ≤ maxLen) : (W.alloc (.cells xs.toArray e)).ownsRow base e size (.slice (some ⟨W.heap.size, 0, none⟩) n n) n xs :=
 ⟨hl, .inr ⟨W.heap.size, n, xs.toArray, rfl, hb, heap_alloc_new W _, Nat.le_refl _, hn, by simp [hl], by simp [List.take_of_length_le, hl]⟩⟩
theorem SQ {wx W5 : World} {G N : Nat} {z0 z1 : Zn} {x1 x2 y1 y2 : Option Addr} {m1 m2 d1 d2 k1 k2 e1 e2 least : Nat}
  (r1 : wx.ownsRow 0 102 4 (.slice (some ⟨N, 0, none⟩) 2 2) 2 (flat jY [⟨z0, x1, x2, m1, m2, d1, d2⟩, ⟨z1, y1, y2, k1, k2, e1, e2⟩]))
  (r2 : wx.ownsRow 0 3 1 (.slice (some ⟨N + 1, 0, none⟩) 2 2) 2 (flat fA [least, least]))
  (t0 : eU wx G x1 x2 m1 m2 d1 d2 z0) (t1 : eU wx G y1 y2 k1 k2 e1 e2 z1) (u0 : eU W5 G x1 x2 m1 m2 d1 d2 z0) (u1 : eU W5 G y1 y2 k1 k2 e1 e2 z1) (hs : W5.heap.size = N)
  (n0 : (Value.slice x1 m1 d1).ownBlock ≠ some G ∧ (Value.slice x2 m2 d2).ownBlock ≠ some G) (n1 : (Value.slice y1 k1 e1).ownBlock ≠ some G ∧ (Value.slice y2 k2 e2).ownBlock ≠ some G) (hG : G < N) (hx : N ≤ wx.heap.size) (h : Hp)
  (q0 : h.z0 = z0) (q1 : h.z1 = z1) (q2 : h.m0 = least) (q3 : h.m1 = least) (q4 : h.ls = []) (q5 : h.live = []) :
  kX wx G h ⟨some ⟨N, 0, none⟩, 2, some ⟨N + 1, 0, none⟩, 2, none, 0, none, 0, ⟨z0, x1, x2, m1, m2, d1, d2⟩, ⟨z1, y1, y2, k1, k2, e1, e2⟩, []⟩ := by
 have b0 := u0.o1.lt
 have b1 := u0.o2.lt
 have b2 := u1.o1.lt
 have b3 := u1.o2.lt
 refine ⟨⟨fun r hr => ?_, ?_⟩, fun r hr => ?_, fun r hr s hs' g hg1 hg2 => ?_, fun r hr g hg => ?_, fun r hr e => ?_, fun r hr g hg e => ?_, gI hG hx, Nat.lt_irrefl _, fun k hk => by have : k < G := hk; omega, q0.symm, q1.symm, q4.symm⟩
 ·simp only [Hc.rows, List.map_nil, List.mem_cons, List.not_mem_nil, or_false] at hr
  rcases hr with rfl | rfl | rfl
  ·exact r1
  ·exact ⟨rfl, .inl ⟨rfl, rfl⟩⟩
  ·unfold xK Rs.on; rw [q5]; exact ⟨rfl, .inl ⟨rfl, rfl⟩⟩
 ·simp only [Hc.rows, List.map_nil]
  refine List.Pairwise.cons (fun s hs' g hg1 hg2 => ?_) (List.Pairwise.cons (fun s hs' g hg1 hg2 => ?_) (List.Pairwise.cons (fun s hs' => by simp at hs') List.Pairwise.nil))
  ·simp only [List.mem_cons, List.not_mem_nil, or_false] at hs'
   rcases hs' with rfl | rfl <;> cases hg2
  ·cases hg1
 ·simp only [Hc.reads, List.mem_cons, List.not_mem_nil, or_false] at hr
  rcases hr with rfl | rfl | rfl | rfl | rfl
  ·unfold Ri Rs.on; rw [q2, q3]; exact r2
  ·exact own_base t0.o1 (Nat.zero_le _)
  ·exact own_base t0.o2 (Nat.zero_le _)
  ·exact own_base t1.o1 (Nat.zero_le _)
  ·exact own_base t1.o2 (Nat.zero_le _)
 ·simp only [Hc.rows, List.map_nil, List.mem_cons, List.not_mem_nil, or_false] at hs'
  rcases hs' with rfl | rfl | rfl
  ·obtain rfl : N = g := by simpa [uN, Value.ownBlock] using hg2
   simp only [Hc.reads, List.mem_cons, List.not_mem_nil, or_false] at hr
   rcases hr with rfl | rfl | rfl | rfl | rfl
   ·simp [Ri, Value.ownBlock] at hg1
   ·have := (b0 _ hg1).2; omega
   ·have := (b1 _ hg1).2; omega
   ·have := (b2 _ hg1).2; omega
   ·have := (b3 _ hg1).2; omega
  ·cases hg2
  ·cases hg2
 ·simp only [Hc.rows, List.map_nil, List.mem_cons, List.not_mem_nil, or_false] at hr
  rcases hr with rfl | rfl | rfl
  ·obtain rfl : N = g := by simpa [uN, Value.ownBlock] using hg
   exact ⟨by omega, by omega⟩
  ·cases hg
  ·cases hg
 ·simp only [Hc.reads, List.mem_cons, List.not_mem_nil, or_false] at hr
  rcases hr with rfl | rfl | rfl | rfl | rfl
  ·have : N + 1 = G := by simpa [Ri, Value.ownBlock] using e
   omega
  ·exact n0.1 e
  ·exact n0.2 e
  ·exact n1.1 e
  ·exact n1.2 e
 ·have e : g < G := e
  simp only [Hc.reads, List.mem_cons, List.not_mem_nil, or_false] at hr
  rcases hr with rfl | rfl | rfl | rfl | rfl
  ·have : N + 1 = g := by simpa [Ri, Value.ownBlock] using hg
   omega
  ·have := (b0 _ hg).1; omega
  ·have := (b1 _ hg).1; omega
  ·have := (b2 _ hg).1; omega
  ·have := (b3 _ hg).1; omega
end
end Go.Proofs.YtcmpmobhongkiaaGreatDoor
