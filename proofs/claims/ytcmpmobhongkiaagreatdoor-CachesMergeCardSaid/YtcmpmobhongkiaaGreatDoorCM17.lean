/- texts of this claim, joined. -/
import Derived.Test.YtcmpmobhongkiaaGreatDoorCM0
import Derived.Test.YtcmpmobhongkiaaGreatDoorCM10
import Derived.Test.YtcmpmobhongkiaaGreatDoorCM13
import Derived.Test.YtcmpmobhongkiaaGreatDoorCM15
import Derived.Test.YtcmpmobhongkiaaGreatDoorCM6
set_option linter.unusedVariables false
set_option linter.unusedSimpArgs false
namespace Go.Proofs.YtcmpmobhongkiaaGreatDoor
section
open Go.RowKit

structure Hc where
 az : Option Addr
 cz : Nat
 am : Option Addr
 cm : Nat
 al : Option Addr
 cl : Nat
 av : Option Addr
 cv : Nat
 y0 : Zc
 y1 : Zc
 lc : List Lc
def wB (c : Hc) : Rs := ⟨102, 4, .slice c.az 2 c.cz, 2, flat kK [c.y0, c.y1]⟩
def nR (c : Hc) : Rs := ⟨207, 4, .slice c.al c.lc.length c.cl, c.lc.length, flat bF c.lc⟩
def vC (c : Hc) (h : Hp) : Rs := ⟨63, 3, .slice c.av h.live.length c.cv, h.live.length, flat aO h.live⟩
def jC (r : Lc) : Rs := ⟨3, 1, .slice r.a r.n r.c, r.n, flat fK r.l.p⟩
def Tq (c : Hc) (h : Hp) : Rs := ⟨3, 1, .slice c.am 2 c.cm, 2, flat fK [h.m0, h.m1]⟩
def Na (y : Zc) : Rs := ⟨63, 3, .slice y.a1 y.n1 y.c1, y.n1, flat aO y.z.l⟩
def Nb (y : Zc) : Rs := ⟨3, 1, .slice y.a2 y.n2 y.c2, y.n2, flat fK y.z.y⟩
def Hc.rows (c : Hc) (h : Hp) : List Rs := wB c :: nR c :: vC c h :: c.lc.map jC
def Hc.reads (c : Hc) (h : Hp) : List Rs := [Tq c h, Na c.y0, Nb c.y0, Na c.y1, Nb c.y1]
def Hc.vals (c : Hc) (h : Hp) : Array Value := #[.slice c.az 2 c.cz, .slice c.am 2 c.cm, .int .i64 (h.aF : Int), .slice c.al c.lc.length c.cl, .slice c.av h.live.length c.cv]

structure HR (W : World) (G : Nat) (X : Nat → Prop) (h : Hp) (c : Hc) : Prop where
 own : dA W 0 (c.rows h)
 ro : ∀ r ∈ c.reads h, r.on W 0
 ds : ∀ r ∈ c.reads h, ∀ s ∈ c.rows h, r.off s
 og : ∀ r ∈ c.rows h, ∀ g, r.v.ownBlock = some g → g ≠ G ∧ ¬ X g
 rg : ∀ r ∈ c.reads h, r.v.ownBlock ≠ some G
 rx : ∀ r ∈ c.reads h, ∀ g, r.v.ownBlock = some g → ¬ X g
 gs : G < W.heap.size
 xg : ¬ X G
 xs : ∀ k, X k → k < W.heap.size
 e0 : c.y0.z = h.z0
 e1 : c.y1.z = h.z1
 ll : c.lc.map Lc.l = h.ls
structure HS (W : World) (G : Nat) (X : Nat → Prop) (h : Hp) (c : Hc) : Prop where
 r : HR W G X h c
 k : ∀ o, W.cell? ⟨G, o, none⟩ = (c.vals h)[o]?
 fz : ∀ o, W.frozen? ⟨G, o, none⟩ = false

theorem PL {W : World} {b : Nat} {y : Zc} (h : (Na y).on W b) : y.z.l.length = y.n1 := by
 have h1 := h.1
 unfold Na at h1
 simp only at h1
 rw [flat_length aI] at h1
 omega
theorem PN {W : World} {b : Nat} {y : Zc} (h : (Nb y).on W b) : y.z.y.length = y.n2 := by
 have h1 := h.1
 unfold Nb at h1
 simp only at h1
 rw [flat_length bM] at h1
 omega
theorem sQ {W : World} {b : Nat} {y : Lc} (h : (jC y).on W b) : y.l.p.length = y.n := by
 have h1 := h.1
 unfold jC at h1
 simp only at h1
 rw [flat_length bM] at h1
 omega
section
variable {W W' : World} {G : Nat} {X Y : Nat → Prop} {h : Hp} {c : Hc}
theorem HR.jJ (hs : HR W G X h c) : ∀ r ∈ c.lc, (jC r).on W 0 := fun r hr => hs.own.each _ (by
 unfold Hc.rows
 exact List.mem_cons_of_mem _ (List.mem_cons_of_mem _ (List.mem_cons_of_mem _ (List.mem_map_of_mem hr))))
theorem HR.zs (hs : HR W G X h c) : (wB c).on W 0 := hs.own.each _ (by simp [Hc.rows])
theorem HR.WL (hs : HR W G X h c) : (nR c).on W 0 := hs.own.each _ (by simp [Hc.rows])
theorem HR.lv (hs : HR W G X h c) : (vC c h).on W 0 := hs.own.each _ (by simp [Hc.rows])
theorem HR.mn (hs : HR W G X h c) : (Tq c h).on W 0 := hs.ro _ (by simp [Hc.reads])
theorem HR.l0 (hs : HR W G X h c) : (Na c.y0).on W 0 := hs.ro _ (by simp [Hc.reads])
theorem HR.t0 (hs : HR W G X h c) : (Nb c.y0).on W 0 := hs.ro _ (by simp [Hc.reads])
theorem HR.l1 (hs : HR W G X h c) : (Na c.y1).on W 0 := hs.ro _ (by simp [Hc.reads])
theorem HR.t1 (hs : HR W G X h c) : (Nb c.y1).on W 0 := hs.ro _ (by simp [Hc.reads])
theorem HR.z0 (hs : HR W G X h c) : Dw W c.y0.a1 c.y0.a2 c.y0.n1 c.y0.n2 h.z0 := by
 rw [← hs.e0]
 exact ⟨PL hs.l0, PN hs.t0, aY hs.l0, aY hs.t0⟩
theorem HR.z1 (hs : HR W G X h c) : Dw W c.y1.a1 c.y1.a2 c.y1.n1 c.y1.n2 h.z1 := by
 rw [← hs.e1]
 exact ⟨PL hs.l1, PN hs.t1, aY hs.l1, aY hs.t1⟩
theorem HR.at (hs : HR W G X h c) : HAt W c.az c.am c.al c.av c.lc.length h.live.length c.y0 c.y1 c.lc h :=
 ⟨aY hs.zs, aY hs.mn, aY hs.WL, aY hs.lv, hs.e0, hs.e1, hs.z0, hs.z1, hs.ll, rfl, rfl, fun r hr => ⟨sQ (hs.jJ r hr), aY (hs.jJ r hr)⟩⟩
theorem HR.below (hs : HR W G X h c) (hb : Below W.heap.size W W') : HR W' G X h c :=
 ⟨hs.own.below hb, fun r hr => own_below (hs.ro r hr) hb (Nat.le_refl _), hs.ds, hs.og, hs.rg, hs.rx, gI hs.gs hb.size, hs.xg, fun k hk => gI (hs.xs k hk) hb.size, hs.e0, hs.e1, hs.ll⟩
theorem HS.below (hs : HS W G X h c) (hb : Below W.heap.size W W') : HS W' G X h c :=
 ⟨hs.r.below hb, aC hs.k hs.r.gs hb, aJ hs.fz hs.r.gs hb⟩
theorem HR.sub (hs : HR W G X h c) (hy : ∀ k, Y k → X k) : HR W G Y h c :=
 ⟨hs.own, hs.ro, hs.ds, fun r hr g hg => ⟨(hs.og r hr g hg).1, fun e => (hs.og r hr g hg).2 (hy g e)⟩, hs.rg, fun r hr g hg e => hs.rx r hr g hg (hy g e), hs.gs, fun e => hs.xg (hy _ e), fun k hk => hs.xs k (hy k hk), hs.e0, hs.e1, hs.ll⟩
theorem HS.sub (hs : HS W G X h c) (hy : ∀ k, Y k → X k) : HS W G Y h c := ⟨hs.r.sub hy, hs.k, hs.fz⟩
theorem HR.more (hs : HR W G X h c) (hy : ∀ k, Y k → k < W.heap.size ∧ k ≠ G ∧ (∀ r ∈ c.rows h, r.v.ownBlock ≠ some k) ∧ ∀ r ∈ c.reads h, r.v.ownBlock ≠ some k) : HR W G Y h c :=
 ⟨hs.own, hs.ro, hs.ds, fun r hr g hg => ⟨(hs.og r hr g hg).1, fun e => (hy g e).2.2.1 r hr hg⟩, hs.rg, fun r hr g hg e => (hy g e).2.2.2 r hr hg, hs.gs, fun e => (hy _ e).2.1 rfl, fun k hk => (hy k hk).1, hs.e0, hs.e1, hs.ll⟩
theorem HS.more (hs : HS W G X h c) (hy : ∀ k, Y k → k < W.heap.size ∧ k ≠ G ∧ (∀ r ∈ c.rows h, r.v.ownBlock ≠ some k) ∧ ∀ r ∈ c.reads h, r.v.ownBlock ≠ some k) : HS W G Y h c := ⟨hs.r.more hy, hs.k, hs.fz⟩
theorem HS.new (hs : HS W G X h c) (hb : Below W.heap.size W W') : HS W' G (fun k => X k ∨ (W.heap.size ≤ k ∧ k < W'.heap.size)) h c :=
 (hs.below hb).more fun k hk => by
  rcases hk with hk | ⟨h1, h2⟩
  ·have h3 := hs.r.xs k hk
   exact ⟨gI h3 hb.size, fun e => hs.r.xg (e ▸ hk), fun r hr e => (hs.r.og r hr k e).2 hk, fun r hr e => hs.r.rx r hr k e hk⟩
  ·exact ⟨h2, fun e => by have := hs.r.gs; omega, fun r hr e => by have := (hs.r.own.lt r hr k e).2; omega, fun r hr e => by have := ((hs.r.ro r hr).lt k e).2; omega⟩
theorem HR.lS (hs : HR W G X h c) (i : Nat) (u : Value) : HR (W.setCell ⟨G, i, none⟩ u) G X h c :=
 ⟨hs.own.far (fun r hr e => (hs.og r hr G e).1 rfl) i u, fun r hr => dL (hs.ro r hr) (hs.rg r hr) u, hs.ds, hs.og, hs.rg, hs.rx, by simpa using hs.gs, hs.xg, fun k hk => by simpa using hs.xs k hk, hs.e0, hs.e1, hs.ll⟩
theorem HS.far (hs : HS W G X h c) {g : Nat} (hx : X g) (i : Nat) (u : Value) : HS (W.setCell ⟨g, i, none⟩ u) G X h c := by
 have hne : G ≠ g := fun e => hs.r.xg (e ▸ hx)
 exact ⟨⟨hs.r.own.far (fun r hr e => (hs.r.og r hr g e).2 hx) i u, fun r hr => dL (hs.r.ro r hr) (fun e => hs.r.rx r hr g e hx) u, hs.r.ds, hs.r.og, hs.r.rg, hs.r.rx, by simpa using hs.r.gs, hs.r.xg, fun k hk => by simpa using hs.r.xs k hk, hs.r.e0, hs.r.e1, hs.r.ll⟩, aA hs.k hne i u, aH hs.fz _ _⟩
end
end
section
open Go.RowKit

def put4 (W : World) (g o : Nat) (u0 u1 u2 u3 : Value) : World := (((W.setCell ⟨g, o, none⟩ u0).setCell ⟨g, o + 1, none⟩ u1).setCell ⟨g, o + 2, none⟩ u2).setCell ⟨g, o + 3, none⟩ u3
section
variable {W W1 : World} {G : Nat} {X : Nat → Prop} {h : Hp} {c : Hc}
theorem zH {base : Nat} {e : TypeId} {size : Nat} {v : Value} {n : Nat} {xs : List Value} (h : W.ownsRow base e size v n xs) {g : Nat} (hb : v.ownBlock ≠ some g) (o : Nat) (u0 u1 u2 u3 : Value) : (put4 W g o u0 u1 u2 u3).ownsRow base e size v n xs :=
 dL (dL (dL (dL h hb u0) hb u1) hb u2) hb u3
theorem Safe.put4 (g o : Nat) (u0 u1 u2 u3 : Value) (hg : ¬ X g) : Safe X W (put4 W g o u0 u1 u2 u3) := ((((Safe.refl X W).set hg o u0).set hg (o + 1) u1).set hg (o + 2) u2).set hg (o + 3) u3
theorem dA.put4 {jI : Nat} {r : Rs} {rs : List Rs} (h : dA W jI (r :: rs)) {g c : Nat} (hv : r.v = .slice (some ⟨g, 0, none⟩) r.n c) (o : Nat) (u0 u1 u2 u3 : Value) (h0 : u0.oneCell' = true) (h1 : u1.oneCell' = true) (h2 : u2.oneCell' = true) (h3 : u3.oneCell' = true) :
  dA (put4 W g o u0 u1 u2 u3) jI ({ r with xs := (((r.xs.set o u0).set (o + 1) u1).set (o + 2) u2).set (o + 3) u3 } :: rs) := by
 have k0 := h.cell (i := 0) (by simp) (g := g) (c := c) hv o u0 h0
 have k1 := k0.cell (i := 0) (by simp) (g := g) (c := c) hv (o + 1) u1 h1
 have k2 := k1.cell (i := 0) (by simp) (g := g) (c := c) hv (o + 2) u2 h2
 have k3 := k2.cell (i := 0) (by simp) (g := g) (c := c) hv (o + 3) u3 h3
 exact k3
theorem PO {b g : Nat} {A : Array Value} (h : ∀ o, W.cell? ⟨b, o, none⟩ = A[o]?) (hne : b ≠ g) (p : Nat) (u0 u1 u2 u3 : Value) (o : Nat) : (put4 W g p u0 u1 u2 u3).cell? ⟨b, o, none⟩ = A[o]? :=
 aA (aA (aA (aA h hne p u0) hne (p + 1) u1) hne (p + 2) u2) hne (p + 3) u3 o
theorem PS {b g : Nat} (h : ∀ o, W.frozen? ⟨b, o, none⟩ = false) (p : Nat) (u0 u1 u2 u3 : Value) (o : Nat) : (put4 W g p u0 u1 u2 u3).frozen? ⟨b, o, none⟩ = false :=
 aH (aH (aH (aH h _ u0) _ u1) _ u2) _ u3 o
theorem Cj (g p : Nat) (u0 u1 u2 u3 : Value) : (put4 W g p u0 u1 u2 u3).heap.size = W.heap.size := by unfold put4; simp

def Hc.zone (c : Hc) (i : Nat) : Zc := if i = 0 then c.y0 else c.y1
def Hc.dI (c : Hc) (i : Nat) (y : Zc) : Hc := if i = 0 then { c with y0 := y } else { c with y1 := y }
theorem HR.zI (hs : HR W G X h c) : ∃ g, c.az = some ⟨g, 0, none⟩ ∧ g < W.heap.size ∧ g ≠ G ∧ ¬ X g ∧ ∀ j, j < 8 → W.frozen? ⟨g, j, none⟩ = false := by
 obtain ⟨g, v, h1, _, h2, _, _⟩ := eF hs.zs 0 (by simp [wB, flat, kK])
 have h3 : (wB c).v.ownBlock = some g := by unfold wB; rw [h1]; rfl
 have h4 := hs.og (wB c) (by simp [Hc.rows]) g h3
 refine ⟨g, h1, h2, h4.1, h4.2, fun j hj => ?_⟩
 obtain ⟨g', v', h5, _, _, _, h6⟩ := eF hs.zs j (by simp [wB, flat, kK]; omega)
 rw [h1] at h5
 obtain rfl : g = g' := by simpa using h5
 exact h6

theorem HS.YZ (hs : HS W G X h c) (hb : Below W.heap.size W W1) {i : Nat} (hi : i < 2) {z' : Zn} {a1 a2 : Option Addr} {n1 n2 c1 c2 : Nat} (hz : fG W1 W.heap.size a1 a2 n1 n2 c1 c2 z') {g : Nat} (hg : c.az = some ⟨g, 0, none⟩) :
  HS (put4 W1 g (i * 4) (vI z'.f) (vI z'.e) (.slice a1 n1 c1) (.slice a2 n2 c2)) G X (h.iL i z') (c.dI i ⟨z', a1, a2, n1, n2, c1, c2⟩) ∧ Safe X W (put4 W1 g (i * 4) (vI z'.f) (vI z'.e) (.slice a1 n1 c1) (.slice a2 n2 c2)) := by
 have hs1 := hs.below hb
 obtain ⟨g', hg1, hgs, Za, Zb, _⟩ := hs.r.zI
 obtain rfl : g = g' := by rw [hg] at hg1; simpa using hg1
 have hzb : (wB c).v.ownBlock = some g := by unfold wB; rw [hg]; rfl
 have hzm : wB c ∈ c.rows h := by simp [Hc.rows]
 have hne := hz.ne (g := g) (.inl hgs)
 have rO := hz.ne (g := G) (.inl hs.r.gs)
 have hlive : (h.iL i z').live = h.live := by unfold Hp.iL; split <;> rfl
 have hls : (h.iL i z').ls = h.ls := by unfold Hp.iL; split <;> rfl
 have hcp : (h.iL i z').aF = h.aF := by unfold Hp.iL; split <;> rfl
 have hm0 : (h.iL i z').m0 = h.m0 := by unfold Hp.iL; split <;> rfl
 have hm1 : (h.iL i z').m1 = h.m1 := by unfold Hp.iL; split <;> rfl
 have hrows : (c.dI i ⟨z', a1, a2, n1, n2, c1, c2⟩).rows (h.iL i z') = { wB c with xs := (((((wB c).xs.set (i * 4) (vI z'.f)).set (i * 4 + 1) (vI z'.e)).set (i * 4 + 2) (.slice a1 n1 c1)).set (i * 4 + 3) (.slice a2 n2 c2)) } :: nR c :: vC c h :: c.lc.map jC := by
  unfold Hc.rows
  have e1 : vC (c.dI i ⟨z', a1, a2, n1, n2, c1, c2⟩) (h.iL i z') = vC c h := by unfold vC; rw [hlive]; unfold Hc.dI; split <;> rfl
  have e2 : nR (c.dI i ⟨z', a1, a2, n1, n2, c1, c2⟩) = nR c := by unfold Hc.dI; split <;> rfl
  have e3 : (c.dI i ⟨z', a1, a2, n1, n2, c1, c2⟩).lc = c.lc := by unfold Hc.dI; split <;> rfl
  rw [e1, e2, e3]
  congr 1
  obtain rfl | rfl : i = 0 ∨ i = 1 := by omega
  ·rfl
  ·rfl
 have hreads : ∀ r ∈ (c.dI i ⟨z', a1, a2, n1, n2, c1, c2⟩).reads (h.iL i z'), r ∈ c.reads h ∨ r = Na ⟨z', a1, a2, n1, n2, c1, c2⟩ ∨ r = Nb ⟨z', a1, a2, n1, n2, c1, c2⟩ := fun r hr => by
  have e1 : Tq (c.dI i ⟨z', a1, a2, n1, n2, c1, c2⟩) (h.iL i z') = Tq c h := by unfold Tq; rw [hm0, hm1]; unfold Hc.dI; split <;> rfl
  unfold Hc.reads at hr ⊢
  rw [e1] at hr
  unfold Hc.dI at hr
  obtain rfl | rfl : i = 0 ∨ i = 1 := by omega
  ·simp only [if_true, List.mem_cons, List.not_mem_nil, or_false] at hr ⊢
   rcases hr with h | h | h | h | h <;> simp [h]
  ·simp only [show ¬ (1 : Nat) = 0 by omega, if_false, List.mem_cons, List.not_mem_nil, or_false] at hr ⊢
   rcases hr with h | h | h | h | h <;> simp [h]
 have hmem : ∀ s ∈ (c.dI i ⟨z', a1, a2, n1, n2, c1, c2⟩).rows (h.iL i z'), ∃ s0 ∈ c.rows h, s0.v = s.v := fun s hs' => by
  rw [hrows, List.mem_cons] at hs'
  rcases hs' with rfl | hs'
  ·exact ⟨wB c, hzm, rfl⟩
  ·exact ⟨s, by unfold Hc.rows; exact List.mem_cons_of_mem _ hs', rfl⟩
 refine ⟨⟨⟨?_, fun r hr => ?_, fun r hr s hs' => ?_, fun r hr g' hg' => ?_, fun r hr => ?_, fun r hr g' hg' hx => ?_, by rw [Cj]; exact hs1.r.gs, hs.r.xg, fun k hk => by rw [Cj]; exact hs1.r.xs k hk, ?_, ?_, ?_⟩, ?_, PS hs1.fz _ _ _ _ _⟩, (Safe.fP hb).trans (.put4 _ _ _ _ _ _ Zb)⟩
 ·rw [hrows]
  have h1 := hs1.r.own
  unfold Hc.rows at h1
  exact h1.put4 (c := c.cz) (by unfold wB; rw [hg]) (i * 4) _ _ _ _ rfl rfl rfl rfl
 ·rcases hreads r hr with h1 | rfl | rfl
  ·exact zH (hs1.r.ro r h1) (fun e => hs.r.ds r h1 _ hzm g e hzb) _ _ _ _ _
  ·exact zH (own_base hz.o1 (Nat.zero_le _)) hne.1 _ _ _ _ _
  ·exact zH (own_base hz.o2 (Nat.zero_le _)) hne.2 _ _ _ _ _
 ·obtain ⟨s0, hs0, hv⟩ := hmem s hs'
  intro g' h1 h2
  rw [← hv] at h2
  rcases hreads r hr with h3 | rfl | rfl
  ·exact hs.r.ds r h3 s0 hs0 g' h1 h2
  ·have h4 := (hz.o1.lt g' h1).1
   have h5 := (hs.r.own.lt s0 hs0 g' h2).2
   omega
  ·have h4 := (hz.o2.lt g' h1).1
   have h5 := (hs.r.own.lt s0 hs0 g' h2).2
   omega
 ·obtain ⟨s0, hs0, hv⟩ := hmem r hr
  rw [← hv] at hg'
  exact hs.r.og s0 hs0 g' hg'
 ·rcases hreads r hr with h3 | rfl | rfl
  ·exact hs.r.rg r h3
  ·exact rO.1
  ·exact rO.2
 ·rcases hreads r hr with h3 | rfl | rfl
  ·exact hs.r.rx r h3 g' hg' hx
  ·have h4 := (hz.o1.lt g' hg').1
   have h5 := hs.r.xs g' hx
   omega
  ·have h4 := (hz.o2.lt g' hg').1
   have h5 := hs.r.xs g' hx
   omega
 ·have := hs.r.e0
  unfold Hc.dI Hp.iL
  obtain rfl | rfl : i = 0 ∨ i = 1 := by omega
  ·rfl
  ·exact this
 ·have := hs.r.e1
  unfold Hc.dI Hp.iL
  obtain rfl | rfl : i = 0 ∨ i = 1 := by omega
  ·exact this
  ·rfl
 ·have := hs.r.ll
  rw [hls, ← this]
  unfold Hc.dI
  split <;> rfl
 ·have h1 := PO hs1.k (fun e => Za e.symm) (i * 4) (vI z'.f) (vI z'.e) (.slice a1 n1 c1) (.slice a2 n2 c2)
  have h2 : (c.dI i ⟨z', a1, a2, n1, n2, c1, c2⟩).vals (h.iL i z') = c.vals h := by
   unfold Hc.vals
   rw [hlive, hcp]
   unfold Hc.dI
   split <;> rfl
  rw [h2]
  exact h1
end
end
section
open Go.RowKit

section
variable {W W' : World} {G : Nat} {X : Nat → Prop} {h : Hp} {c : Hc}
structure Dis (c : Hc) (h : Hp) : Prop where
 zl : (wB c).off (nR c)
 zv : (wB c).off (vC c h)
 zp : ∀ r ∈ c.lc.map jC, (wB c).off r
 lv : (nR c).off (vC c h)
 lp : ∀ r ∈ c.lc.map jC, (nR c).off r
 vp : ∀ r ∈ c.lc.map jC, (vC c h).off r
theorem HR.Ci (hs : HR W G X h c) : Dis c h := by
 have h1 := hs.own.Ci
 unfold Hc.rows at h1
 rw [List.pairwise_cons, List.pairwise_cons, List.pairwise_cons] at h1
 obtain ⟨a, b, d, _⟩ := h1
 exact ⟨a _ (by simp), a _ (by simp), fun r hr => a r (by simp only [List.mem_cons]; exact .inr (.inr hr)), b _ (by simp), fun r hr => b r (List.mem_cons_of_mem _ hr), fun r hr => d r hr⟩
theorem kG {c : Hc} {h : Hp} {r : Rs} (hr : r ∈ c.lc.map jC) : r ∈ c.rows h := by
 unfold Hc.rows
 exact List.mem_cons_of_mem _ (List.mem_cons_of_mem _ (List.mem_cons_of_mem _ hr))
theorem vF (c : Hc) (h : Hp) : wB c ∈ c.rows h := by simp [Hc.rows]
theorem gZ (c : Hc) (h : Hp) : nR c ∈ c.rows h := by simp [Hc.rows]
theorem iQ (c : Hc) (h : Hp) : vC c h ∈ c.rows h := by simp [Hc.rows]

structure FI (W : World) (G : Nat) (X : Nat → Prop) (h : Hp) (c : Hc) (g : Nat) : Prop where
 rows : ∀ r ∈ c.rows h, r.v.ownBlock ≠ some g
 reads : ∀ r ∈ c.reads h, r.v.ownBlock ≠ some g
 ne : g ≠ G
 x : ¬ X g
theorem HR.fresh (hs : HR W G X h c) {g : Nat} (hg : W.heap.size ≤ g) : FI W' G X h c g :=
 ⟨fun r hr e => by have := (hs.own.lt r hr g e).2; omega, fun r hr e => by have := ((hs.ro r hr).lt g e).2; omega, fun e => by have := hs.gs; omega, fun e => by have := hs.xs g e; omega⟩
theorem HR.lists (hs : HR W G X h c) (hg : W.grownBy W' (nR c).v.ownBlock) {al' : Option Addr} {cl' : Nat} {oV : List Lc} (ho : W'.ownsRow 0 207 4 (.slice al' oV.length cl') oV.length (flat bF oV))
  (hb : ∀ k, (Value.slice al' oV.length cl').ownBlock = some k → (nR c).v.ownBlock = some k ∨ W.heap.size ≤ k) (hp : dA W 0 (oV.map jC)) (hq : ∀ r ∈ oV.map jC, ∀ g, r.v.ownBlock = some g → (∃ r0 ∈ c.lc.map jC, r0.v.ownBlock = some g) ∨ FI W G X h c g) :
  HR W' G X { h with ls := oV.map Lc.l } { c with al := al', cl := cl', lc := oV } := by
 have D := hs.Ci
 have hlv : vC { c with al := al', cl := cl', lc := oV } { h with ls := oV.map Lc.l } = vC c h := rfl
 have hzs : wB { c with al := al', cl := cl', lc := oV } = wB c := rfl
 have hnew : ∀ s ∈ c.rows h, s ≠ nR c → (nR c).off s → ∀ k, (Value.slice al' oV.length cl').ownBlock = some k → s.v.ownBlock ≠ some k := fun s hs1 _ hoff k hk e => by
  rcases hb k hk with h1 | h1
  ·exact hoff k h1 e
  ·have := (hs.own.lt s hs1 k e).2; omega
 have hrows : ({ c with al := al', cl := cl', lc := oV } : Hc).rows { h with ls := oV.map Lc.l } = wB c :: nR { c with al := al', cl := cl', lc := oV } :: vC c h :: oV.map jC := rfl
 have hnl : ∀ s ∈ c.rows h, (nR c).off s → ∀ k, (Value.slice al' oV.length cl').ownBlock = some k → s.v.ownBlock ≠ some k := fun s hs1 hoff k hk e => by
  rcases hb k hk with h1 | h1
  ·exact hoff k h1 e
  ·have := (hs.own.lt s hs1 k e).2; omega
 have hz1 : (wB c).on W' 0 := iF hs.zs hg (fun k hk e => D.zl k hk e)
 have hv1 : (vC c h).on W' 0 := iF hs.lv hg (fun k hk e => D.lv k e hk)
 have hp1 : ∀ r ∈ oV.map jC, r.on W' 0 := fun r hr => iF (hp.each r hr) hg (fun k hk e => by
  rcases hq r hr k hk with ⟨r0, hr0, h1⟩ | h1
  ·exact D.lp r0 hr0 k e h1
  ·exact h1.rows _ (gZ c h) e)
 have hmem : ∀ r ∈ oV.map jC, ∀ s : Rs, (s ∈ c.rows h ∨ s ∈ c.reads h) → (∀ r0 ∈ c.lc.map jC, s.off r0) → s.off r := fun r hr s hsm hso g h1 h2 => by
  rcases hq r hr g h2 with ⟨r0, hr0, h3⟩ | h3
  ·exact hso r0 hr0 g h1 h3
  ·rcases hsm with h4 | h4
   ·exact h3.rows _ h4 h1
   ·exact h3.reads _ h4 h1
 refine ⟨⟨fun r hr => ?_, ?_⟩, fun r hr => iF (hs.ro r hr) hg (fun k hk e => hs.ds r hr _ (gZ c h) k hk e), fun r hr s hs' => ?_, fun r hr g hg' => ?_, hs.rg, hs.rx, gI hs.gs hg.size, hs.xg, fun k hk => gI (hs.xs k hk) hg.size, hs.e0, hs.e1, rfl⟩
 ·rw [hrows, List.mem_cons, List.mem_cons, List.mem_cons] at hr
  rcases hr with rfl | rfl | rfl | hr
  ·exact hz1
  ·exact ho
  ·exact hv1
  ·exact hp1 r hr
 ·rw [hrows, List.pairwise_cons, List.pairwise_cons, List.pairwise_cons]
  refine ⟨fun r hr => ?_, fun r hr => ?_, fun r hr => hmem r hr _ (.inl (iQ c h)) D.vp, hp.Ci⟩
  ·rw [List.mem_cons, List.mem_cons] at hr
   rcases hr with rfl | rfl | hr
   ·exact fun g h1 h2 => hnl _ (vF c h) D.zl.symm g h2 h1
   ·exact D.zv
   ·exact hmem r hr _ (.inl (vF c h)) D.zp
  ·rw [List.mem_cons] at hr
   rcases hr with rfl | hr
   ·exact fun g h1 h2 => hnl _ (iQ c h) D.lv g h1 h2
   ·intro g h1 h2
    rcases hq r hr g h2 with ⟨r0, hr0, h3⟩ | h3
    ·exact hnl r0 (kG hr0) (D.lp r0 hr0) g h1 h3
    ·rcases hb g h1 with h4 | h4
     ·exact h3.rows _ (gZ c h) h4
     ·have := ((hp.each r hr).lt g h2).2; omega
 ·rw [hrows, List.mem_cons, List.mem_cons, List.mem_cons] at hs'
  have hr2 : r ∈ c.reads h := hr
  rcases hs' with rfl | rfl | rfl | hs'
  ·exact hs.ds r hr2 _ (vF c h)
  ·intro g h1 h2
   rcases hb g h2 with h3 | h3
   ·exact hs.ds r hr2 _ (gZ c h) g h1 h3
   ·have := ((hs.ro r hr2).lt g h1).2; omega
  ·exact hs.ds r hr2 _ (iQ c h)
  ·exact hmem s hs' r (.inr hr2) fun r0 hr0 => hs.ds r hr2 r0 (kG hr0)
 ·rw [hrows, List.mem_cons, List.mem_cons, List.mem_cons] at hr
  rcases hr with rfl | rfl | rfl | hr
  ·exact hs.og _ (vF c h) g hg'
  ·rcases hb g hg' with h3 | h3
   ·exact hs.og _ (gZ c h) g h3
   ·exact ⟨fun e => by have := hs.gs; omega, fun e => by have := hs.xs g e; omega⟩
  ·exact hs.og _ (iQ c h) g hg'
  ·rcases hq r hr g hg' with ⟨r0, hr0, h3⟩ | h3
   ·exact hs.og r0 (kG hr0) g h3
   ·exact ⟨h3.ne, h3.x⟩
theorem HS.lists (hs : HS W G X h c) (hg : W.grownBy W' (nR c).v.ownBlock) {al' : Option Addr} {cl' : Nat} {oV : List Lc} (ho : W'.ownsRow 0 207 4 (.slice al' oV.length cl') oV.length (flat bF oV))
  (hb : ∀ k, (Value.slice al' oV.length cl').ownBlock = some k → (nR c).v.ownBlock = some k ∨ W.heap.size ≤ k) (hp : dA W 0 (oV.map jC)) (hq : ∀ r ∈ oV.map jC, ∀ g, r.v.ownBlock = some g → (∃ r0 ∈ c.lc.map jC, r0.v.ownBlock = some g) ∨ FI W G X h c g) :
  HS (W'.setCell ⟨G, 3, none⟩ (.slice al' oV.length cl')) G X { h with ls := oV.map Lc.l } { c with al := al', cl := cl', lc := oV } ∧ Safe X W (W'.setCell ⟨G, 3, none⟩ (.slice al' oV.length cl')) := by
 have hne : (nR c).v.ownBlock ≠ some G := fun e => (hs.r.og _ (gZ c h) G e).1 rfl
 have h1 := bH hs.k hs.r.gs hg (fun e => hne e.symm)
 refine ⟨⟨(hs.r.lists hg ho hb hp hq).lS _ _, ?_, aH (bI hs.fz hs.r.gs hg (fun e => hne e.symm)) _ _⟩, (Safe.jO hg (fun k hk e => (hs.r.og _ (gZ c h) k e.symm).2 hk)).set hs.r.xg _ _⟩
 exact aG h1 3 (.slice al' oV.length cl')
end
theorem Jb (l : List Lc) (i : Nat) (hi : i < l.length) (r : Lc) (h0 : r.l.c = l[i].l.c ∧ r.l.z = l[i].l.z ∧ r.l.t = l[i].l.t) : (flat bF l).set (i * 4 + 3) (.slice r.a r.n r.c) = flat bF (l.set i r) := by
 apply List.ext_getElem?
 intro j
 by_cases hj : j < l.length * 4
 ·have hd : j / 4 < l.length := by omega
  have hm : j % 4 < 4 := by omega
  have hjj : j = j / 4 * 4 + j % 4 := by omega
  have g1 := flat_get aP (l.set i r) (j / 4) (by simpa using hd) (j % 4) hm
  have g2 := flat_get aP l (j / 4) hd (j % 4) hm
  rw [← hjj] at g1 g2
  rw [g1, List.getElem?_set]
  by_cases he : i * 4 + 3 = j
  ·have e1 : j / 4 = i := by omega
   have e2 : j % 4 = 3 := by omega
   rw [if_pos he, if_pos (by rw [flat_length aP]; omega)]
   simp only [e1, e2, List.getElem_set_self]
   rfl
  ·rw [if_neg he, g2]
   by_cases e1 : j / 4 = i
   ·subst e1
    simp only [List.getElem_set_self]
    have e2 : j % 4 = 0 ∨ j % 4 = 1 ∨ j % 4 = 2 := by omega
    obtain ⟨a0, a1, a2⟩ := h0
    rcases e2 with e2 | e2 | e2 <;> rw [e2] <;> simp [bF, a0, a1, a2]
   ·rw [List.getElem_set_ne (fun e => e1 e.symm)]
 ·rw [List.getElem?_eq_none (by rw [List.length_set, flat_length aP]; omega), List.getElem?_eq_none (by rw [flat_length aP, List.length_set]; omega)]
section
variable {W W' : World} {G : Nat} {X : Nat → Prop} {h : Hp} {c : Hc}
theorem HR.oW (hs : HR W G X h c) (hn : 0 < c.lc.length) : ∃ g, c.al = some ⟨g, 0, none⟩ ∧ g < W.heap.size ∧ g ≠ G ∧ ¬ X g ∧ ∀ j, j < c.lc.length * 4 → W.frozen? ⟨g, j, none⟩ = false := by
 obtain ⟨g, v, h1, _, h2, _, _⟩ := eF hs.WL 0 (by show 0 < (flat bF c.lc).length; rw [flat_length aP]; omega)
 have h3 : (nR c).v.ownBlock = some g := by unfold nR; rw [h1]; rfl
 have h4 := hs.og (nR c) (gZ c h) g h3
 refine ⟨g, h1, h2, h4.1, h4.2, fun j hj => ?_⟩
 obtain ⟨g', v', h5, _, _, _, h6⟩ := eF hs.WL j (by show j < (flat bF c.lc).length; rw [flat_length aP]; omega)
 rw [h1] at h5
 obtain rfl : g = g' := by simpa using h5
 exact h6
theorem HS.page (hs : HS W G X h c) {i : Nat} (hi : i < c.lc.length) (hg : W.grownBy W' (jC c.lc[i]).v.ownBlock) {r : Lc} (ho : (jC r).on W' 0) (h0 : r.l.c = c.lc[i].l.c ∧ r.l.z = c.lc[i].l.z ∧ r.l.t = c.lc[i].l.t)
  (hb : ∀ k, (jC r).v.ownBlock = some k → (jC c.lc[i]).v.ownBlock = some k ∨ W.heap.size ≤ k) {g : Nat} (hal : c.al = some ⟨g, 0, none⟩) :
  HS (W'.setCell ⟨g, i * 4 + 3, none⟩ (.slice r.a r.n r.c)) G X { h with ls := h.ls.set i r.l } { c with lc := c.lc.set i r } ∧ Safe X W (W'.setCell ⟨g, i * 4 + 3, none⟩ (.slice r.a r.n r.c)) := by
 have D := hs.r.Ci
 have hpm : jC c.lc[i] ∈ c.lc.map jC := List.mem_map_of_mem (gL hi)
 obtain ⟨g', hg1, hgs, Za, Zb, _⟩ := hs.r.oW (by omega)
 obtain rfl : g = g' := by rw [hal] at hg1; simpa using hg1
 have hlb : (nR c).v.ownBlock = some g := by unfold nR; rw [hal]; rfl
 have hne : (jC c.lc[i]).v.ownBlock ≠ some G := fun e => (hs.r.og _ (kG hpm) G e).1 rfl
 have hneg : (jC c.lc[i]).v.ownBlock ≠ some g := fun e => D.lp _ hpm g hlb e
 have hi3 : 3 + i < (c.rows h).length := by simp [Hc.rows]; omega
 have hri : (c.rows h)[3 + i] = jC c.lc[i] := by
  have : (c.rows h)[3 + i]? = some (jC c.lc[i]) := by
   rw [show 3 + i = i + 3 by omega]
   simp [Hc.rows, hi]
  exact (List.getElem?_eq_some_iff.1 this).2
 have k1 := hs.r.own.grown hi3 (W' := W') (r' := jC r) (by rw [hri]; exact hg) ho (by rw [hri]; exact hb)
 have e1 : (c.rows h).set (3 + i) (jC r) = wB c :: nR c :: vC c h :: (c.lc.set i r).map jC := by
  rw [show 3 + i = i + 3 by omega, List.map_set]
  rfl
 rw [e1] at k1
 have k2 := k1.cell (i := 1) (by simp) (g := g) (c := c.cl) (by show (nR c).v = _; unfold nR; rw [hal]; rfl) (i * 4 + 3) (.slice r.a r.n r.c) rfl
 have e2 : (wB c :: nR c :: vC c h :: (c.lc.set i r).map jC).set 1 { (wB c :: nR c :: vC c h :: (c.lc.set i r).map jC)[1] with xs := ((wB c :: nR c :: vC c h :: (c.lc.set i r).map jC)[1]).xs.set (i * 4 + 3) (.slice r.a r.n r.c) } = ({ c with lc := c.lc.set i r } : Hc).rows { h with ls := h.ls.set i r.l } := by
  unfold Hc.rows
  have e3 : nR { c with lc := c.lc.set i r } = { nR c with xs := (nR c).xs.set (i * 4 + 3) (.slice r.a r.n r.c) } := by
   unfold nR
   simp only [List.length_set]
   rw [← Jb c.lc i hi r h0]
  rw [e3]
  rfl
 rw [e2] at k2
 have hmem : ∀ s ∈ ({ c with lc := c.lc.set i r } : Hc).rows { h with ls := h.ls.set i r.l }, (∃ s0 ∈ c.rows h, s0.v = s.v) ∨ s = jC r := fun s hs' => by
  rw [← e2] at hs'
  rcases List.mem_or_eq_of_mem_set hs' with h1 | h1
  ·rw [List.mem_cons, List.mem_cons, List.mem_cons] at h1
   rcases h1 with h1 | h1 | h1 | h1
   ·exact .inl ⟨_, vF c h, by rw [h1]⟩
   ·exact .inl ⟨_, gZ c h, by rw [h1]⟩
   ·exact .inl ⟨_, iQ c h, by rw [h1]⟩
   ·rw [List.map_set] at h1
    rcases List.mem_or_eq_of_mem_set h1 with h2 | h2
    ·exact .inl ⟨s, kG h2, rfl⟩
    ·exact .inr h2
  ·exact .inl ⟨_, gZ c h, by rw [h1]; rfl⟩
 have h1 := bH hs.k hs.r.gs hg (fun e => hne e.symm)
 refine ⟨⟨⟨k2, fun r1 hr => dL (iF (hs.r.ro r1 hr) hg (fun k hk e => hs.r.ds r1 hr _ (kG hpm) k hk e)) (fun e => hs.r.ds r1 hr _ (gZ c h) g e hlb) _, fun r1 hr s hs' k hk1 hk2 => ?_, fun s hs' k hk => ?_, hs.r.rg, hs.r.rx, by simpa using gI hs.r.gs hg.size, hs.r.xg, fun k hk => by simpa using gI (hs.r.xs k hk) hg.size, hs.r.e0, hs.r.e1, ?_⟩, ?_, aH (bI hs.fz hs.r.gs hg (fun e => hne e.symm)) _ _⟩, (Safe.jO hg (fun k hk e => (hs.r.og _ (kG hpm) k e.symm).2 hk)).set Zb _ _⟩
 ·rcases hmem s hs' with ⟨s0, hs0, hv⟩ | rfl
  ·exact hs.r.ds r1 hr s0 hs0 k hk1 (by rw [hv]; exact hk2)
  ·rcases hb k hk2 with h3 | h3
   ·exact hs.r.ds r1 hr _ (kG hpm) k hk1 h3
   ·have := ((hs.r.ro r1 hr).lt k hk1).2; omega
 ·rcases hmem s hs' with ⟨s0, hs0, hv⟩ | rfl
  ·exact hs.r.og s0 hs0 k (by rw [hv]; exact hk)
  ·rcases hb k hk with h3 | h3
   ·exact hs.r.og _ (kG hpm) k h3
   ·exact ⟨fun e => by have := hs.r.gs; omega, fun e => by have := hs.r.xs k e; omega⟩
 ·rw [List.map_set, hs.r.ll]
 ·have h2 : ({ c with lc := c.lc.set i r } : Hc).vals { h with ls := h.ls.set i r.l } = c.vals h := by
   unfold Hc.vals
   simp only [List.length_set]
  rw [h2]
  exact aA h1 (fun e => Za e.symm) _ _
theorem HS.away (hs : HS W G X h c) (hg : W.grownBy W' (vC c h).v.ownBlock) {oK : Option Addr} {cv' : Nat} {v' : List Bk} (ho : W'.ownsRow 0 63 3 (.slice oK v'.length cv') v'.length (flat aO v'))
  (hb : ∀ k, (Value.slice oK v'.length cv').ownBlock = some k → (vC c h).v.ownBlock = some k ∨ W.heap.size ≤ k) :
  HS (W'.setCell ⟨G, 4, none⟩ (.slice oK v'.length cv')) G X { h with live := v' } { c with av := oK, cv := cv' } ∧ Safe X W (W'.setCell ⟨G, 4, none⟩ (.slice oK v'.length cv')) := by
 have hne : (vC c h).v.ownBlock ≠ some G := fun e => (hs.r.og _ (iQ c h) G e).1 rfl
 have h1 := bH hs.k hs.r.gs hg (fun e => hne e.symm)
 have k1 := hs.r.own.grown (i := 2) (by simp [Hc.rows]) (W' := W') (r' := vC { c with av := oK, cv := cv' } { h with live := v' }) hg ho hb
 have hmem : ∀ s ∈ ({ c with av := oK, cv := cv' } : Hc).rows { h with live := v' }, s ∈ c.rows h ∨ s = vC { c with av := oK, cv := cv' } { h with live := v' } := fun s hs' => List.mem_or_eq_of_mem_set (l := c.rows h) (i := 2) hs'
 refine ⟨⟨(⟨k1, fun r hr => iF (hs.r.ro r hr) hg (fun k hk e => hs.r.ds r hr _ (iQ c h) k hk e), fun r1 hr s hs' k hk1 hk2 => ?_, fun s hs' k hk => ?_, hs.r.rg, hs.r.rx, gI hs.r.gs hg.size, hs.r.xg, fun k hk => gI (hs.r.xs k hk) hg.size, hs.r.e0, hs.r.e1, hs.r.ll⟩ : HR W' G X { h with live := v' } { c with av := oK, cv := cv' }).lS _ _, ?_, aH (bI hs.fz hs.r.gs hg (fun e => hne e.symm)) _ _⟩, (Safe.jO hg (fun k hk e => (hs.r.og _ (iQ c h) k e.symm).2 hk)).set hs.r.xg _ _⟩
 ·have hr2 : r1 ∈ c.reads h := hr
  rcases hmem s hs' with h3 | rfl
  ·exact hs.r.ds r1 hr2 s h3 k hk1 hk2
  ·rcases hb k hk2 with h3 | h3
   ·exact hs.r.ds r1 hr2 _ (iQ c h) k hk1 h3
   ·have := ((hs.r.ro r1 hr2).lt k hk1).2; omega
 ·rcases hmem s hs' with h3 | rfl
  ·exact hs.r.og s h3 k hk
  ·rcases hb k hk with h3 | h3
   ·exact hs.r.og _ (iQ c h) k h3
   ·exact ⟨fun e => by have := hs.r.gs; omega, fun e => by have := hs.r.xs k e; omega⟩
 ·exact aG h1 4 (.slice oK v'.length cv')
end
end
section
open Go.RowKit

def oZ (f : Nat → Bool) (b : Bool) : Array Value := (((List.range 256).map fun p => Value.bool (f p)) ++ [Value.bool b]).toArray
theorem wR (f : Nat → Bool) (b : Bool) : (oZ f b).size = 257 := by simp [oZ]
theorem zM (f : Nat → Bool) (b : Bool) (p : Nat) (h : p < 256) : (oZ f b)[p]? = some (.bool (f p)) := by
 unfold oZ
 rw [gB, List.getElem?_append_left (by simpa using h), List.getElem?_map, List.getElem?_range h]
 rfl
theorem vK (f : Nat → Bool) (b : Bool) : (oZ f b)[256]? = some (.bool b) := by
 unfold oZ
 rw [gB, List.getElem?_append_right (by simp)]
 simp
theorem PZ (f g : Nat → Bool) (b : Bool) (q : Nat) (hq : q < 256) (v : Bool) (hv : g q = v) (h : ∀ p, p < 256 → p ≠ q → g p = f p) : (oZ f b).setIfInBounds q (.bool v) = oZ g b := by
 apply Array.ext_getElem?
 intro i
 rw [Array.getElem?_setIfInBounds]
 by_cases hi : i < 256
 ·rw [zM g b i hi]
  by_cases hiq : q = i
  ·subst hiq
   rw [if_pos rfl, if_pos (by rw [wR]; omega), hv]
  ·rw [if_neg hiq, zM f b i hi, h i hi (fun e => hiq e.symm)]
 ·by_cases hi6 : i = 256
  ·subst hi6
   rw [if_neg (by omega), vK, vK]
  ·rw [Array.getElem?_eq_none (show (oZ g b).size ≤ i by rw [wR]; omega), if_neg (by omega), Array.getElem?_eq_none (show (oZ f b).size ≤ i by rw [wR]; omega)]
theorem Jd {f g : Nat → Bool} {b : Bool} (h : ∀ p, p < 256 → f p = g p) : oZ f b = oZ g b := by
 unfold oZ
 congr 1
 congr 1
 exact List.map_congr_left fun p hp => by rw [h p (List.mem_range.1 hp)]
def marked (f : Nat → Bool) (a q p : Nat) : Bool := f p || decide (a ≤ p ∧ p < q)
theorem Je (f : Nat → Bool) (a p : Nat) : marked f a a p = f p := by unfold marked; rw [decide_eq_false (by omega), Bool.or_false]
theorem Nj (f : Nat → Bool) (a q : Nat) : marked f a q q = f q := by unfold marked; rw [decide_eq_false (by omega), Bool.or_false]
theorem FX (f : Nat → Bool) (a q : Nat) (h : a ≤ q) (hq : q < 256) (b : Bool) : (oZ (marked f a q) b).setIfInBounds q (.bool true) = oZ (marked f a (q + 1)) b := by
 refine PZ _ _ b q hq true ?_ fun p hp hne => ?_
 ·unfold marked; rw [decide_eq_true (by omega), Bool.or_true]
 ·unfold marked
  congr 1
  exact decide_eq_decide.2 (by omega)

structure wS (W : World) (G : Nat) (f : Nat → Bool) (b : Bool) : Prop where
 k : ∀ o, W.cell? ⟨G, o, none⟩ = (oZ f b)[o]?
 fz : ∀ o, W.frozen? ⟨G, o, none⟩ = false
 hi : G < W.heap.size
theorem wS.below {W W' : World} {G : Nat} {f : Nat → Bool} {b : Bool} (h : wS W G f b) (hb : Below W.heap.size W W') : wS W' G f b := ⟨aC h.k h.hi hb, aJ h.fz h.hi hb, gI h.hi hb.size⟩
theorem wS.mark {W : World} {G : Nat} {f g : Nat → Bool} {b : Bool} (h : wS W G f b) (q : Nat) (v : Bool) (he : (oZ f b).setIfInBounds q (.bool v) = oZ g b) : wS (W.setCell ⟨G, q, none⟩ (.bool v)) G g b := ⟨he ▸ aG h.k q _, aH h.fz _ _, by simpa using h.hi⟩
theorem wS.congr {W : World} {G : Nat} {f g : Nat → Bool} {b : Bool} (h : wS W G f b) (hfg : ∀ p, p < 256 → f p = g p) : wS W G g b := ⟨by rw [← Jd hfg]; exact h.k, h.fz, h.hi⟩

set_option maxHeartbeats 4000000 in
set_option maxRecDepth 100000 in
theorem TG (G a n : Nat) (f : Nat → Bool) (b : Bool) (w : World) (hm : wS w G f b) (hn : a + n ≤ 256) (h1 : a < 256) (hf : ∀ p, a ≤ p → p < a + n → f p = false) :
  Calls Tryz.prog 128 #[.pointer (some ⟨G, 0, none⟩), .int .i64 a, .int .i64 n] w fun ev w' => ev = .returned (.tuple #[]) ∧ wS w' G (marked f a (a + n)) b ∧ Safe (fun k => k ≠ G) w w' := by
 have d1 : decide ((256 : Int) ≤ a) = false := decide_eq_false (by omega)
 have d2 : decide (256 ≤ a) = false := decide_eq_false (by omega)
 have d3 : decide ((256 : Int) - a < n) = false := decide_eq_false (by omega)
 have HM := gO hm
 clear hm
 go_enter Tryz.func128, Tryz.ntmps128
 go_wp2
 go_loopw [6] (fun s6 wr => ∃ q : Nat, a ≤ q ∧ q ≤ a + n ∧ s6 = .int .i64 (q : Int) ∧ Hid (wS wr G (marked f a q) b) ∧ Hid (Safe (fun k => k ≠ G) w wr)) (fun s6 _ => a + n - (intOf s6).toNat)
 case atStart => exact ⟨a, Nat.le_refl _, by omega, rfl, HM.out.congr (fun p _ => (Je f a p).symm), Safe.refl _ _⟩
 case round =>
  obtain ⟨q, hq1, hq2, rfl, HK, HB⟩ := hrel
  clear HM
  have hHi := HK.out.hi
  by_cases hlt : q < a + n
  ·have hlt2 : (q : Int) < a + n := by omega
   have aER : (q : Int) < 256 := by omega
   have Qa : q < 256 := by omega
   have hcell := (HK.out.k q).trans (zM _ b q Qa)
   rw [Nj, hf q hq1 hlt] at hcell
   have hfz := HK.out.fz q
   have HK2 := gO (HK.out.mark q true (FX f a q hq1 Qa b))
   have HB2 := gO (HB.out.set (g := G) (fun e => e rfl) q (.bool true))
   go_wp2
   go_roundw
   case rel => exact ⟨q + 1, by omega, by omega, by go_num, HK2, HB2⟩
   case measure => simp [intOf]; omega
  ·obtain rfl : q = a + n := by omega
   have d4 : ¬ ((a : Int) + n < a + n) := by omega
   go_wp2
   refine bodyPost_end (v := .tuple #[]) (by simp [results, Tryz.results128, go_sem]) rfl ⟨rfl, HK.out, HB.out⟩
end
section
theorem qI : ∀ (a b : List Nat) (h : Hp), aV h (a ++ b) = aV (aV h a) b
 | [], _, _ => rfl
 | p :: a, b, h => by rw [List.cons_append, aV, aV, qI a b]
theorem rY : ∀ (a b : List Ls) (h : Hp), bQ h (a ++ b) = bQ (bQ h a) b
 | [], _, _ => rfl
 | l :: a, b, h => by rw [List.cons_append, bQ, bQ, rY a b]
theorem vO (h : Hp) (l : List Nat) {j : Nat} (hj : j < l.length) : aV h (l.take (j + 1)) = (aV h (l.take j)).iE l[j] 0 := by
 rw [List.take_succ_eq_append_getElem hj, qI]
 rfl
theorem Gl (h : Hp) (l : List Ls) {i : Nat} (hi : i < l.length) : bQ h (l.take (i + 1)) = aV (bQ h (l.take i)) l[i].p := by
 rw [List.take_succ_eq_append_getElem hi, rY]
 rfl
theorem Jj {h : Hp} (hk : dW h) {a o : Nat} (hb : bY 0 256 a o) (hd : ∀ p, cnt h.all p + hit ⟨a, o, 0⟩ p ≤ 1) : (h.zone (h.iD a)).ok ∧ bY (h.zone (h.iD a)).f (h.zone (h.iD a)).e a o ∧ ∀ x ∈ (h.zone (h.iD a)).l, apartB a o x :=
 ⟨hk.zone _, hk.fits hb, fun x hx => dN fun p h1 h2 => by
  have g1 := hd p
  have g2 := zC h (h.iD a) p
  have g3 := iW.2 (show eP (h.zone (h.iD a)).l p from ⟨x, hx, h2⟩)
  have g4 : hit ⟨a, o, 0⟩ p = 1 := jE.2 h1
  omega⟩
theorem rZ {h : Hp} (hk : dW h) {a o : Nat} (m : List Ls) (hb : bY 0 256 a o) (hd : ∀ p, cnt h.all p + hit ⟨a, o, 0⟩ p ≤ 1) : (({ h with ls := m } : Hp).zone (({ h with ls := m } : Hp).iD a)).ok ∧ bY (({ h with ls := m } : Hp).zone (({ h with ls := m } : Hp).iD a)).f (({ h with ls := m } : Hp).zone (({ h with ls := m } : Hp).iD a)).e a o ∧ ∀ x ∈ (({ h with ls := m } : Hp).zone (({ h with ls := m } : Hp).iD a)).l, apartB a o x := Jj hk hb hd
theorem xZ {h : Hp} (hk : dW h) {i : Nat} (hi : i < h.ls.length) {j : Nat} (hj : j < h.ls[i].p.length) :
  ((aV (bQ h (h.ls.take i)) (h.ls[i].p.take j)).zone ((aV (bQ h (h.ls.take i)) (h.ls[i].p.take j)).iD h.ls[i].p[j])).ok ∧ bY ((aV (bQ h (h.ls.take i)) (h.ls[i].p.take j)).zone ((aV (bQ h (h.ls.take i)) (h.ls[i].p.take j)).iD h.ls[i].p[j])).f ((aV (bQ h (h.ls.take i)) (h.ls[i].p.take j)).zone ((aV (bQ h (h.ls.take i)) (h.ls[i].p.take j)).iD h.ls[i].p[j])).e h.ls[i].p[j] 0 ∧ ∀ x ∈ ((aV (bQ h (h.ls.take i)) (h.ls[i].p.take j)).zone ((aV (bQ h (h.ls.take i)) (h.ls[i].p.take j)).iD h.ls[i].p[j])).l, apartB h.ls[i].p[j] 0 x := by
 have hp : ∀ l ∈ h.ls, ∀ p ∈ l.p, p < 256 := fun l hl p hp => ((hk.lr l hl).2.2.2.2.2 p hp).1
 have hc : ∀ q, cnt ({ h with ls := [] } : Hp).all q + cnt (lsB h.ls) q = cnt h.all q := fun q => by
  rw [dH, dH]
  simp only [lsB, cnt]
  omega
 have hsp : ∀ q, cnt (lsB h.ls) q = cnt (lsB (h.ls.take i)) q + cnt (jJ h.ls[i].p) q + cnt (lsB (h.ls.drop (i + 1))) q := fun q => by
  have h1 := zD hi
  have h2 : cnt (lsB h.ls) q = cnt (lsB (h.ls.take i ++ h.ls[i] :: h.ls.drop (i + 1))) q := congrArg (fun l => cnt (lsB l) q) h1
  rw [jA, fQ] at h2
  omega
 have hpp : ∀ q, cnt (jJ h.ls[i].p) q = cnt (jJ (h.ls[i].p.take j)) q + hit ⟨h.ls[i].p[j], 0, 0⟩ q + cnt (jJ (h.ls[i].p.drop (j + 1))) q := fun q => by
  have h1 : h.ls[i].p = h.ls[i].p.take j ++ ([h.ls[i].p[j]] ++ h.ls[i].p.drop (j + 1)) := by
   rw [List.singleton_append, List.getElem_cons_drop, List.take_append_drop]
  have h2 : cnt (jJ h.ls[i].p) q = cnt (jJ (h.ls[i].p.take j ++ ([h.ls[i].p[j]] ++ h.ls[i].p.drop (j + 1)))) q := congrArg (fun l => cnt (jJ l) q) h1
  rw [iH, iH, xU] at h2
  omega
 obtain ⟨a1, a2, a3, a4, a5⟩ := hk.DN.bQ (h.ls.take i) (fun l hl p hx => hp l (List.mem_of_mem_take hl) p hx) (fun q => by have h1 := hc q; have h2 := hsp q; have h3 := hk.one q; omega)
 obtain ⟨b1, b2, b3, b4, b5⟩ := a1.aV (h.ls[i].p.take j) (fun p hx => hp _ (gL hi) p (List.mem_of_mem_take hx)) (fun q => by rw [a2]; have h1 := hc q; have h2 := hsp q; have h3 := hk.one q; have h4 := hpp q; omega)
 have e : aV (bQ h (h.ls.take i)) (h.ls[i].p.take j) = { aV (bQ { h with ls := [] } (h.ls.take i)) (h.ls[i].p.take j) with ls := h.ls } := by
  rw [← jB, ← wL]
 rw [e]
 exact rZ b1 h.ls (oG (hp _ (gL hi) _ (gL hj))) (fun q => by rw [b2, a2]; have h1 := hc q; have h2 := hsp q; have h3 := hk.one q; have h4 := hpp q; omega)
theorem zU (h : Hp) (l : List Ls) : (bQ h l).ls = h.ls ∧ (bQ h l).live = h.live := by
 have hB : ∀ (g : Hp) (a o : Nat), (g.iE a o).ls = g.ls ∧ (g.iE a o).live = g.live := fun g a o => by
  unfold Hp.iE Hp.iL
  split <;> exact ⟨rfl, rfl⟩
 have hA : ∀ (ps : List Nat) (g : Hp), (aV g ps).ls = g.ls ∧ (aV g ps).live = g.live := by
  intro ps
  induction ps with
  | nil => intro g; exact ⟨rfl, rfl⟩
  | cons p ps ih => intro g; rw [aV]; exact ⟨(ih _).1.trans (hB g p 0).1, (ih _).2.trans (hB g p 0).2⟩
 induction l generalizing h with
 | nil => exact ⟨rfl, rfl⟩
 | cons x l ih => rw [bQ]; exact ⟨(ih _).1.trans (hA _ _).1, (ih _).2.trans (hA _ _).2⟩
end
section
theorem Gy {l : List Sl} {a : Nat} : l.take (Iu l a) = l.takeWhile (fun x => decide (x.p < a)) ∧ l.drop (Iu l a) = l.dropWhile (fun x => decide (x.p < a)) := by
 have h : l.takeWhile (fun x => decide (x.p < a)) ++ l.dropWhile (fun x => decide (x.p < a)) = l := List.takeWhile_append_dropWhile
 unfold Iu
 constructor
 ·conv => lhs; rw [← h]
  rw [List.take_left']
  rw [h]
 ·conv => lhs; rw [← h]
  rw [List.drop_left']
  rw [h]
theorem Lm (l : List Sl) (x : Sl) : mP l x = l.takeWhile (fun y => decide (y.p < x.p)) ++ x :: l.dropWhile (fun y => decide (y.p < x.p)) := by
 unfold mP
 rw [Gy.1, Gy.2]
theorem qM {l : List Sl} {x y : Sl} : y ∈ mP l x ↔ y = x ∨ y ∈ l := by
 rw [Lm]
 have h : l.takeWhile (fun y => decide (y.p < x.p)) ++ l.dropWhile (fun y => decide (y.p < x.p)) = l := List.takeWhile_append_dropWhile
 conv => rhs; rw [← h]
 simp only [List.mem_append, List.mem_cons]
 constructor
 ·rintro (h | h | h)
  ·exact .inr (.inl h)
  ·exact .inl h
  ·exact .inr (.inr h)
 ·rintro (h | h | h)
  ·exact .inr (.inl h)
  ·exact .inl h
  ·exact .inr (.inr h)
theorem vT {a : Nat} : ∀ {l : List Sl}, (l.Pairwise fun x y => x.p < y.p) → ∀ y ∈ l.dropWhile (fun x => decide (x.p < a)), a ≤ y.p
 | [], _, y, hy => by simp at hy
 | b :: l, hl, y, hy => by
  rw [List.pairwise_cons] at hl
  by_cases hb : b.p < a
  ·rw [List.dropWhile_cons_of_pos (by simpa using hb)] at hy
   exact vT hl.2 y hy
  ·rw [List.dropWhile_cons_of_neg (by simpa using hb)] at hy
   rcases List.mem_cons.1 hy with rfl | hy
   ·omega
   ·have := hl.1 y hy
    omega
theorem QN {q : Sl → Bool} {y : Sl} : ∀ {l : List Sl}, y ∈ l.takeWhile q → q y = true
 | [], h => by simp at h
 | b :: l, h => by
  by_cases hb : q b = true
  ·rw [List.takeWhile_cons_of_pos hb] at h
   rcases List.mem_cons.1 h with rfl | h
   ·exact hb
   ·exact QN h
  ·rw [List.takeWhile_cons_of_neg hb] at h
   simp at h
theorem NU {l : List Sl} {x : Sl} (hl : l.Pairwise fun a b => a.p < b.p) (hx : ∀ y ∈ l, y.p ≠ x.p) : (mP l x).Pairwise fun a b => a.p < b.p := by
 have h : l.takeWhile (fun y => decide (y.p < x.p)) ++ l.dropWhile (fun y => decide (y.p < x.p)) = l := List.takeWhile_append_dropWhile
 have h1 : ∀ y ∈ l.takeWhile (fun y => decide (y.p < x.p)), y.p < x.p := fun y hy => by
  have := QN hy
  simpa using this
 have h2 := vT (a := x.p) hl
 have h3 := hl
 rw [← h, List.pairwise_append] at h3
 rw [Lm, List.pairwise_append, List.pairwise_cons]
 refine ⟨h3.1, ⟨fun y hy => ?_, h3.2.1⟩, fun a ha b hb => ?_⟩
 ·have h4 := h2 y hy
  have h5 := hx y (by rw [← h]; exact List.mem_append_right _ hy)
  omega
 ·rcases List.mem_cons.1 hb with rfl | hb
  ·exact h1 a ha
  ·exact h3.2.2 a ha b hb
theorem QO (l : List Sl) (x : Sl) : (mP l x)[Iu l x.p]? = some x := by
 have h : Iu l x.p ≤ l.length := (List.takeWhile_sublist _).length_le
 unfold mP
 rw [List.getElem?_append_right (by rw [List.length_take]; omega), List.length_take, Nat.min_eq_left h, Nat.sub_self]
 rfl

theorem Gz {k : Nat} (h : 1 ≤ k ∧ k ≤ 64) : 1 ≤ eY k := by
 unfold eY
 rw [Nat.le_div_iff_mul_le (by omega)]
 unfold dV
 split
 ·rename_i h1
  rw [Nat.le_div_iff_mul_le (by omega)] at h1
  omega
 ·split
  ·rename_i h1
   rw [Nat.le_div_iff_mul_le (by omega)] at h1
   omega
  ·omega
theorem NV (k : Nat) : eY k * k ≤ 16 * 2 ^ dV k := Nat.div_mul_le_self _ _
theorem lD (k : Nat) : dV k ≤ 2 := by unfold dV; split <;> (try split) <;> omega
theorem jY {c : Ca} {p : Nat} {a : Int} (hc : c.r * c.z ≤ 16 * 2 ^ c.o) (h : iM c p a = true) : 16 * (p : Int) ≤ a ∧ a < 16 * ((p + 2 ^ c.o : Nat) : Int) := by
 have h1 := rC h
 have h2 : ((c.r * c.z : Nat) : Int) ≤ ((16 * 2 ^ c.o : Nat) : Int) := by exact_mod_cast hc
 have h3 : ((c.r * c.z : Nat) : Int) = (c.r : Int) * c.z := by push_cast; rfl
 have h4 : ((16 * 2 ^ c.o : Nat) : Int) = 16 * ((2 ^ c.o : Nat) : Int) := by push_cast; rfl
 have h5 : ((p + 2 ^ c.o : Nat) : Int) = (p : Int) + ((2 ^ c.o : Nat) : Int) := by push_cast; rfl
 generalize ((2 ^ c.o : Nat) : Int) = q at *
 omega
theorem nX.room {s : Sy} {c : Ca} (h : nX s c) : c.r * c.z ≤ 16 * 2 ^ c.o := by rw [h.r, h.o]; exact NV _

theorem qN (xs : List Int) (p k n : Nat) : ∀ (j : Nat), j ≤ n → ∀ i, (i < p ∨ p + k * n ≤ i) → 1 ≤ k → (chainTo xs p k n j).getD i 0 = xs.getD i 0
 | 0, _, _, _, _ => rfl
 | j + 1, hj, i, hi, hk => by
  have ih := qN xs p k n j (by omega) i hi hk
  have hne : p + j * k ≠ i := by
   have h1 : (j + 1) * k ≤ n * k := Nat.mul_le_mul_right k hj
   have h2 : n * k = k * n := Nat.mul_comm _ _
   rw [Nat.add_mul] at h1
   omega
  unfold chainTo
  rw [List.getD_eq_getElem?_getD, List.getElem?_set_ne hne, ← List.getD_eq_getElem?_getD]
  exact ih

theorem fC.grow {s s' : Sy} (hk : fC s) {i cpu k : Nat} {c : Ca} (hi : s.cs[i]? = some c) (fH : cpu < s.h.aF) (hg : s.grow i cpu c = some (s', k)) :
  fC s' ∧ s'.h.aF = s.h.aF ∧ ∃ (c' : Ca) (x : Sl), s'.cs[i]? = some c' ∧ c'.sl[k]? = some x ∧ 0 < x.n ∧ (∀ a ∈ c'.ac, a ≠ (x.p : Int)) := by
 have hil := (List.getElem?_eq_some_iff.1 hi).1
 have hck := hk.ck c (gM hi)
 have hor : c.o ≤ 4 := by rw [hck.o]; exact gQ (lD _) (by decide)
 unfold Sy.grow at hg
 cases hal : s.h.alloc cpu c.o 0 false false with
 | none => rw [hal] at hg; cases hg
 | some r =>
  obtain ⟨h', a⟩ := r
  rw [hal] at hg
  have h1 := gP hg
  rw [Prod.mk.injEq] at h1
  obtain ⟨rfl, rfl⟩ := h1
  obtain ⟨hh, hcnt, hsame, hlive, hfit⟩ := hk.hk.alloc fH hor (by decide) hal
  have Lp : h'.aF = s.h.aF := hsame.aF
  have hcl : h'.live = bG s.h.live ⟨a, c.o, 0⟩ := hlive
  -- the new block lies apart from all others
  have hap : ∀ b ∈ s.h.live, apartB a c.o b := fun b hb => dN fun q h1 h2 => by
   have h3 := hh.one q
   rw [dH, hcl, wM] at h3
   have h4 : 0 < cnt s.h.live q := iW.2 ⟨b, hb, h2⟩
   have h5 : hit (⟨a, c.o, 0⟩ : Bk) q = 1 := jE.2 h1
   omega
  have hpp := Nat.two_pow_pos c.o
  have hsl : ∀ d ∈ s.cs, ∀ x ∈ d.sl, x.p ≠ a ∧ ∀ o : Int, iM d x.p o = true → (chainTo s.w (16 * a) c.z c.r c.r).getD o.toNat 0 = s.w.getD o.toNat 0 := fun d hd x hx => by
   have hdk := hk.ck d hd
   obtain ⟨b, hb, hb1, hb2⟩ := (hdk.sk x hx).live
   have h1 := hap b hb
   unfold apartB Bk.fin at h1
   rw [hb1, hb2] at h1
   have hp2 := Nat.two_pow_pos d.o
   refine ⟨by omega, fun o ho => qN _ _ _ _ _ (Nat.le_refl _) _ ?_ hck.z.1⟩
   have h2 := jY hdk.room ho
   have h3 := hck.room
   rw [Nat.mul_comm c.z c.r]
   generalize c.r * c.z = m at *
   generalize 2 ^ c.o = q at *
   generalize 2 ^ d.o = q' at *
   omega
  have hwl : (chainTo s.w (16 * a) c.z c.r c.r).length = s.w.length := fD _ _ _ _ _
  have hlv : ∀ b ∈ s.h.live, b ∈ h'.live := fun b hb => by
   rw [hcl]
   unfold bG
   have h2 : s.h.live.take (lb s.h.live a) ++ s.h.live.drop (lb s.h.live a) = s.h.live := List.take_append_drop _ _
   rw [← h2] at hb
   rcases List.mem_append.1 hb with h | h
   ·exact List.mem_append_left _ h
   ·exact List.mem_append_right _ (List.mem_cons_of_mem _ h)
  have hoth : ∀ d ∈ s.cs, ∀ x ∈ d.sl, pO { w := chainTo s.w (16 * a) c.z c.r c.r, h := h', cs := s.cs.set i { c with sl := mP c.sl ⟨a, c.r, ((16 * a : Nat) : Int)⟩ } } d x := fun d hd x hx =>
   ((hk.ck d hd).sk x hx).move rfl rfl rfl hlv hwl ((hsl d hd x hx).2)
  have hr1 : 1 ≤ c.r := by rw [hck.r]; exact Gz hck.z
  have hin : 16 * a + c.z * c.r ≤ s.w.length := by
   have h1 := hck.room
   have h2 : a + 2 ^ c.o ≤ 256 := by
    have h3 : c.o ≤ 2 := by rw [hck.o]; exact lD _
    obtain ⟨_, _, h4, h5⟩ := hfit
    generalize c.o = o at *
    obtain rfl | rfl | rfl : o = 0 ∨ o = 1 ∨ o = 2 := by omega
    ·omega
    ·omega
    ·omega
   rw [Nat.mul_comm c.z, hk.wl]
   generalize c.r * c.z = m at *
   generalize 2 ^ c.o = q at *
   omega
  have hnew : pO { w := chainTo s.w (16 * a) c.z c.r c.r, h := h', cs := s.cs.set i { c with sl := mP c.sl ⟨a, c.r, ((16 * a : Nat) : Int)⟩ } } { c with sl := mP c.sl ⟨a, c.r, ((16 * a : Nat) : Int)⟩ } ⟨a, c.r, ((16 * a : Nat) : Int)⟩ := by
   refine ⟨⟨⟨a, c.o, 0⟩, by rw [show h'.live = _ from hcl]; unfold bG; simp, rfl, rfl⟩, objs (16 * a) c.z c.r, ?_, mV _ _ _, fun o ho => ?_⟩
   ·have h1 := uI s.w (16 * a) c.z c.r c.r hck.z.1 hr1 hin (by omega)
    rw [if_pos (Int.le_refl _)] at h1
    exact h1
   ·unfold objs at ho
    obtain ⟨j, hj, rfl⟩ := List.mem_map.1 ho
    rw [List.mem_range] at hj
    unfold iM
    simp only [decide_eq_true_eq]
    have h1 : ((16 * a + j * c.z : Nat) : Int) - 16 * (a : Int) = (j : Int) * c.z := by push_cast; omega
    rw [h1]
    have h2 : (j : Int) * c.z = ((j * c.z : Nat) : Int) := by push_cast; rfl
    have h3 : (c.r : Int) * c.z = ((c.r * c.z : Nat) : Int) := by push_cast; rfl
    have h4 : j * c.z < c.r * c.z := Nat.mul_lt_mul_of_pos_right hj hck.z.1
    refine ⟨by omega, by omega, Int.mul_emod_left _ _⟩
  refine ⟨hk.upd hi (c' := { c with sl := mP c.sl ⟨a, c.r, ((16 * a : Nat) : Int)⟩ }) (by show (chainTo s.w (16 * a) c.z c.r c.r).length = 4096; rw [hwl]; exact hk.wl) hh rfl rfl rfl ?_ (fun d hd => (hk.ck d hd).move Lp (hoth d hd)) (fun x hx => ?_), Lp, { c with sl := mP c.sl ⟨a, c.r, ((16 * a : Nat) : Int)⟩ }, ⟨a, c.r, ((16 * a : Nat) : Int)⟩, ?_, QO c.sl ⟨a, c.r, ((16 * a : Nat) : Int)⟩, hr1, fun b hb e => ?_⟩
  ·refine ⟨hck.z, hck.o, hck.r, hck.ns, hck.nm, hck.nr, by rw [show _ = _ from Lp]; exact hck.ac, NU hck.sr (fun y hy => (hsl c (gM hi) y hy).1), fun x hx => ?_, fun b hb => ?_, hck.ad⟩
   ·rcases qM.1 hx with rfl | hx
    ·exact hnew
    ·have h1 := hoth c (gM hi) x hx
     exact ⟨h1.live, h1.chain⟩
   ·rcases hck.aw b hb with h | ⟨x, hx, h⟩
    ·exact .inl h
    ·exact .inr ⟨x, qM.2 (.inr hx), h⟩
  ·rcases qM.1 hx with rfl | hx
   ·exact .inr fun d hd y hy => (hsl d hd y hy).1
   ·exact .inl ⟨x, hx, rfl⟩
  ·show (s.cs.set i _)[i]? = _
   rw [List.getElem?_set_self hil]
  ·rcases hck.aw b hb with h | ⟨x, hx, h⟩
   ·rw [h] at e
    have e' : (-1 : Int) = (a : Int) := e
    omega
   ·have h1 := (hsl c (gM hi) x hx).1
    rw [← h] at e
    have e' : (x.p : Int) = (a : Int) := e
    omega

theorem fC.mine {s : Sy} (hk : fC s) {i cpu k : Nat} {c : Ca} {x : Sl} (hi : s.cs[i]? = some c) (hx : c.sl[k]? = some x) (hn : ∀ a ∈ c.ac, a ≠ (x.p : Int)) :
  fC (s.mine i cpu k) ∧ (s.mine i cpu k).h = s.h ∧ (s.mine i cpu k).w = s.w ∧ (s.mine i cpu k).cs[i]? = some { c with ac := c.ac.set cpu (x.p : Int) } := by
 have hil := (List.getElem?_eq_some_iff.1 hi).1
 have hcm := gM hi
 have hck := hk.ck c hcm
 have e : s.mine i cpu k = s.dU i { c with ac := c.ac.set cpu (x.p : Int) } := by
  unfold Sy.mine
  rw [hi]
  simp only [hx]
 rw [e]
 refine ⟨hk.upd hi (c' := { c with ac := c.ac.set cpu (x.p : Int) }) hk.wl hk.hk rfl rfl rfl ?_ (fun d hd => (hk.ck d hd).move rfl (fun y hy => ⟨((hk.ck d hd).sk y hy).live, ((hk.ck d hd).sk y hy).chain⟩)) (fun y hy => .inl ⟨y, hy, rfl⟩), rfl, rfl, ?_⟩
 ·refine ⟨hck.z, hck.o, hck.r, hck.ns, hck.nm, hck.nr, by rw [List.length_set]; exact hck.ac, hck.sr, fun y hy => ⟨(hck.sk y hy).live, (hck.sk y hy).chain⟩, fun a ha => ?_, ?_⟩
  ·rcases List.mem_or_eq_of_mem_set ha with h | rfl
   ·exact hck.aw a h
   ·exact .inr ⟨x, gM hx, rfl⟩
  ·have h1 := hck.ad
   rw [gN] at h1 ⊢
   intro j l hj hl hjl
   have hj' : j < c.ac.length := by simpa using hj
   have hl' : l < c.ac.length := by simpa using hl
   simp only [List.getElem_set]
   split
   ·rename_i e1
    rw [if_neg (by omega)]
    exact fun e2 => absurd e2.symm (hn _ (gL hl'))
   ·split
    ·exact fun e2 => absurd e2 (hn _ (gL hj'))
    ·exact h1 j l hj' hl' hjl
 ·show (s.cs.set i _)[i]? = _
  rw [List.getElem?_set_self hil]

theorem fC.first {s : Sy} (hk : fC s) {c : Ca} {x : Sl} (hc : c ∈ s.cs) (hx : x ∈ c.sl) (hn : 0 < x.n) : ∃ m, follow s.w x.h c.r = some (x.h :: m) ∧ m.length + 1 = x.n ∧ (∀ a ∈ x.h :: m, iM c x.p a = true) ∧ 0 ≤ x.h ∧ x.h < 4096 ∧ follow s.w (s.w.getD x.h.toNat 0) c.r = some m := by
 obtain ⟨l, h1, h2, h3⟩ := ((hk.ck c hc).sk x hx).chain
 have h4 := gW.1 h1
 cases l with
 | nil => simp at h2; omega
 | cons a m =>
  obtain ⟨⟨rfl, h5⟩, h6, h7, h8⟩ := h4
  have h9 := h6 x.h (by simp)
  rw [hk.wl] at h9
  refine ⟨m, h1, by simpa using h2, h3, h9.1, by omega, gW.2 ⟨h5, fun a ha => h6 a (List.mem_cons_of_mem _ ha), fun _ => ?_, (List.nodup_cons.1 h8).2⟩⟩
  have := h7 (by simp)
  simp at this
  omega
theorem fC.pop {s s' : Sy} (hk : fC s) {i k : Nat} {c : Ca} {x : Sl} {a : Int} (hi : s.cs[i]? = some c) (hx : c.sl[k]? = some x) (hn : 0 < x.n) (hp : s.pop i k = some (s', a)) :
  fC s' ∧ s'.h = s.h ∧ s'.w = s.w ∧ a = x.h ∧ s' = s.dU i { c with sl := c.sl.set k ⟨x.p, x.n - 1, s.w.getD x.h.toNat 0⟩ } := by
 have hil := (List.getElem?_eq_some_iff.1 hi).1
 have hcm := gM hi
 have hxm := gM hx
 obtain ⟨hkl, hkx⟩ := List.getElem?_eq_some_iff.1 hx
 have hck := hk.ck c hcm
 unfold Sy.pop at hp
 rw [hi] at hp
 simp only [hx] at hp
 have h1 := gP hp
 rw [Prod.mk.injEq] at h1
 obtain ⟨rfl, rfl⟩ := h1
 obtain ⟨m, h2, h3, h4, h5, h6, h7⟩ := hk.first hcm hxm hn
 have hmem : ∀ y ∈ c.sl.set k ⟨x.p, x.n - 1, s.w.getD x.h.toNat 0⟩, y ∈ c.sl ∨ y = ⟨x.p, x.n - 1, s.w.getD x.h.toNat 0⟩ := fun y hy => List.mem_or_eq_of_mem_set hy
 have hpm : ∀ y ∈ c.sl.set k ⟨x.p, x.n - 1, s.w.getD x.h.toNat 0⟩, ∃ z ∈ c.sl, z.p = y.p := fun y hy => by
  rcases hmem y hy with h | rfl
  ·exact ⟨y, h, rfl⟩
  ·exact ⟨x, hxm, rfl⟩
 refine ⟨hk.upd hi (c' := { c with sl := c.sl.set k ⟨x.p, x.n - 1, s.w.getD x.h.toNat 0⟩ }) hk.wl hk.hk rfl rfl rfl ?_ (fun d hd => (hk.ck d hd).move rfl (fun y hy => ⟨((hk.ck d hd).sk y hy).live, ((hk.ck d hd).sk y hy).chain⟩)) (fun y hy => .inl (hpm y hy)), rfl, rfl, rfl, rfl⟩
 refine ⟨hck.z, hck.o, hck.r, hck.ns, hck.nm, hck.nr, hck.ac, ?_, fun y hy => ?_, fun b hb => ?_, hck.ad⟩
 ·have h8 := hck.sr
  rw [gN] at h8 ⊢
  intro j l hj hl hjl
  have hj' : j < c.sl.length := by simpa using hj
  have hl' : l < c.sl.length := by simpa using hl
  have h9 := h8 j l hj' hl' hjl
  simp only [List.getElem_set]
  split
  ·rename_i e1
   subst e1
   rw [if_neg (by omega)]
   rw [hkx] at h9
   exact h9
  ·split
   ·rename_i e1
    subst e1
    rw [hkx] at h9
    exact h9
   ·exact h9
 ·rcases hmem y hy with h | rfl
  ·exact ⟨(hck.sk y h).live, (hck.sk y h).chain⟩
  ·exact ⟨(hck.sk x hxm).live, m, h7, by show m.length = x.n - 1; omega, fun a ha => h4 a (List.mem_cons_of_mem _ ha)⟩
 ·rcases hck.aw b hb with h | ⟨z, hz, h⟩
  ·exact .inl h
  ·refine .inr ?_
   obtain ⟨j, hj, e⟩ := List.mem_iff_getElem.1 hz
   refine ⟨(c.sl.set k ⟨x.p, x.n - 1, s.w.getD x.h.toNat 0⟩)[j]'(by simpa using hj), gL _, ?_⟩
   rw [List.getElem_set]
   split
   ·rename_i e1
    subst e1
    rw [hkx] at e
    rw [e]
    exact h
   ·rw [e]
    exact h
theorem fC.choose {s s' : Sy} (hk : fC s) {i cpu k : Nat} {c : Ca} (hi : s.cs[i]? = some c) (fH : cpu < s.h.aF) (hg : s.choose i cpu = some (s', k)) :
  fC s' ∧ s'.h.aF = s.h.aF ∧ ∃ (c' : Ca) (x : Sl), s'.cs[i]? = some c' ∧ c'.sl[k]? = some x ∧ 0 < x.n := by
 unfold Sy.choose at hg
 rw [hi] at hg
 simp only at hg
 cases hown : c.own cpu with
 | some j =>
  rw [hown] at hg
  have h1 := gP hg
  rw [Prod.mk.injEq] at h1
  obtain ⟨rfl, rfl⟩ := h1
  unfold Ca.own at hown
  split at hown
  ·split at hown
   ·split at hown
    ·obtain rfl := gP hown
     exact ⟨hk, rfl, c, _, hi, by assumption, by assumption⟩
    ·cases hown
   ·cases hown
  ·cases hown
 | none =>
  rw [hown] at hg
  simp only at hg
  cases rJ : c.nobody with
  | some j =>
   rw [rJ] at hg
   have h1 := gP hg
   rw [Prod.mk.injEq] at h1
   obtain ⟨rfl, rfl⟩ := h1
   unfold Ca.nobody at rJ
   rw [List.findIdx?_eq_some_iff_getElem] at rJ
   obtain ⟨hj, h2, _⟩ := rJ
   simp only [Bool.and_eq_true, decide_eq_true_eq, Bool.not_eq_true'] at h2
   have hx : c.sl[j]? = some c.sl[j] := gJ hj
   obtain ⟨h3, h4, _, h5⟩ := hk.mine (cpu := cpu) hi hx (fun a ha e => by
    rw [← e, List.contains_iff_mem.2 ha] at h2
    cases h2.2)
   exact ⟨h3, by rw [h4], _, c.sl[j], h5, hx, h2.1⟩
  | none =>
   rw [rJ] at hg
   simp only at hg
   cases hgr : s.grow i cpu c with
   | none => rw [hgr] at hg; cases hg
   | some r =>
    obtain ⟨s2, j⟩ := r
    rw [hgr] at hg
    have h1 := gP hg
    rw [Prod.mk.injEq] at h1
    obtain ⟨rfl, rfl⟩ := h1
    obtain ⟨h2, h3, c', x, h4, h5, h6, h7⟩ := hk.grow hi fH hgr
    obtain ⟨h8, h9, _, h10⟩ := h2.mine (cpu := cpu) h4 h5 h7
    exact ⟨h8, by rw [h9]; exact h3, _, x, h10, h5, h6⟩
theorem fC.one {s s' : Sy} (hk : fC s) {i cpu : Nat} {c : Ca} {a : Int} (hi : s.cs[i]? = some c) (fH : cpu < s.h.aF) (hg : s.one i cpu = some (s', a)) : fC s' ∧ s'.h.aF = s.h.aF ∧ s'.cs.length = s.cs.length ∧ ∃ c', s'.cs[i]? = some c' := by
 unfold Sy.one at hg
 cases hch : s.choose i cpu with
 | none => rw [hch] at hg; cases hg
 | some r =>
  obtain ⟨s2, k⟩ := r
  rw [hch] at hg
  simp only at hg
  obtain ⟨h1, h2, c', x, h3, h4, h5⟩ := hk.choose hi fH hch
  obtain ⟨h6, h7, _, _, h8⟩ := h1.pop h3 h4 h5 hg
  have hlen : s2.cs.length = s.cs.length := by
   unfold Sy.choose at hch
   rw [hi] at hch
   simp only at hch
   have hm : ∀ (t : Sy) (j : Nat), (t.mine i cpu j).cs.length = t.cs.length := fun t j => by
    unfold Sy.mine Sy.dU
    split
    ·split
     ·simp
     ·rfl
    ·rfl
   split at hch
   ·have h := gP hch
    rw [Prod.mk.injEq] at h
    rw [← h.1]
   ·split at hch
    ·have h := gP hch
     rw [Prod.mk.injEq] at h
     rw [← h.1]
     exact hm _ _
    ·split at hch
     ·rename_i heq
      have h := gP hch
      rw [Prod.mk.injEq] at h
      rw [← h.1, hm]
      unfold Sy.grow at heq
      split at heq
      ·have h' := gP heq
       rw [Prod.mk.injEq] at h'
       rw [← h'.1]
       simp
      ·cases heq
     ·cases hch
  have hil : i < s2.cs.length := (List.getElem?_eq_some_iff.1 h3).1
  refine ⟨h6, by rw [h7]; exact h2, ?_, ?_⟩
  ·rw [h8]
   unfold Sy.dU
   simp [hlen]
  ·rw [h8]
   exact ⟨_, by show (s2.cs.set i _)[i]? = _; rw [List.getElem?_set_self hil]⟩
end
section
theorem GN : ∀ {x y : List UInt8}, x ≠ y → Go.Op.bytesLess x y = false → Go.Op.bytesLess y x = true
 | [], [], h, _ => absurd rfl h
 | [], _ :: _, _, h => by simp [Go.Op.bytesLess] at h
 | _ :: _, [], _, _ => rfl
 | a :: x, b :: y, hne, h => by
  simp only [Go.Op.bytesLess, Bool.or_eq_false_iff, Bool.and_eq_false_iff, decide_eq_false_iff_not, beq_eq_false_iff_ne] at h
  simp only [Go.Op.bytesLess, Bool.or_eq_true, Bool.and_eq_true, decide_eq_true_eq, beq_iff_eq]
  by_cases hab : a = b
  ·subst hab
   refine .inr ⟨rfl, GN (fun e => hne (by rw [e])) ?_⟩
   rcases h.2 with h2 | h2
   ·exact absurd rfl h2
   ·exact h2
  ·left
   have h1 := h.1
   rw [UInt8.lt_iff_toNat_lt] at h1 ⊢
   have h3 : a.toNat ≠ b.toNat := fun e => hab (UInt8.toNat_inj.1 e)
   omega
theorem LH {α : Type} (q : α → Bool) (l : List α) : l.take (l.takeWhile q).length = l.takeWhile q ∧ l.drop (l.takeWhile q).length = l.dropWhile q := by
 have h : l.takeWhile q ++ l.dropWhile q = l := List.takeWhile_append_dropWhile
 constructor
 ·conv => lhs; arg 2; rw [← h]
  exact List.take_left' rfl
 ·conv => lhs; arg 2; rw [← h]
  exact List.drop_left' rfl
theorem LJ {α : Type} {q : α → Bool} {y : α} : ∀ {l : List α}, y ∈ l.takeWhile q → q y = true
 | [], h => by simp at h
 | b :: l, h => by
  by_cases hb : q b = true
  ·rw [List.takeWhile_cons_of_pos hb] at h
   rcases List.mem_cons.1 h with rfl | h
   ·exact hb
   ·exact LJ h
  ·rw [List.takeWhile_cons_of_neg hb] at h
   simp at h
theorem VA {n : List UInt8} : ∀ {l : List (List UInt8)}, (l.Pairwise fun x y => Go.Op.bytesLess x y = true) → n ∉ l → ∀ y ∈ l.dropWhile (fun x => Go.Op.bytesLess x n), Go.Op.bytesLess n y = true
 | [], _, _, y, hy => by simp at hy
 | b :: l, hl, hn, y, hy => by
  rw [List.pairwise_cons] at hl
  cases hb : Go.Op.bytesLess b n with
  | true =>
   rw [List.dropWhile_cons_of_pos (p := fun x => Go.Op.bytesLess x n) hb] at hy
   exact VA hl.2 (fun h => hn (List.mem_cons_of_mem _ h)) y hy
  | false =>
   rw [List.dropWhile_cons_of_neg (p := fun x => Go.Op.bytesLess x n) (by simp [hb])] at hy
   have h1 := GN (x := b) (y := n) (fun e => hn (by rw [← e]; exact List.mem_cons_self)) hb
   rcases List.mem_cons.1 hy with rfl | hy
   ·exact h1
   ·exact zZ h1 (hl.1 y hy)
def NZ (l : List (List UInt8)) (n : List UInt8) : List (List UInt8) := l.take (uH l n) ++ n :: l.drop (uH l n)
theorem Oa {l : List (List UInt8)} {n : List UInt8} (hl : l.Pairwise fun x y => Go.Op.bytesLess x y = true) (hn : n ∉ l) : (NZ l n).Pairwise fun x y => Go.Op.bytesLess x y = true := by
 have h : l.takeWhile (fun x => Go.Op.bytesLess x n) ++ l.dropWhile (fun x => Go.Op.bytesLess x n) = l := List.takeWhile_append_dropWhile
 have h3 := hl
 rw [← h, List.pairwise_append] at h3
 unfold NZ uH
 rw [(LH _ l).1, (LH _ l).2, List.pairwise_append, List.pairwise_cons]
 refine ⟨h3.1, ⟨fun y hy => VA hl hn y hy, h3.2.1⟩, fun a ha b hb => ?_⟩
 rcases List.mem_cons.1 hb with rfl | hb
 ·exact LJ (q := fun x => Go.Op.bytesLess x b) ha
 ·exact h3.2.2 a ha b hb
theorem vU {l : List (List UInt8)} {n y : List UInt8} : y ∈ NZ l n ↔ y = n ∨ y ∈ l := by
 unfold NZ
 conv => rhs; rw [← List.take_append_drop (uH l n) l]
 simp only [List.mem_append, List.mem_cons]
 constructor
 ·rintro (h | h | h)
  ·exact .inr (.inl h)
  ·exact .inl h
  ·exact .inr (.inr h)
 ·rintro (h | h | h)
  ·exact .inr (.inl h)
  ·exact .inl h
  ·exact .inr (.inr h)
theorem xE {α : Type} {R : α → α → Prop} {l : List α} (h : l.Pairwise R) {i : Nat} {c : α} (h2 : ∀ j (hj : j < l.length), j < i → R l[j] c) (h3 : ∀ j (hj : j < l.length), i < j → R c l[j]) : (l.set i c).Pairwise R := by
 rw [gN] at h ⊢
 intro j k hj hk hjk
 rw [List.length_set] at hj hk
 rw [List.getElem_set, List.getElem_set]
 split
 ·rename_i e
  subst e
  rw [if_neg (by omega)]
  exact h3 k hk hjk
 ·split
  ·rename_i e
   subst e
   exact h2 j hj hjk
  ·exact h j k hj hk hjk
theorem fC.create {s s' : Sy} (hk : fC s) {n : List UInt8} {z : Nat} (hnm : nameB n = true) (hz : 1 ≤ z ∧ z ≤ 64) (hno : s.named n = none) (h : s.create n z = some s') : fC s' ∧ s'.h = s.h ∧ s'.w = s.w := by
 have hall : ∀ c ∈ s.cs, n ∉ c.ns := fun c hc hn => by
  unfold Sy.named at hno
  rw [List.findIdx?_eq_none_iff] at hno
  have h1 := hno c hc
  rw [List.contains_iff_mem.2 hn] at h1
  cases h1
 unfold Sy.create at h
 split at h
 ·rename_i i hfd
  rw [List.findIdx?_eq_some_iff_getElem] at hfd
  obtain ⟨hi, hzi, _⟩ := hfd
  rw [gJ hi] at h
  simp only at h
  obtain rfl := gP h
  have hcm := gL hi
  have hck := hk.ck _ hcm
  have hmv : ∀ d ∈ s.cs, nX (s.dU i { s.cs[i] with ns := NZ s.cs[i].ns n }) d := fun d hd => (hk.ck d hd).move rfl fun x hx => ⟨((hk.ck d hd).sk x hx).live, ((hk.ck d hd).sk x hx).chain⟩
  have hne := hall _ hcm
  refine ⟨⟨hk.wl, hk.hk, by show (s.cs.set i _).length ≤ 20; rw [List.length_set]; exact hk.cl, fun d hd => ?_, xE hk.zd (fun j hj hji => ?_) (fun j hj hij => ?_), xE hk.nd (fun j hj hji m hm hm2 => ?_) (fun j hj hij m hm => ?_), xE hk.pd (fun j hj hji => ?_) (fun j hj hij => ?_)⟩, rfl, rfl⟩
  ·rcases List.mem_or_eq_of_mem_set hd with h1 | rfl
   ·exact hmv d h1
   ·refine ⟨hck.z, hck.o, hck.r, fun e => ?_, fun m hm => ?_, Oa hck.nr hne, hck.ac, hck.sr, fun x hx => ⟨(hck.sk x hx).live, (hck.sk x hx).chain⟩, hck.aw, hck.ad⟩
    ·have h2 := (vU (l := s.cs[i].ns) (n := n) (y := n)).2 (.inl rfl)
     rw [show NZ s.cs[i].ns n = [] from e] at h2
     simp at h2
    ·rcases vU.1 hm with rfl | hm
     ·exact hnm
     ·exact hck.nm m hm
  ·exact List.pairwise_iff_getElem.1 hk.zd j i hj hi hji
  ·exact List.pairwise_iff_getElem.1 hk.zd i j hi hj hij
  ·rcases vU.1 hm2 with rfl | hm2
   ·exact hall _ (gL hj) hm
   ·exact List.pairwise_iff_getElem.1 hk.nd j i hj hi hji m hm hm2
  ·rcases vU.1 hm with rfl | hm
   ·exact hall _ (gL hj)
   ·exact List.pairwise_iff_getElem.1 hk.nd i j hi hj hij m hm
  ·exact List.pairwise_iff_getElem.1 hk.pd j i hj hi hji
  ·exact List.pairwise_iff_getElem.1 hk.pd i j hi hj hij
 ·rename_i hfd
  split at h
  ·cases h
  ·rename_i hl
   obtain rfl := gP h
   rw [List.findIdx?_eq_none_iff] at hfd
   have hcl := hk.cl
   refine ⟨⟨hk.wl, hk.hk, by simp; omega, fun d hd => ?_, ?_, ?_, ?_⟩, rfl, rfl⟩
   ·rcases List.mem_append.1 hd with h1 | h1
    ·exact (hk.ck d h1).move rfl fun x hx => ⟨((hk.ck d h1).sk x hx).live, ((hk.ck d h1).sk x hx).chain⟩
    ·obtain rfl := List.mem_singleton.1 h1
     refine ⟨hz, rfl, rfl, by simp, fun m hm => ?_, by simp, by simp, List.Pairwise.nil, fun x hx => by simp at hx, fun a ha => .inl (List.eq_of_mem_replicate ha), ?_⟩
     ·obtain rfl := List.mem_singleton.1 hm
      exact hnm
     ·rw [gN]
      intro j k hj hk' _ _
      simp
   ·show (s.cs ++ [_]).Pairwise _
    rw [List.pairwise_append]
    refine ⟨hk.zd, by simp, fun a ha b hb => ?_⟩
    obtain rfl := List.mem_singleton.1 hb
    have := hfd a ha
    simpa using this
   ·show (s.cs ++ [_]).Pairwise _
    rw [List.pairwise_append]
    refine ⟨hk.nd, by simp, fun a ha b hb m hm hm2 => ?_⟩
    obtain rfl := List.mem_singleton.1 hb
    obtain rfl := List.mem_singleton.1 hm2
    exact hall a ha hm
   ·show (s.cs ++ [_]).Pairwise _
    rw [List.pairwise_append]
    refine ⟨hk.pd, by simp, fun a ha b hb x hx y hy => ?_⟩
    obtain rfl := List.mem_singleton.1 hb
    simp at hy

def kN (k : Nat) : List UInt8 := match k with
 | 1 => [107, 49]
 | 2 => [107, 50]
 | 4 => [107, 52]
 | 8 => [107, 56]
 | 16 => [107, 49, 54]
 | _ => [107, 51, 50]
def aAF (aF k : Nat) : Ca := ⟨[kN k], k, eY k, dV k, [], List.replicate aF (-1)⟩
def dY (h : Hp) (j : Nat) : Sy := ⟨List.replicate 4096 0, h, ([1, 2, 4, 8, 16, 32].take j).map (aAF h.aF)⟩
theorem GR {h : Hp} (hk : dW h) : fC (dY h 0) := by
 have e : (dY h 0).cs = [] := rfl
 refine ⟨List.length_replicate, hk, ?_, fun c hc => ?_, ?_, ?_, ?_⟩
 ·rw [e]; exact Nat.zero_le _
 ·rw [e] at hc; cases hc
 ·rw [e]; exact List.Pairwise.nil
 ·rw [e]; exact List.Pairwise.nil
 ·rw [e]; exact List.Pairwise.nil
theorem tX (h : Hp) {j : Nat} (hj : j < 6) : (dY h j).named (kN ([1, 2, 4, 8, 16, 32].getD j 0)) = none ∧ (dY h j).create (kN ([1, 2, 4, 8, 16, 32].getD j 0)) ([1, 2, 4, 8, 16, 32].getD j 0) = some (dY h (j + 1)) ∧ nameB (kN ([1, 2, 4, 8, 16, 32].getD j 0)) = true := by
 obtain rfl | rfl | rfl | rfl | rfl | rfl : j = 0 ∨ j = 1 ∨ j = 2 ∨ j = 3 ∨ j = 4 ∨ j = 5 := by omega
 all_goals exact ⟨rfl, rfl, by decide⟩
end
section
def Rg.lo (r : Rg) (split : Nat) : Nat := min (r.f.toNat + r.s.toNat) split - r.f.toNat
def newStep (split : Nat) (z : Zn × Zn) (r : Rg) : Zn × Zn := (dO z.1 r.f.toNat (r.lo split), dO z.2 (r.f.toNat + r.lo split) (r.s.toNat - r.lo split))
def eG (split : Nat) (l : List Rg) : Zn × Zn := l.foldl (newStep split) (⟨0, split, [], List.replicate (split / 8) 1⟩, ⟨split, 256, [], List.replicate ((256 - split) / 8) 1⟩)
def newH (l : List Rg) (split least aF : Nat) : Hp := ⟨(eG split l).1, (eG split l).2, least, least, aF, [], []⟩

theorem Aq : ∀ (l : List Rg) (q : Option Rg), cO q l = true → l.Pairwise fun a b => a.f + a.s < b.f
 | [], _, _ => List.Pairwise.nil
 | r :: l, q, h => by
  simp only [cO, Bool.and_eq_true] at h
  exact List.Pairwise.cons (pF l r h.2) (Aq l _ h.2)
structure EC (split : Nat) (l : List Rg) (z : Zn × Zn) : Prop where
 o0 : z.1.ok
 o1 : z.2.ok
 f0 : z.1.f = 0
 e0 : z.1.e = split
 f1 : z.2.f = split
 e1 : z.2.e = 256
 c0 : ∀ q, eP z.1.l q ↔ (q < split ∧ bW l q = true)
 c1 : ∀ q, eP z.2.l q ↔ (split ≤ q ∧ bW l q = true)
theorem He {f e : Nat} (h1 : f ≤ e) (h2 : e ≤ 256) (h3 : f % 16 = 0) (h4 : e % 16 = 0) : (⟨f, e, [], List.replicate ((e - f) / 8) 1⟩ : Zn).ok :=
 ⟨(SQ _ _ _).2 ⟨h1, h2, h3, h4, by simp, fun t ht => by rw [(List.mem_replicate.1 ht).2]; omega⟩, (SN _ _ _).2 ⟨by simp, List.Pairwise.nil, by simp⟩⟩
theorem JI {split : Nat} (h1 : split ≤ 256) (h2 : split % 16 = 0) : EC split [] (⟨0, split, [], List.replicate (split / 8) 1⟩, ⟨split, 256, [], List.replicate ((256 - split) / 8) 1⟩) :=
 ⟨He (Nat.zero_le _) h1 rfl h2, He h1 (Nat.le_refl _) h2 rfl, rfl, rfl, rfl, rfl, fun q => by simp [eP, bW], fun q => by simp [eP, bW]⟩
structure LM (split : Nat) (l : List Rg) (r : Rg) (z : Zn × Zn) : Prop where
 f : r.f = (r.f.toNat : Int)
 s : r.s = (r.s.toNat : Int)
 fs : r.f.toNat + r.s.toNat ≤ 256
 s1 : 1 ≤ r.s.toNat
 lo : r.lo split ≤ r.s.toNat
 le : 0 < r.lo split → r.f.toNat + r.lo split ≤ split
 hi : r.lo split < r.s.toNat → split ≤ r.f.toNat + r.lo split
 d0 : ∀ q, r.f.toNat ≤ q → q < r.f.toNat + r.lo split → ¬ eP z.1.l q
 d1 : ∀ q, r.f.toNat + r.lo split ≤ q → q < r.f.toNat + r.lo split + (r.s.toNat - r.lo split) → ¬ eP z.2.l q
 next : EC split (l ++ [r]) (newStep split z r)
theorem yB {split : Nat} {l : List Rg} {r : Rg} {z : Zn × Zn} (h : EC split l z) (hck : tY r = true) (hlt : ∀ x ∈ l, x.f + x.s < r.f) (hsp : split ≤ 256) : LM split l r z := by
 have hc := jM hck
 have hf : r.f = (r.f.toNat : Int) := by omega
 have hs : r.s = (r.s.toNat : Int) := by omega
 obtain ⟨F, hF⟩ : ∃ F, r.f.toNat = F := ⟨_, rfl⟩
 obtain ⟨S, hS⟩ : ∃ S, r.s.toNat = S := ⟨_, rfl⟩
 have hno : ∀ q, F ≤ q → bW l q = false := fun q hq => by
  rw [Bool.eq_false_iff]
  intro hi
  obtain ⟨x, hx, h1, h2⟩ := (jD l q).1 hi
  have := hlt x hx
  omega
 have hone : ∀ q, bW (l ++ [r]) q = true ↔ (bW l q = true ∨ (F ≤ q ∧ q < F + S)) := fun q => by
  rw [qP, vW, Bool.or_eq_true]
  unfold nH
  rw [decide_eq_true_eq]
  refine or_congr Iff.rfl ⟨fun h => ?_, fun h => ?_⟩ <;> omega
 have hlo : r.lo split = min (F + S) split - F := by unfold Rg.lo; rw [hF, hS]
 have d0 : ∀ q, F ≤ q → q < F + r.lo split → ¬ eP z.1.l q := fun q h1 h2 hc => by
  have := ((h.c0 q).1 hc).2
  rw [hno q h1] at this
  cases this
 have d1 : ∀ q, F + r.lo split ≤ q → q < F + r.lo split + (S - r.lo split) → ¬ eP z.2.l q := fun q h1 h2 hc => by
  have := ((h.c1 q).1 hc).2
  rw [hno q (by omega)] at this
  cases this
 rw [← hF] at d0 d1
 rw [← hS] at d1
 have g0 : (dO z.1 F (r.lo split)).ok ∧ (dO z.1 F (r.lo split)).f = z.1.f ∧ (dO z.1 F (r.lo split)).e = z.1.e ∧ ∀ q, eP (dO z.1 F (r.lo split)).l q ↔ (eP z.1.l q ∨ (F ≤ q ∧ q < F + r.lo split)) := by
  by_cases h0 : r.lo split = 0
  ·rw [h0]
   refine ⟨h.o0, rfl, rfl, fun q => ⟨.inl, ?_⟩⟩
   rintro (h1 | h1)
   ·exact h1
   ·omega
  ·rw [hF] at d0
   exact lF h.o0 d0 (by rw [h.f0]; exact Nat.zero_le _) (by rw [h.e0]; omega) _ (Nat.le_refl _)
 have g1 : (dO z.2 (F + r.lo split) (S - r.lo split)).ok ∧ (dO z.2 (F + r.lo split) (S - r.lo split)).f = z.2.f ∧ (dO z.2 (F + r.lo split) (S - r.lo split)).e = z.2.e ∧ ∀ q, eP (dO z.2 (F + r.lo split) (S - r.lo split)).l q ↔ (eP z.2.l q ∨ (F + r.lo split ≤ q ∧ q < F + r.lo split + (S - r.lo split))) := by
  by_cases h0 : S - r.lo split = 0
  ·rw [h0]
   refine ⟨h.o1, rfl, rfl, fun q => ⟨.inl, ?_⟩⟩
   rintro (h1 | h1)
   ·exact h1
   ·omega
  ·rw [hF, hS] at d1
   exact lF h.o1 d1 (by rw [h.f1]; omega) (by rw [h.e1]; omega) _ (Nat.le_refl _)
 refine ⟨hf, hs, by omega, by omega, by omega, by omega, by omega, d0, d1, ?_⟩
 unfold newStep
 rw [hF, hS]
 refine ⟨g0.1, g1.1, by rw [g0.2.1]; exact h.f0, by rw [g0.2.2.1]; exact h.e0, by rw [g1.2.1]; exact h.f1, by rw [g1.2.2.1]; exact h.e1, fun q => ?_, fun q => ?_⟩
 ·simp only
  rw [g0.2.2.2, h.c0, hone]
  constructor
  ·rintro (⟨h1, h2⟩ | h1)
   ·exact ⟨h1, .inl h2⟩
   ·exact ⟨by omega, .inr (by omega)⟩
  ·rintro ⟨h1, h2 | h2⟩
   ·exact .inl ⟨h1, h2⟩
   ·exact .inr (by omega)
 ·simp only
  rw [g1.2.2.2, h.c1, hone]
  constructor
  ·rintro (⟨h1, h2⟩ | h1)
   ·exact ⟨h1, .inl h2⟩
   ·exact ⟨by omega, .inr (by omega)⟩
  ·rintro ⟨h1, h2 | h2⟩
   ·exact .inl ⟨h1, h2⟩
   ·exact .inr (by omega)
theorem Ar (split : Nat) (l : List Rg) (k : Nat) (hk : k < l.length) : eG split (l.take (k + 1)) = newStep split (eG split (l.take k)) l[k] := by
 unfold eG
 rw [List.take_succ_eq_append_getElem hk, List.foldl_append]
 rfl
theorem nJ {split : Nat} {l : List Rg} (hl : dB l = true) (h1 : split ≤ 256) (h2 : split % 16 = 0) : ∀ k, k ≤ l.length → EC split (l.take k) (eG split (l.take k))
 | 0, _ => JI h1 h2
 | k + 1, hk => by
  rw [Ar split l k hk, List.take_succ_eq_append_getElem hk]
  refine (yB (nJ hl h1 h2 k (by omega)) (kV hl _ (gL hk)) (fun x hx => ?_) h1).next
  simp only [dB, Bool.and_eq_true] at hl
  obtain ⟨j, hj, rfl⟩ := List.mem_take_iff_getElem.1 hx
  exact List.pairwise_iff_getElem.1 (Aq l none hl.2) _ _ _ hk (by omega)
theorem Oe {split : Nat} {l : List Rg} (hl : dB l = true) (h1 : split ≤ 256) (h2 : split % 16 = 0) {k : Nat} (hk : k < l.length) : LM split (l.take k) l[k] (eG split (l.take k)) := by
 refine yB (nJ hl h1 h2 k (by omega)) (kV hl _ (gL hk)) (fun x hx => ?_) h1
 simp only [dB, Bool.and_eq_true] at hl
 obtain ⟨j, hj, rfl⟩ := List.mem_take_iff_getElem.1 hx
 exact List.pairwise_iff_getElem.1 (Aq l none hl.2) _ _ _ hk (by omega)
theorem LP {l : List Rg} (hl : dB l = true) {split least aF : Nat} (h1 : split ≤ 256) (h2 : split % 16 = 0) (h3 : least ≤ 256) (h4 : 1 ≤ aF ∧ aF ≤ 4) :
  dW (newH l split least aF) ∧ ∀ p, cnt (newH l split least aF).all p = if bW l p then 1 else 0 := by
 have hi := nJ hl h1 h2 l.length (Nat.le_refl _)
 rw [List.take_length] at hi
 have hc : ∀ p, cnt (newH l split least aF).all p = if bW l p then 1 else 0 := fun p => by
  rw [dH]
  show cnt (eG split l).1.l p + cnt (eG split l).2.l p + 0 + 0 = _
  have a0 := kL (kM hi.o0.2.sep) p
  have a1 := kL (kM hi.o1.2.sep) p
  have b0 := (iW (l := (eG split l).1.l) (p := p)).trans (hi.c0 p)
  have b1 := (iW (l := (eG split l).2.l) (p := p)).trans (hi.c1 p)
  cases hp : bW l p with
  | true =>
   simp only [hp, and_true] at b0 b1
   simp only [if_true]
   omega
  | false =>
   simp only [hp, Bool.false_eq_true, and_false, iff_false] at b0 b1
   simp
   omega
 refine ⟨⟨hi.o0, hi.o1, hi.f0, hi.e0.trans hi.f1.symm, hi.e1, h3, h3, h4, List.Pairwise.nil, by simp [newH], by simp [newH], List.Pairwise.nil, fun p => ?_⟩, hc⟩
 rw [hc]
 split <;> omega
end
section
theorem JL {h : Hp} (hk : dW h) {b b' : Bk} (hb : b ∈ h.live) (hb' : b' ∈ h.live) (hne : b.a ≠ b'.a) : apartB b.a b.o b' := dN fun q h1 h2 => by
 obtain ⟨i, hi, e⟩ := List.mem_iff_getElem.1 hb
 have h3 := hk.one q
 rw [dH] at h3
 have h4 := wO hi q
 have h5 : b' ∈ h.live.eraseIdx i := by
  obtain ⟨j, hj, e'⟩ := List.mem_iff_getElem.1 hb'
  have hij : j ≠ i := fun e2 => by
   subst e2
   rw [e] at e'
   exact hne (by rw [e'])
  rw [List.mem_eraseIdx_iff_getElem]
  exact ⟨j, hj, hij, e'⟩
 have h6 : 0 < cnt (h.live.eraseIdx i) q := iW.2 ⟨b', h5, h2⟩
 have h7 : hit h.live[i] q = 1 := jE.2 (by rw [e]; exact h1)
 omega
theorem fC.Hq {s : Sy} (hk : fC s) {c d : Ca} {x y : Sl} {a : Int} (hc : c ∈ s.cs) (hd : d ∈ s.cs) (hx : x ∈ c.sl) (hy : y ∈ d.sl) (h1 : iM c x.p a = true) (h2 : iM d y.p a = true) : x.p = y.p := by
 obtain ⟨b, hb, hb1, hb2⟩ := ((hk.ck c hc).sk x hx).live
 obtain ⟨b', hb', hb1', hb2'⟩ := ((hk.ck d hd).sk y hy).live
 apply Decidable.byContradiction
 intro hne
 have h3 := JL hk.hk hb hb' (by rw [hb1, hb1']; exact hne)
 unfold apartB Bk.fin at h3
 rw [hb1, hb2, hb1', hb2'] at h3
 have h4 := jY (hk.ck c hc).room h1
 have h5 := jY (hk.ck d hd).room h2
 generalize 2 ^ c.o = q at *
 generalize 2 ^ d.o = q' at *
 omega
theorem fC.only {s : Sy} (hk : fC s) {i j k l : Nat} {a : Int} (hi : i < s.cs.length) (hj : j < s.cs.length) (hki : k < s.cs[i].sl.length) (hlj : l < s.cs[j].sl.length) (h1 : iM s.cs[i] s.cs[i].sl[k].p a = true) (h2 : iM s.cs[j] s.cs[j].sl[l].p a = true) : i = j ∧ k = l := by
 have hp := hk.Hq (gL hi) (gL hj) (gL hki) (gL hlj) h1 h2
 have hij : i = j := by
  rcases Nat.lt_trichotomy i j with h | h | h
  ·exact absurd hp (List.pairwise_iff_getElem.1 hk.pd i j hi hj h _ (gL hki) _ (gL hlj))
  ·exact h
  ·exact absurd hp.symm (List.pairwise_iff_getElem.1 hk.pd j i hj hi h _ (gL hlj) _ (gL hki))
 subst hij
 refine ⟨rfl, ?_⟩
 have hsr := (hk.ck _ (gL hi)).sr
 rw [gN] at hsr
 rcases Nat.lt_trichotomy k l with h | h | h
 ·have := hsr k l hki hlj h
  omega
 ·exact h
 ·have := hsr l k hlj hki h
  omega
end
section
theorem nP : ∀ {l m : List Int}, l.Nodup → (∀ a ∈ l, a ∈ m) → l.length ≤ m.length
 | [], _, _, _ => Nat.zero_le _
 | a :: l, m, hd, hs => by
  rw [List.nodup_cons] at hd
  have h1 := hs a (by simp)
  have h2 := nP (l := l) (m := m.erase a) hd.2 fun b hb => (List.mem_erase_of_ne (fun e => hd.1 (by rw [← e]; exact hb))).2 (hs b (List.mem_cons_of_mem _ hb))
  rw [List.length_erase_of_mem h1] at h2
  have h3 := List.length_pos_of_mem h1
  simp only [List.length_cons]
  omega
theorem Rl {p z r : Nat} {a : Int} : a ∈ objs p z r ↔ ∃ j, j < r ∧ a = ((p + j * z : Nat) : Int) := by
 unfold objs
 simp only [List.mem_map, List.mem_range]
 constructor
 ·rintro ⟨j, hj, e⟩; exact ⟨j, hj, e.symm⟩
 ·rintro ⟨j, hj, e⟩; exact ⟨j, hj, e.symm⟩
theorem xH {c : Ca} {p : Nat} {a : Int} (hz : 1 ≤ c.z) : iM c p a = true ↔ a ∈ objs (16 * p) c.z c.r := by
 rw [Rl]
 constructor
 ·intro h
  obtain ⟨h1, h2, h3⟩ := rC h
  obtain ⟨d, hd⟩ : ∃ d : Nat, a - 16 * p = d := ⟨(a - 16 * p).toNat, by omega⟩
  rw [hd] at h3
  have h4 : d % c.z = 0 := by exact_mod_cast h3
  have h5 : d < c.r * c.z := by
   have : ((d : Nat) : Int) < ((c.r * c.z : Nat) : Int) := by push_cast; omega
   omega
  have h6 : d / c.z * c.z = d := Nat.div_mul_cancel (Nat.dvd_of_mod_eq_zero h4)
  refine ⟨d / c.z, Nat.div_lt_of_lt_mul (by rw [Nat.mul_comm]; exact h5), ?_⟩
  rw [h6]
  push_cast
  omega
 ·rintro ⟨j, hj, rfl⟩
  unfold iM
  simp only [decide_eq_true_eq]
  have h1 : ((16 * p + j * c.z : Nat) : Int) - 16 * (p : Int) = (j : Int) * c.z := by push_cast; omega
  rw [h1]
  have h2 : (j : Int) * c.z = ((j * c.z : Nat) : Int) := by push_cast; rfl
  have h3 : (c.r : Int) * c.z = ((c.r * c.z : Nat) : Int) := by push_cast; rfl
  have h4 : j * c.z < c.r * c.z := Nat.mul_lt_mul_of_pos_right hj hz
  exact ⟨by omega, by omega, Int.mul_emod_left _ _⟩
theorem JM {p z r : Nat} (hz : 1 ≤ z) : (objs p z r).Nodup := by
 unfold objs List.Nodup
 rw [List.pairwise_map]
 refine List.Pairwise.imp ?_ (List.pairwise_lt_range (n := r))
 intro a b hab e
 have h1 : p + a * z = p + b * z := by exact_mod_cast e
 have h2 : a * z < b * z := Nat.mul_lt_mul_of_pos_right hab hz
 omega
theorem CY {c : Ca} {p : Nat} {l : List Int} (hz : 1 ≤ c.z) (hd : l.Nodup) (ho : ∀ a ∈ l, iM c p a = true) : l.length ≤ c.r := by
 have h := nP hd fun a ha => (xH hz).1 (ho a ha)
 rwa [mV] at h
theorem Dc {c : Ca} {p : Nat} {l : List Int} (hz : 1 ≤ c.z) (hd : l.Nodup) (ho : ∀ a ∈ l, iM c p a = true) (hl : c.r ≤ l.length) {a : Int} (h : iM c p a = true) : a ∈ l := by
 apply Decidable.byContradiction
 intro hn
 have h1 := CY (l := a :: l) hz (List.nodup_cons.2 ⟨hn, hd⟩) fun b hb => by
  rcases List.mem_cons.1 hb with rfl | hb
  ·exact h
  ·exact ho b hb
 simp only [List.length_cons] at h1
 omega
theorem Oh {c : Ca} {p : Nat} {l : List Int} (hz : 1 ≤ c.z) (hl : l.length < c.r) : ∃ a, iM c p a = true ∧ a ∉ l := by
 apply Classical.byContradiction
 intro hn
 have h1 : ∀ a ∈ objs (16 * p) c.z c.r, a ∈ l := fun a ha => Decidable.byContradiction fun h => hn ⟨a, (xH hz).2 ha, h⟩
 have h2 := nP (JM hz) h1
 rw [mV] at h2
 omega

def lG (w : List Int) (c : Ca) (x : Sl) (a : Int) : Prop := iM c x.p a = true ∧ ∀ l, follow w x.h c.r = some l → a ∉ l
def Sy.away (s : Sy) (i : Nat) (a : Int) : Prop := ∃ c, s.cs[i]? = some c ∧ ∃ x ∈ c.sl, lG s.w c x a
theorem JO {l : List Sl} {k : Nat} (hk : k < l.length) (x' : Sl) (P : Sl → Prop) : (∃ y ∈ l.set k x', P y) ↔ (∃ j, ∃ h : j < l.length, j ≠ k ∧ P l[j]) ∨ P x' := by
 constructor
 ·rintro ⟨y, hy, hp⟩
  obtain ⟨j, hj, e⟩ := List.mem_iff_getElem.1 hy
  rw [List.length_set] at hj
  rw [List.getElem_set] at e
  split at e
  ·exact .inr (e ▸ hp)
  ·rename_i hne
   exact .inl ⟨j, hj, fun e' => hne e'.symm, by rw [e]; exact hp⟩
 ·rintro (⟨j, hj, hne, hp⟩ | hp)
  ·refine ⟨l[j], ?_, hp⟩
   rw [List.mem_iff_getElem]
   exact ⟨j, by simpa using hj, by rw [List.getElem_set, if_neg fun e => hne e.symm]⟩
  ·exact ⟨x', List.mem_iff_getElem.2 ⟨k, by simpa using hk, by simp⟩, hp⟩
theorem Df {l : List Sl} {k : Nat} (hk : k < l.length) (P : Sl → Prop) : (∃ y ∈ l, P y) ↔ (∃ j, ∃ h : j < l.length, j ≠ k ∧ P l[j]) ∨ P l[k] := by
 constructor
 ·rintro ⟨y, hy, hp⟩
  obtain ⟨j, hj, e⟩ := List.mem_iff_getElem.1 hy
  by_cases h : j = k
  ·subst h
   exact .inr (e ▸ hp)
  ·exact .inl ⟨j, hj, h, by rw [e]; exact hp⟩
 ·rintro (⟨j, hj, hne, hp⟩ | hp)
  ·exact ⟨l[j], gL hj, hp⟩
  ·exact ⟨l[k], gL hk, hp⟩
theorem Hr {l : List Sl} {k : Nat} (P : Sl → Prop) : (∃ y ∈ l.eraseIdx k, P y) ↔ (∃ j, ∃ h : j < l.length, j ≠ k ∧ P l[j]) := by
 constructor
 ·rintro ⟨y, hy, hp⟩
  rw [List.mem_eraseIdx_iff_getElem] at hy
  obtain ⟨j, hj, hne, e⟩ := hy
  exact ⟨j, hj, hne, by rw [e]; exact hp⟩
 ·rintro ⟨j, hj, hne, hp⟩
  refine ⟨l[j], ?_, hp⟩
  rw [List.mem_eraseIdx_iff_getElem]
  exact ⟨j, hj, hne, rfl⟩
theorem mM {s s' : Sy} {i : Nat} {c c' : Ca} (hi : s.cs[i]? = some c) (hcs : s'.cs = s.cs.set i c') (b : Int) : (s'.away i b ↔ ∃ x ∈ c'.sl, lG s'.w c' x b) ∧ ∀ j, j ≠ i → (s'.away j b ↔ ∃ d, s.cs[j]? = some d ∧ ∃ x ∈ d.sl, lG s'.w d x b) := by
 have hil := (List.getElem?_eq_some_iff.1 hi).1
 constructor
 ·unfold Sy.away
  rw [hcs, List.getElem?_set_self hil]
  constructor
  ·rintro ⟨d, hd, h⟩
   obtain rfl := gP hd
   exact h
  ·exact fun h => ⟨c', rfl, h⟩
 ·intro j hj
  unfold Sy.away
  rw [hcs, List.getElem?_set_ne fun e => hj e.symm]
theorem kY {s : Sy} {i : Nat} {c : Ca} (hi : s.cs[i]? = some c) (b : Int) : s.away i b ↔ ∃ x ∈ c.sl, lG s.w c x b := by
 unfold Sy.away
 rw [hi]
 constructor
 ·rintro ⟨d, hd, h⟩
  obtain rfl := gP hd
  exact h
 ·exact fun h => ⟨c, rfl, h⟩
theorem lH {w : List Int} {c : Ca} {x : Sl} {l : List Int} (h : follow w x.h c.r = some l) (a : Int) : lG w c x a ↔ iM c x.p a = true ∧ a ∉ l := by
 unfold lG
 constructor
 ·exact fun h1 => ⟨h1.1, h1.2 l h⟩
 ·rintro ⟨h1, h2⟩
  refine ⟨h1, fun m hm => ?_⟩
  rw [h] at hm
  obtain rfl := gP hm
  exact h2
theorem fC.Rn {s : Sy} (hk : fC s) {i j k : Nat} {c : Ca} {a : Int} (hi : s.cs[i]? = some c) (hj : j < c.sl.length) (hkl : k < c.sl.length) (h1 : iM c c.sl[j].p a = true) (h2 : iM c c.sl[k].p a = true) : j = k := by
 obtain ⟨hil, e⟩ := List.getElem?_eq_some_iff.1 hi
 subst e
 exact (hk.only hil hil hj hkl h1 h2).2

theorem fC.Ro {s s' : Sy} (hk : fC s) {i k : Nat} {c : Ca} {x : Sl} {a : Int} (hi : s.cs[i]? = some c) (hx : c.sl[k]? = some x) (hn : 0 < x.n) (hp : s.pop i k = some (s', a)) :
  ¬ s.away i a ∧ ∀ j b, s'.away j b ↔ s.away j b ∨ (j = i ∧ b = a) := by
 obtain ⟨_, _, hw, rfl, hs'⟩ := hk.pop hi hx hn hp
 have hxm := gM hx
 obtain ⟨hkl, hkx⟩ := List.getElem?_eq_some_iff.1 hx
 obtain ⟨m, h2, h3, h4, h5, h6, h7⟩ := hk.first (gM hi) hxm hn
 have hnd := (gW.1 h2).2.2.2
 have hob : iM c x.p x.h = true := h4 x.h (by simp)
 have hnm : x.h ∉ m := (List.nodup_cons.1 hnd).1
 have hnot : ¬ s.away i x.h := by
  rw [kY hi, Df hkl]
  rintro (⟨j, hj, hne, h, _⟩ | h)
  ·exact hne (hk.Rn hi hj hkl h (by rw [hkx]; exact hob))
  ·rw [hkx, lH h2] at h
   exact h.2 (by simp)
 refine ⟨hnot, fun j b => ?_⟩
 have hst := mM (s' := s') (c' := { c with sl := c.sl.set k ⟨x.p, x.n - 1, s.w.getD x.h.toNat 0⟩ }) hi (by rw [hs']; rfl) b
 by_cases hj : j = i
 ·subst hj
  rw [hst.1, kY hi, JO hkl, Df hkl, hkx, lH h2, hw]
  have h8 : lG s.w { c with sl := c.sl.set k ⟨x.p, x.n - 1, s.w.getD x.h.toNat 0⟩ } ⟨x.p, x.n - 1, s.w.getD x.h.toNat 0⟩ b ↔ iM c x.p b = true ∧ b ∉ m := lH (x := ⟨x.p, x.n - 1, s.w.getD x.h.toNat 0⟩) (c := { c with sl := c.sl.set k ⟨x.p, x.n - 1, s.w.getD x.h.toNat 0⟩ }) h7 b
  rw [h8]
  have h9 : (∃ j, ∃ h : j < c.sl.length, j ≠ k ∧ lG s.w { c with sl := c.sl.set k ⟨x.p, x.n - 1, s.w.getD x.h.toNat 0⟩ } c.sl[j] b) ↔ (∃ j, ∃ h : j < c.sl.length, j ≠ k ∧ lG s.w c c.sl[j] b) := Iff.rfl
  rw [h9, List.mem_cons]
  constructor
  ·rintro (h | ⟨h, h'⟩)
   ·exact .inl (.inl h)
   ·by_cases hb : b = x.h
    ·exact .inr ⟨rfl, hb⟩
    ·exact .inl (.inr ⟨h, fun h0 => h0.elim hb h'⟩)
  ·rintro ((h | ⟨h, h'⟩) | ⟨_, rfl⟩)
   ·exact .inl h
   ·exact .inr ⟨h, fun h0 => h' (.inr h0)⟩
   ·exact .inr ⟨hob, hnm⟩
 ·rw [hst.2 j hj, hw]
  constructor
  ·exact fun h => .inl h
  ·rintro (h | ⟨h, _⟩)
   ·exact h
   ·exact absurd h hj
theorem pO.yE {s s' : Sy} {c : Ca} {x : Sl} (h : pO s c x) (hw : s'.w.length = s.w.length) (hs : ∀ a : Int, iM c x.p a = true → s'.w.getD a.toNat 0 = s.w.getD a.toNat 0) : follow s'.w x.h c.r = follow s.w x.h c.r := by
 obtain ⟨l, h3, h4, h5⟩ := h.chain
 rw [h3]
 rw [gW] at h3 ⊢
 rw [hw]
 exact ⟨h3.1.move fun a ha => hs a (h5 a ha), h3.2⟩
theorem Dh {w w' : List Int} {c : Ca} {x : Sl} (h : follow w' x.h c.r = follow w x.h c.r) (a : Int) : lG w' c x a ↔ lG w c x a := by
 unfold lG
 rw [h]
theorem fC.UA {s s' : Sy} (hk : fC s) {i cpu k : Nat} {c : Ca} (hi : s.cs[i]? = some c) (fH : cpu < s.h.aF) (hg : s.grow i cpu c = some (s', k)) :
  ∃ a, s'.w = chainTo s.w (16 * a) c.z c.r c.r ∧ s'.cs = s.cs.set i { c with sl := mP c.sl ⟨a, c.r, ((16 * a : Nat) : Int)⟩ } ∧ s'.h.live = bG s.h.live ⟨a, c.o, 0⟩ ∧ 16 * a + c.z * c.r ≤ s.w.length ∧
   ∀ d ∈ s.cs, ∀ x ∈ d.sl, x.p ≠ a ∧ ∀ o : Int, iM d x.p o = true → s'.w.getD o.toNat 0 = s.w.getD o.toNat 0 := by
 have hck := hk.ck c (gM hi)
 have hor : c.o ≤ 4 := by rw [hck.o]; exact gQ (lD _) (by decide)
 unfold Sy.grow at hg
 cases hal : s.h.alloc cpu c.o 0 false false with
 | none => rw [hal] at hg; cases hg
 | some r =>
  obtain ⟨h', a⟩ := r
  rw [hal] at hg
  have h1 := gP hg
  rw [Prod.mk.injEq] at h1
  obtain ⟨rfl, rfl⟩ := h1
  obtain ⟨hh, hcnt, hsame, hlive, hfit⟩ := hk.hk.alloc fH hor (by decide) hal
  have hcl : h'.live = bG s.h.live ⟨a, c.o, 0⟩ := hlive
  have hap : ∀ b ∈ s.h.live, apartB a c.o b := fun b hb => dN fun q h1 h2 => by
   have h3 := hh.one q
   rw [dH, hcl, wM] at h3
   have h4 : 0 < cnt s.h.live q := iW.2 ⟨b, hb, h2⟩
   have h5 : hit (⟨a, c.o, 0⟩ : Bk) q = 1 := jE.2 h1
   omega
  have hpp := Nat.two_pow_pos c.o
  have hin : 16 * a + c.z * c.r ≤ s.w.length := by
   have h1 := hck.room
   have h2 : a + 2 ^ c.o ≤ 256 := by
    have h3 : c.o ≤ 2 := by rw [hck.o]; exact lD _
    obtain ⟨_, _, h4, h5⟩ := hfit
    generalize c.o = o at *
    obtain rfl | rfl | rfl : o = 0 ∨ o = 1 ∨ o = 2 := by omega
    ·omega
    ·omega
    ·omega
   rw [Nat.mul_comm c.z, hk.wl]
   generalize c.r * c.z = m at *
   generalize 2 ^ c.o = q at *
   omega
  refine ⟨a, rfl, rfl, hcl, hin, fun d hd x hx => ?_⟩
  have hdk := hk.ck d hd
  obtain ⟨b, hb, hb1, hb2⟩ := (hdk.sk x hx).live
  have h1 := hap b hb
  unfold apartB Bk.fin at h1
  rw [hb1, hb2] at h1
  have hp2 := Nat.two_pow_pos d.o
  refine ⟨by omega, fun o ho => qN _ _ _ _ _ (Nat.le_refl _) _ ?_ hck.z.1⟩
  have h2 := jY hdk.room ho
  have h3 := hck.room
  rw [Nat.mul_comm c.z c.r]
  generalize c.r * c.z = m at *
  generalize 2 ^ c.o = q at *
  generalize 2 ^ d.o = q' at *
  omega
theorem fC.Oi {s s' : Sy} (hk : fC s) {i cpu k : Nat} {c : Ca} (hi : s.cs[i]? = some c) (fH : cpu < s.h.aF) (hg : s.grow i cpu c = some (s', k)) (j : Nat) (b : Int) : s'.away j b ↔ s.away j b := by
 have hck := hk.ck c (gM hi)
 obtain ⟨a, hw, hcs, _, hin, hsl⟩ := hk.UA hi fH hg
 have hwl : s'.w.length = s.w.length := by rw [hw]; exact fD _ _ _ _ _
 have hr1 : 1 ≤ c.r := by rw [hck.r]; exact Gz hck.z
 have hst := mM (s' := s') hi hcs b
 have hsame : ∀ d ∈ s.cs, ∀ x ∈ d.sl, (lG s'.w d x b ↔ lG s.w d x b) := fun d hd x hx => Dh (((hk.ck d hd).sk x hx).yE hwl (hsl d hd x hx).2) b
 by_cases hj : j = i
 ·subst hj
  rw [hst.1, kY hi]
  have Rq := uI s.w (16 * a) c.z c.r c.r hck.z.1 hr1 hin (by omega)
  rw [if_pos (Int.le_refl _), ← hw] at Rq
  constructor
  ·rintro ⟨x, hx, h⟩
   rcases qM.1 hx with rfl | hx
   ·exfalso
    refine h.2 _ Rq ?_
    exact (xH (c := c) hck.z.1).1 h.1
   ·exact ⟨x, hx, (hsame c (gM hi) x hx).1 h⟩
  ·rintro ⟨x, hx, h⟩
   exact ⟨x, qM.2 (.inr hx), (hsame c (gM hi) x hx).2 h⟩
 ·rw [hst.2 j hj]
  unfold Sy.away
  constructor
  ·rintro ⟨d, hd, x, hx, h⟩
   exact ⟨d, hd, x, hx, (hsame d (gM hd) x hx).1 h⟩
  ·rintro ⟨d, hd, x, hx, h⟩
   exact ⟨d, hd, x, hx, (hsame d (gM hd) x hx).2 h⟩
theorem Di (s : Sy) (i cpu k j : Nat) (b : Int) : (s.mine i cpu k).away j b ↔ s.away j b := by
 unfold Sy.mine
 cases hc : s.cs[i]? with
 | none => rfl
 | some c =>
  simp only
  cases hx : c.sl[k]? with
  | none => rfl
  | some x =>
   have hst := mM (s' := s.dU i { c with ac := c.ac.set cpu (x.p : Int) }) (c' := { c with ac := c.ac.set cpu (x.p : Int) }) hc rfl b
   by_cases hj : j = i
   ·subst hj
    rw [hst.1, kY hc]
    exact Iff.rfl
   ·rw [hst.2 j hj]
    exact Iff.rfl
theorem fC.Ht {s s' : Sy} (hk : fC s) {i cpu k : Nat} {c : Ca} (hi : s.cs[i]? = some c) (fH : cpu < s.h.aF) (hg : s.choose i cpu = some (s', k)) (j : Nat) (b : Int) : s'.away j b ↔ s.away j b := by
 unfold Sy.choose at hg
 rw [hi] at hg
 simp only at hg
 split at hg
 ·have h1 := gP hg
  rw [Prod.mk.injEq] at h1
  rw [← h1.1]
 ·split at hg
  ·have h1 := gP hg
   rw [Prod.mk.injEq] at h1
   rw [← h1.1]
   exact Di _ _ _ _ _ _
  ·split at hg
   ·rename_i heq
    have h1 := gP hg
    rw [Prod.mk.injEq] at h1
    rw [← h1.1, Di]
    exact hk.Oi hi fH heq j b
   ·cases hg
theorem fC.Rt {s s' : Sy} (hk : fC s) {i cpu : Nat} {c : Ca} {a : Int} (hi : s.cs[i]? = some c) (fH : cpu < s.h.aF) (hg : s.one i cpu = some (s', a)) : ¬ s.away i a ∧ ∀ j b, s'.away j b ↔ s.away j b ∨ (j = i ∧ b = a) := by
 unfold Sy.one at hg
 cases hch : s.choose i cpu with
 | none => rw [hch] at hg; cases hg
 | some r =>
  obtain ⟨s2, k⟩ := r
  rw [hch] at hg
  simp only at hg
  obtain ⟨h1, h2, c', x, h3, h4, h5⟩ := hk.choose hi fH hch
  obtain ⟨h6, h7⟩ := h1.Ro h3 h4 h5 hg
  have h8 := fun j b => hk.Ht hi fH hch j b
  exact ⟨fun h => h6 ((h8 i a).2 h), fun j b => by rw [h7, h8]⟩
end
section
theorem kJ {α β : Type} {f : α → β} {l : List α} {i : Nat} {c c' : α} (h : l[i]? = some c) (he : f c' = f c) : (l.set i c').map f = l.map f := by
 obtain ⟨hi, hc⟩ := List.getElem?_eq_some_iff.1 h
 apply List.ext_getElem (by simp)
 intro j h1 h2
 simp only [List.getElem_map, List.getElem_set]
 split
 ·rename_i e
  subst e
  rw [he, hc]
 ·rfl
def Sy.sig (s : Sy) : List (List (List UInt8) × Nat) := s.cs.map fun c => (c.ns, c.z)
theorem Hu (s : Sy) (i cpu k : Nat) : (s.mine i cpu k).sig = s.sig := by
 unfold Sy.mine Sy.sig
 cases hc : s.cs[i]? with
 | none => rfl
 | some c =>
  simp only
  cases hx : c.sl[k]? with
  | none => rfl
  | some x => exact kJ hc rfl
theorem UC {s t : Sy} {i k : Nat} {a : Int} (h : s.pop i k = some (t, a)) : t.sig = s.sig := by
 unfold Sy.pop at h
 cases hc : s.cs[i]? with
 | none => rw [hc] at h; cases h
 | some c =>
  rw [hc] at h
  simp only at h
  cases hx : c.sl[k]? with
  | none => rw [hx] at h; cases h
  | some x =>
   rw [hx] at h
   have h1 := gP h
   rw [Prod.mk.injEq] at h1
   rw [← h1.1]
   exact kJ hc rfl
theorem Ru {s t : Sy} {i cpu k : Nat} {c : Ca} (hc : s.cs[i]? = some c) (h : s.grow i cpu c = some (t, k)) : t.sig = s.sig := by
 unfold Sy.grow at h
 split at h
 ·have h1 := gP h
  rw [Prod.mk.injEq] at h1
  rw [← h1.1]
  exact kJ hc rfl
 ·cases h
theorem JQ {s t : Sy} {i cpu k : Nat} (h : s.choose i cpu = some (t, k)) : t.sig = s.sig := by
 unfold Sy.choose at h
 cases hc : s.cs[i]? with
 | none => rw [hc] at h; cases h
 | some c =>
  rw [hc] at h
  simp only at h
  split at h
  ·have h1 := gP h
   rw [Prod.mk.injEq] at h1
   rw [← h1.1]
  ·split at h
   ·have h1 := gP h
    rw [Prod.mk.injEq] at h1
    rw [← h1.1]
    exact Hu _ _ _ _
   ·split at h
    ·rename_i heq
     have h1 := gP h
     rw [Prod.mk.injEq] at h1
     rw [← h1.1, Hu]
     exact Ru hc heq
    ·cases h
theorem UD {s t : Sy} {i cpu : Nat} {a : Int} (h : s.one i cpu = some (t, a)) : t.sig = s.sig := by
 unfold Sy.one at h
 cases hc : s.choose i cpu with
 | none => rw [hc] at h; cases h
 | some r =>
  obtain ⟨u, k⟩ := r
  rw [hc] at h
  exact (UC h).trans (JQ hc)
def Sy.nss (s : Sy) : List (List (List UInt8)) := s.cs.map (·.ns)
theorem Au {s t : Sy} (h : t.sig = s.sig) : t.nss = s.nss := by
 have h1 := congrArg (List.map Prod.fst) h
 unfold Sy.sig at h1
 simp only [List.map_map] at h1
 exact h1
theorem UE {s t : Sy} {i cpu : Nat} {a : Int} (h : s.one i cpu = some (t, a)) : t.nss = s.nss := Au (UD h)
theorem EF {s t : Sy} (h : t.nss = s.nss) {N : Nat} (hs : ∀ c ∈ s.cs, c.ns.length ≤ N) : ∀ c ∈ t.cs, c.ns.length ≤ N := fun c hc => by
 have h1 : c.ns ∈ t.nss := List.mem_map_of_mem hc
 rw [h] at h1
 obtain ⟨d, hd, e⟩ := List.mem_map.1 h1
 rw [← e]
 exact hs d hd
end
section
open Go.RowKit

theorem Oj (a1 a2 : Option Addr) (n1 n2 c1 c2 : Nat) (z : Zn) (p : Nat) (w : World) (hat : Dw w a1 a2 n1 n2 z) (hz : z.ok) (h1 : z.f ≤ p) (h2 : p < z.e) :
  Calls Tryz.prog 137 #[.agg #[.int .i64 z.f, .int .i64 z.e, .slice a1 n1 c1, .slice a2 n2 c2], .int .i64 p] w fun ev w' => ev = .returned (.tuple #[.int .i64 (z.y.getD ((p - z.f) / 8) 0 : Nat), .int .i64 0]) ∧ Below w.heap.size w w' := by
 have hee := hz.1.e2
 obtain ⟨K1, F1, hsz, hbw⟩ := boxes1 w #[.int .i64 (z.f : Int), .int .i64 (z.e : Int), .slice a1 n1 c1, .slice a2 n2 c2] 102
 have lQ := hat.below hbw
 have l2 := hat.l2
 have hj : (p - z.f) / 8 < z.y.length := by rw [hz.1.len]; have := hz.1.f16; have := hz.1.e16; omega
 have qG : z.y.getD ((p - z.f) / 8) 0 = z.y[(p - z.f) / 8] := by rw [List.getD_eq_getElem?_getD, gJ hj]; rfl
 rw [qG]
 obtain ⟨ty, hty⟩ : ∃ ty, z.y[(p - z.f) / 8] = ty := ⟨_, rfl⟩
 rw [hty]
 have Yw := gO hty
 clear hat qG hty
 have d1 : decide (p < z.f) = false := decide_eq_false (by omega)
 have d2 : (p : Int) < z.e := by omega
 have d3 : (z.f : Int) ≤ p := by omega
 have Ve : ((p : Int) - z.f) / 8 = (((p - z.f) / 8 : Nat) : Int) := by omega
 have hjn : ((((p - z.f) / 8 : Nat) : Int)) < n2 := by omega
 go_enter Tryz.func137, Tryz.ntmps137
 go_wp2_with fail
 generalize w.alloc (.cells #[.int .i64 (z.f : Int), .int .i64 (z.e : Int), .slice a1 n1 c1, .slice a2 n2 c2] 102) = w0 at *
 refine (mD _ _ _ _ _ _ z _ lQ hz).mono ?_
 rintro ev w1 ⟨rfl, hb1⟩
 have BQ := aC K1 hsz hb1
 have AY := lQ.below hb1
 obtain ⟨tb, DF, ht1, htb, htc⟩ := aN bM (by decide) AY.r2 hj
 obtain rfl := ht1
 have uS := gV htc
 rw [Nat.mul_one] at uS
 have sK := Below.step hbw hb1
 clear htc AY lQ K1 F1 hb1 hbw
 rw [Yw.out] at uS
 clear Yw
 generalize (p - z.f) / 8 = J at *
 go_wp2
 go_ret2
 exact ⟨rfl, sK⟩
end
section
def zz (j : Nat) : Nat := [1, 2, 4, 8, 16, 32].getD j 0
end
end Go.Proofs.YtcmpmobhongkiaaGreatDoor
