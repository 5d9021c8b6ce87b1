/- texts of this claim, joined. -/
import Derived.Test.YtcmpmobhongkiaaGreatDoorCG0
import Derived.Test.YtcmpmobhongkiaaGreatDoorCG10
import Derived.Test.YtcmpmobhongkiaaGreatDoorCG11
import Derived.Test.YtcmpmobhongkiaaGreatDoorCG16
import Derived.Test.YtcmpmobhongkiaaGreatDoorCG3
set_option linter.unusedVariables false
set_option linter.unusedSimpArgs false
namespace Go.Proofs.YtcmpmobhongkiaaGreatDoor
section
open Go.RowKit

structure Hc where
 az : Option Addr
 cz : Nat
 am : Option Addr
 cm : Nat
 al : Option Addr
 cl : Nat
 av : Option Addr
 cv : Nat
 y0 : Zc
 y1 : Zc
 lc : List Lc
def vX (c : Hc) : Rs := ⟨102, 4, .slice c.az 2 c.cz, 2, flat kJ [c.y0, c.y1]⟩
def nP (c : Hc) : Rs := ⟨207, 4, .slice c.al c.lc.length c.cl, c.lc.length, flat bG c.lc⟩
def uS (c : Hc) (h : Hp) : Rs := ⟨63, 3, .slice c.av h.live.length c.cv, h.live.length, flat aO h.live⟩
def jB (r : Lc) : Rs := ⟨3, 1, .slice r.a r.n r.c, r.n, flat fH r.l.p⟩
def Ur (c : Hc) (h : Hp) : Rs := ⟨3, 1, .slice c.am 2 c.cm, 2, flat fH [h.m0, h.m1]⟩
def NQ (y : Zc) : Rs := ⟨63, 3, .slice y.a1 y.n1 y.c1, y.n1, flat aO y.z.l⟩
def NR (y : Zc) : Rs := ⟨3, 1, .slice y.a2 y.n2 y.c2, y.n2, flat fH y.z.y⟩
def Hc.rows (c : Hc) (h : Hp) : List Rs := vX c :: nP c :: uS c h :: c.lc.map jB
def Hc.reads (c : Hc) (h : Hp) : List Rs := [Ur c h, NQ c.y0, NR c.y0, NQ c.y1, NR c.y1]
def Hc.vals (c : Hc) (h : Hp) : Array Value := #[.slice c.az 2 c.cz, .slice c.am 2 c.cm, .int .i64 (h.aF : Int), .slice c.al c.lc.length c.cl, .slice c.av h.live.length c.cv]

structure HR (W : World) (G : Nat) (X : Nat → Prop) (h : Hp) (c : Hc) : Prop where
 own : cZ W 0 (c.rows h)
 ro : ∀ r ∈ c.reads h, r.on W 0
 ds : ∀ r ∈ c.reads h, ∀ s ∈ c.rows h, r.off s
 og : ∀ r ∈ c.rows h, ∀ g, r.v.ownBlock = some g → g ≠ G ∧ ¬ X g
 rg : ∀ r ∈ c.reads h, r.v.ownBlock ≠ some G
 rx : ∀ r ∈ c.reads h, ∀ g, r.v.ownBlock = some g → ¬ X g
 gs : G < W.heap.size
 xg : ¬ X G
 xs : ∀ k, X k → k < W.heap.size
 e0 : c.y0.z = h.z0
 e1 : c.y1.z = h.z1
 ll : c.lc.map Lc.l = h.ls
structure HS (W : World) (G : Nat) (X : Nat → Prop) (h : Hp) (c : Hc) : Prop where
 r : HR W G X h c
 k : ∀ o, W.cell? ⟨G, o, none⟩ = (c.vals h)[o]?
 fz : ∀ o, W.frozen? ⟨G, o, none⟩ = false

theorem Qx {W : World} {b : Nat} {y : Zc} (h : (NQ y).on W b) : y.z.l.length = y.n1 := by
 have h1 := h.1
 unfold NQ at h1
 simp only at h1
 rw [flat_length aI] at h1
 omega
theorem Qy {W : World} {b : Nat} {y : Zc} (h : (NR y).on W b) : y.z.y.length = y.n2 := by
 have h1 := h.1
 unfold NR at h1
 simp only at h1
 rw [flat_length bP] at h1
 omega
theorem sK {W : World} {b : Nat} {y : Lc} (h : (jB y).on W b) : y.l.p.length = y.n := by
 have h1 := h.1
 unfold jB at h1
 simp only at h1
 rw [flat_length bP] at h1
 omega
section
variable {W W' : World} {G : Nat} {X Y : Nat → Prop} {h : Hp} {c : Hc}
theorem HR.jK (hs : HR W G X h c) : ∀ r ∈ c.lc, (jB r).on W 0 := fun r hr => hs.own.each _ (by
 unfold Hc.rows
 exact List.mem_cons_of_mem _ (List.mem_cons_of_mem _ (List.mem_cons_of_mem _ (List.mem_map_of_mem hr))))
theorem HR.zs (hs : HR W G X h c) : (vX c).on W 0 := hs.own.each _ (by simp [Hc.rows])
theorem HR.Xz (hs : HR W G X h c) : (nP c).on W 0 := hs.own.each _ (by simp [Hc.rows])
theorem HR.lv (hs : HR W G X h c) : (uS c h).on W 0 := hs.own.each _ (by simp [Hc.rows])
theorem HR.mn (hs : HR W G X h c) : (Ur c h).on W 0 := hs.ro _ (by simp [Hc.reads])
theorem HR.l0 (hs : HR W G X h c) : (NQ c.y0).on W 0 := hs.ro _ (by simp [Hc.reads])
theorem HR.t0 (hs : HR W G X h c) : (NR c.y0).on W 0 := hs.ro _ (by simp [Hc.reads])
theorem HR.l1 (hs : HR W G X h c) : (NQ c.y1).on W 0 := hs.ro _ (by simp [Hc.reads])
theorem HR.t1 (hs : HR W G X h c) : (NR c.y1).on W 0 := hs.ro _ (by simp [Hc.reads])
theorem HR.z0 (hs : HR W G X h c) : DL W c.y0.a1 c.y0.a2 c.y0.n1 c.y0.n2 h.z0 := by
 rw [← hs.e0]
 exact ⟨Qx hs.l0, Qy hs.t0, aW hs.l0, aW hs.t0⟩
theorem HR.z1 (hs : HR W G X h c) : DL W c.y1.a1 c.y1.a2 c.y1.n1 c.y1.n2 h.z1 := by
 rw [← hs.e1]
 exact ⟨Qx hs.l1, Qy hs.t1, aW hs.l1, aW hs.t1⟩
theorem HR.at (hs : HR W G X h c) : HAt W c.az c.am c.al c.av c.lc.length h.live.length c.y0 c.y1 c.lc h :=
 ⟨aW hs.zs, aW hs.mn, aW hs.Xz, aW hs.lv, hs.e0, hs.e1, hs.z0, hs.z1, hs.ll, rfl, rfl, fun r hr => ⟨sK (hs.jK r hr), aW (hs.jK r hr)⟩⟩
theorem HR.below (hs : HR W G X h c) (hb : Below W.heap.size W W') : HR W' G X h c :=
 ⟨hs.own.below hb, fun r hr => own_below (hs.ro r hr) hb (Nat.le_refl _), hs.ds, hs.og, hs.rg, hs.rx, gI hs.gs hb.size, hs.xg, fun k hk => gI (hs.xs k hk) hb.size, hs.e0, hs.e1, hs.ll⟩
theorem HS.below (hs : HS W G X h c) (hb : Below W.heap.size W W') : HS W' G X h c :=
 ⟨hs.r.below hb, aB hs.k hs.r.gs hb, aJ hs.fz hs.r.gs hb⟩
theorem HR.sub (hs : HR W G X h c) (hy : ∀ k, Y k → X k) : HR W G Y h c :=
 ⟨hs.own, hs.ro, hs.ds, fun r hr g hg => ⟨(hs.og r hr g hg).1, fun e => (hs.og r hr g hg).2 (hy g e)⟩, hs.rg, fun r hr g hg e => hs.rx r hr g hg (hy g e), hs.gs, fun e => hs.xg (hy _ e), fun k hk => hs.xs k (hy k hk), hs.e0, hs.e1, hs.ll⟩
theorem HS.sub (hs : HS W G X h c) (hy : ∀ k, Y k → X k) : HS W G Y h c := ⟨hs.r.sub hy, hs.k, hs.fz⟩
theorem HR.more (hs : HR W G X h c) (hy : ∀ k, Y k → k < W.heap.size ∧ k ≠ G ∧ (∀ r ∈ c.rows h, r.v.ownBlock ≠ some k) ∧ ∀ r ∈ c.reads h, r.v.ownBlock ≠ some k) : HR W G Y h c :=
 ⟨hs.own, hs.ro, hs.ds, fun r hr g hg => ⟨(hs.og r hr g hg).1, fun e => (hy g e).2.2.1 r hr hg⟩, hs.rg, fun r hr g hg e => (hy g e).2.2.2 r hr hg, hs.gs, fun e => (hy _ e).2.1 rfl, fun k hk => (hy k hk).1, hs.e0, hs.e1, hs.ll⟩
theorem HS.more (hs : HS W G X h c) (hy : ∀ k, Y k → k < W.heap.size ∧ k ≠ G ∧ (∀ r ∈ c.rows h, r.v.ownBlock ≠ some k) ∧ ∀ r ∈ c.reads h, r.v.ownBlock ≠ some k) : HS W G Y h c := ⟨hs.r.more hy, hs.k, hs.fz⟩
theorem HS.new (hs : HS W G X h c) (hb : Below W.heap.size W W') : HS W' G (fun k => X k ∨ (W.heap.size ≤ k ∧ k < W'.heap.size)) h c :=
 (hs.below hb).more fun k hk => by
  rcases hk with hk | ⟨h1, h2⟩
  ·have h3 := hs.r.xs k hk
   exact ⟨gI h3 hb.size, fun e => hs.r.xg (e ▸ hk), fun r hr e => (hs.r.og r hr k e).2 hk, fun r hr e => hs.r.rx r hr k e hk⟩
  ·exact ⟨h2, fun e => by have := hs.r.gs; omega, fun r hr e => by have := (hs.r.own.lt r hr k e).2; omega, fun r hr e => by have := ((hs.r.ro r hr).lt k e).2; omega⟩
theorem HR.lQ (hs : HR W G X h c) (i : Nat) (u : Value) : HR (W.setCell ⟨G, i, none⟩ u) G X h c :=
 ⟨hs.own.far (fun r hr e => (hs.og r hr G e).1 rfl) i u, fun r hr => bJ (hs.ro r hr) (hs.rg r hr) u, hs.ds, hs.og, hs.rg, hs.rx, by simpa using hs.gs, hs.xg, fun k hk => by simpa using hs.xs k hk, hs.e0, hs.e1, hs.ll⟩
theorem HS.far (hs : HS W G X h c) {g : Nat} (hx : X g) (i : Nat) (u : Value) : HS (W.setCell ⟨g, i, none⟩ u) G X h c := by
 have hne : G ≠ g := fun e => hs.r.xg (e ▸ hx)
 exact ⟨⟨hs.r.own.far (fun r hr e => (hs.r.og r hr g e).2 hx) i u, fun r hr => bJ (hs.r.ro r hr) (fun e => hs.r.rx r hr g e hx) u, hs.r.ds, hs.r.og, hs.r.rg, hs.r.rx, by simpa using hs.r.gs, hs.r.xg, fun k hk => by simpa using hs.r.xs k hk, hs.r.e0, hs.r.e1, hs.r.ll⟩, aA hs.k hne i u, aH hs.fz _ _⟩
end
end
section
open Go.RowKit

def put4 (W : World) (g o : Nat) (u0 u1 u2 u3 : Value) : World := (((W.setCell ⟨g, o, none⟩ u0).setCell ⟨g, o + 1, none⟩ u1).setCell ⟨g, o + 2, none⟩ u2).setCell ⟨g, o + 3, none⟩ u3
section
variable {W W1 : World} {G : Nat} {X : Nat → Prop} {h : Hp} {c : Hc}
theorem zH {base : Nat} {e : TypeId} {size : Nat} {v : Value} {n : Nat} {xs : List Value} (h : W.ownsRow base e size v n xs) {g : Nat} (hb : v.ownBlock ≠ some g) (o : Nat) (u0 u1 u2 u3 : Value) : (put4 W g o u0 u1 u2 u3).ownsRow base e size v n xs :=
 bJ (bJ (bJ (bJ h hb u0) hb u1) hb u2) hb u3
theorem Safe.put4 (g o : Nat) (u0 u1 u2 u3 : Value) (hg : ¬ X g) : Safe X W (put4 W g o u0 u1 u2 u3) := ((((Safe.refl X W).set hg o u0).set hg (o + 1) u1).set hg (o + 2) u2).set hg (o + 3) u3
theorem cZ.put4 {jI : Nat} {r : Rs} {rs : List Rs} (h : cZ W jI (r :: rs)) {g c : Nat} (hv : r.v = .slice (some ⟨g, 0, none⟩) r.n c) (o : Nat) (u0 u1 u2 u3 : Value) (h0 : u0.oneCell' = true) (h1 : u1.oneCell' = true) (h2 : u2.oneCell' = true) (h3 : u3.oneCell' = true) :
  cZ (put4 W g o u0 u1 u2 u3) jI ({ r with xs := (((r.xs.set o u0).set (o + 1) u1).set (o + 2) u2).set (o + 3) u3 } :: rs) := by
 have k0 := h.cell (i := 0) (by simp) (g := g) (c := c) hv o u0 h0
 have k1 := k0.cell (i := 0) (by simp) (g := g) (c := c) hv (o + 1) u1 h1
 have k2 := k1.cell (i := 0) (by simp) (g := g) (c := c) hv (o + 2) u2 h2
 have k3 := k2.cell (i := 0) (by simp) (g := g) (c := c) hv (o + 3) u3 h3
 exact k3
theorem Qz {b g : Nat} {A : Array Value} (h : ∀ o, W.cell? ⟨b, o, none⟩ = A[o]?) (hne : b ≠ g) (p : Nat) (u0 u1 u2 u3 : Value) (o : Nat) : (put4 W g p u0 u1 u2 u3).cell? ⟨b, o, none⟩ = A[o]? :=
 aA (aA (aA (aA h hne p u0) hne (p + 1) u1) hne (p + 2) u2) hne (p + 3) u3 o
theorem QA {b g : Nat} (h : ∀ o, W.frozen? ⟨b, o, none⟩ = false) (p : Nat) (u0 u1 u2 u3 : Value) (o : Nat) : (put4 W g p u0 u1 u2 u3).frozen? ⟨b, o, none⟩ = false :=
 aH (aH (aH (aH h _ u0) _ u1) _ u2) _ u3 o
theorem CQ (g p : Nat) (u0 u1 u2 u3 : Value) : (put4 W g p u0 u1 u2 u3).heap.size = W.heap.size := by unfold put4; simp

def Hc.zone (c : Hc) (i : Nat) : Zc := if i = 0 then c.y0 else c.y1
def Hc.dH (c : Hc) (i : Nat) (y : Zc) : Hc := if i = 0 then { c with y0 := y } else { c with y1 := y }
theorem HR.zI (hs : HR W G X h c) : ∃ g, c.az = some ⟨g, 0, none⟩ ∧ g < W.heap.size ∧ g ≠ G ∧ ¬ X g ∧ ∀ j, j < 8 → W.frozen? ⟨g, j, none⟩ = false := by
 obtain ⟨g, v, h1, _, h2, _, _⟩ := dZ hs.zs 0 (by simp [vX, flat, kJ])
 have h3 : (vX c).v.ownBlock = some g := by unfold vX; rw [h1]; rfl
 have h4 := hs.og (vX c) (by simp [Hc.rows]) g h3
 refine ⟨g, h1, h2, h4.1, h4.2, fun j hj => ?_⟩
 obtain ⟨g', v', h5, _, _, _, h6⟩ := dZ hs.zs j (by simp [vX, flat, kJ]; omega)
 rw [h1] at h5
 obtain rfl : g = g' := by simpa using h5
 exact h6

theorem HS.ZI (hs : HS W G X h c) (hb : Below W.heap.size W W1) {i : Nat} (hi : i < 2) {z' : Zn} {a1 a2 : Option Addr} {n1 n2 c1 c2 : Nat} (hz : fG W1 W.heap.size a1 a2 n1 n2 c1 c2 z') {g : Nat} (hg : c.az = some ⟨g, 0, none⟩) :
  HS (put4 W1 g (i * 4) (vI z'.f) (vI z'.e) (.slice a1 n1 c1) (.slice a2 n2 c2)) G X (h.iG i z') (c.dH i ⟨z', a1, a2, n1, n2, c1, c2⟩) ∧ Safe X W (put4 W1 g (i * 4) (vI z'.f) (vI z'.e) (.slice a1 n1 c1) (.slice a2 n2 c2)) := by
 have hs1 := hs.below hb
 obtain ⟨g', hg1, hgs, ZJ, ZK, _⟩ := hs.r.zI
 obtain rfl : g = g' := by rw [hg] at hg1; simpa using hg1
 have hzb : (vX c).v.ownBlock = some g := by unfold vX; rw [hg]; rfl
 have hzm : vX c ∈ c.rows h := by simp [Hc.rows]
 have hne := hz.ne (g := g) (.inl hgs)
 have rF := hz.ne (g := G) (.inl hs.r.gs)
 have hlive : (h.iG i z').live = h.live := by unfold Hp.iG; split <;> rfl
 have hls : (h.iG i z').ls = h.ls := by unfold Hp.iG; split <;> rfl
 have hcp : (h.iG i z').aF = h.aF := by unfold Hp.iG; split <;> rfl
 have hm0 : (h.iG i z').m0 = h.m0 := by unfold Hp.iG; split <;> rfl
 have hm1 : (h.iG i z').m1 = h.m1 := by unfold Hp.iG; split <;> rfl
 have hrows : (c.dH i ⟨z', a1, a2, n1, n2, c1, c2⟩).rows (h.iG i z') = { vX c with xs := (((((vX c).xs.set (i * 4) (vI z'.f)).set (i * 4 + 1) (vI z'.e)).set (i * 4 + 2) (.slice a1 n1 c1)).set (i * 4 + 3) (.slice a2 n2 c2)) } :: nP c :: uS c h :: c.lc.map jB := by
  unfold Hc.rows
  have e1 : uS (c.dH i ⟨z', a1, a2, n1, n2, c1, c2⟩) (h.iG i z') = uS c h := by unfold uS; rw [hlive]; unfold Hc.dH; split <;> rfl
  have e2 : nP (c.dH i ⟨z', a1, a2, n1, n2, c1, c2⟩) = nP c := by unfold Hc.dH; split <;> rfl
  have e3 : (c.dH i ⟨z', a1, a2, n1, n2, c1, c2⟩).lc = c.lc := by unfold Hc.dH; split <;> rfl
  rw [e1, e2, e3]
  congr 1
  obtain rfl | rfl : i = 0 ∨ i = 1 := by omega
  ·rfl
  ·rfl
 have hreads : ∀ r ∈ (c.dH i ⟨z', a1, a2, n1, n2, c1, c2⟩).reads (h.iG i z'), r ∈ c.reads h ∨ r = NQ ⟨z', a1, a2, n1, n2, c1, c2⟩ ∨ r = NR ⟨z', a1, a2, n1, n2, c1, c2⟩ := fun r hr => by
  have e1 : Ur (c.dH i ⟨z', a1, a2, n1, n2, c1, c2⟩) (h.iG i z') = Ur c h := by unfold Ur; rw [hm0, hm1]; unfold Hc.dH; split <;> rfl
  unfold Hc.reads at hr ⊢
  rw [e1] at hr
  unfold Hc.dH at hr
  obtain rfl | rfl : i = 0 ∨ i = 1 := by omega
  ·simp only [if_true, List.mem_cons, List.not_mem_nil, or_false] at hr ⊢
   rcases hr with h | h | h | h | h <;> simp [h]
  ·simp only [show ¬ (1 : Nat) = 0 by omega, if_false, List.mem_cons, List.not_mem_nil, or_false] at hr ⊢
   rcases hr with h | h | h | h | h <;> simp [h]
 have hmem : ∀ s ∈ (c.dH i ⟨z', a1, a2, n1, n2, c1, c2⟩).rows (h.iG i z'), ∃ s0 ∈ c.rows h, s0.v = s.v := fun s hs' => by
  rw [hrows, List.mem_cons] at hs'
  rcases hs' with rfl | hs'
  ·exact ⟨vX c, hzm, rfl⟩
  ·exact ⟨s, by unfold Hc.rows; exact List.mem_cons_of_mem _ hs', rfl⟩
 refine ⟨⟨⟨?_, fun r hr => ?_, fun r hr s hs' => ?_, fun r hr g' hg' => ?_, fun r hr => ?_, fun r hr g' hg' hx => ?_, by rw [CQ]; exact hs1.r.gs, hs.r.xg, fun k hk => by rw [CQ]; exact hs1.r.xs k hk, ?_, ?_, ?_⟩, ?_, QA hs1.fz _ _ _ _ _⟩, (Safe.fK hb).trans (.put4 _ _ _ _ _ _ ZK)⟩
 ·rw [hrows]
  have h1 := hs1.r.own
  unfold Hc.rows at h1
  exact h1.put4 (c := c.cz) (by unfold vX; rw [hg]) (i * 4) _ _ _ _ rfl rfl rfl rfl
 ·rcases hreads r hr with h1 | rfl | rfl
  ·exact zH (hs1.r.ro r h1) (fun e => hs.r.ds r h1 _ hzm g e hzb) _ _ _ _ _
  ·exact zH (own_base hz.o1 (Nat.zero_le _)) hne.1 _ _ _ _ _
  ·exact zH (own_base hz.o2 (Nat.zero_le _)) hne.2 _ _ _ _ _
 ·obtain ⟨s0, hs0, hv⟩ := hmem s hs'
  intro g' h1 h2
  rw [← hv] at h2
  rcases hreads r hr with h3 | rfl | rfl
  ·exact hs.r.ds r h3 s0 hs0 g' h1 h2
  ·have h4 := (hz.o1.lt g' h1).1
   have h5 := (hs.r.own.lt s0 hs0 g' h2).2
   omega
  ·have h4 := (hz.o2.lt g' h1).1
   have h5 := (hs.r.own.lt s0 hs0 g' h2).2
   omega
 ·obtain ⟨s0, hs0, hv⟩ := hmem r hr
  rw [← hv] at hg'
  exact hs.r.og s0 hs0 g' hg'
 ·rcases hreads r hr with h3 | rfl | rfl
  ·exact hs.r.rg r h3
  ·exact rF.1
  ·exact rF.2
 ·rcases hreads r hr with h3 | rfl | rfl
  ·exact hs.r.rx r h3 g' hg' hx
  ·have h4 := (hz.o1.lt g' hg').1
   have h5 := hs.r.xs g' hx
   omega
  ·have h4 := (hz.o2.lt g' hg').1
   have h5 := hs.r.xs g' hx
   omega
 ·have := hs.r.e0
  unfold Hc.dH Hp.iG
  obtain rfl | rfl : i = 0 ∨ i = 1 := by omega
  ·rfl
  ·exact this
 ·have := hs.r.e1
  unfold Hc.dH Hp.iG
  obtain rfl | rfl : i = 0 ∨ i = 1 := by omega
  ·exact this
  ·rfl
 ·have := hs.r.ll
  rw [hls, ← this]
  unfold Hc.dH
  split <;> rfl
 ·have h1 := Qz hs1.k (fun e => ZJ e.symm) (i * 4) (vI z'.f) (vI z'.e) (.slice a1 n1 c1) (.slice a2 n2 c2)
  have h2 : (c.dH i ⟨z', a1, a2, n1, n2, c1, c2⟩).vals (h.iG i z') = c.vals h := by
   unfold Hc.vals
   rw [hlive, hcp]
   unfold Hc.dH
   split <;> rfl
  rw [h2]
  exact h1
end
end
section
open Go.RowKit

section
variable {W W' : World} {G : Nat} {X : Nat → Prop} {h : Hp} {c : Hc}
structure Dis (c : Hc) (h : Hp) : Prop where
 zl : (vX c).off (nP c)
 zv : (vX c).off (uS c h)
 zp : ∀ r ∈ c.lc.map jB, (vX c).off r
 lv : (nP c).off (uS c h)
 lp : ∀ r ∈ c.lc.map jB, (nP c).off r
 vp : ∀ r ∈ c.lc.map jB, (uS c h).off r
theorem HR.CP (hs : HR W G X h c) : Dis c h := by
 have h1 := hs.own.CP
 unfold Hc.rows at h1
 rw [List.pairwise_cons, List.pairwise_cons, List.pairwise_cons] at h1
 obtain ⟨a, b, d, _⟩ := h1
 exact ⟨a _ (by simp), a _ (by simp), fun r hr => a r (by simp only [List.mem_cons]; exact .inr (.inr hr)), b _ (by simp), fun r hr => b r (List.mem_cons_of_mem _ hr), fun r hr => d r hr⟩
theorem kG {c : Hc} {h : Hp} {r : Rs} (hr : r ∈ c.lc.map jB) : r ∈ c.rows h := by
 unfold Hc.rows
 exact List.mem_cons_of_mem _ (List.mem_cons_of_mem _ (List.mem_cons_of_mem _ hr))
theorem uT (c : Hc) (h : Hp) : vX c ∈ c.rows h := by simp [Hc.rows]
theorem gV (c : Hc) (h : Hp) : nP c ∈ c.rows h := by simp [Hc.rows]
theorem iL (c : Hc) (h : Hp) : uS c h ∈ c.rows h := by simp [Hc.rows]

structure FU (W : World) (G : Nat) (X : Nat → Prop) (h : Hp) (c : Hc) (g : Nat) : Prop where
 rows : ∀ r ∈ c.rows h, r.v.ownBlock ≠ some g
 reads : ∀ r ∈ c.reads h, r.v.ownBlock ≠ some g
 ne : g ≠ G
 x : ¬ X g
theorem HR.fresh (hs : HR W G X h c) {g : Nat} (hg : W.heap.size ≤ g) : FU W' G X h c g :=
 ⟨fun r hr e => by have := (hs.own.lt r hr g e).2; omega, fun r hr e => by have := ((hs.ro r hr).lt g e).2; omega, fun e => by have := hs.gs; omega, fun e => by have := hs.xs g e; omega⟩
theorem HR.lists (hs : HR W G X h c) (hg : W.grownBy W' (nP c).v.ownBlock) {al' : Option Addr} {cl' : Nat} {oU : List Lc} (ho : W'.ownsRow 0 207 4 (.slice al' oU.length cl') oU.length (flat bG oU))
  (hb : ∀ k, (Value.slice al' oU.length cl').ownBlock = some k → (nP c).v.ownBlock = some k ∨ W.heap.size ≤ k) (hp : cZ W 0 (oU.map jB)) (hq : ∀ r ∈ oU.map jB, ∀ g, r.v.ownBlock = some g → (∃ r0 ∈ c.lc.map jB, r0.v.ownBlock = some g) ∨ FU W G X h c g) :
  HR W' G X { h with ls := oU.map Lc.l } { c with al := al', cl := cl', lc := oU } := by
 have D := hs.CP
 have hlv : uS { c with al := al', cl := cl', lc := oU } { h with ls := oU.map Lc.l } = uS c h := rfl
 have hzs : vX { c with al := al', cl := cl', lc := oU } = vX c := rfl
 have hnew : ∀ s ∈ c.rows h, s ≠ nP c → (nP c).off s → ∀ k, (Value.slice al' oU.length cl').ownBlock = some k → s.v.ownBlock ≠ some k := fun s hs1 _ hoff k hk e => by
  rcases hb k hk with h1 | h1
  ·exact hoff k h1 e
  ·have := (hs.own.lt s hs1 k e).2; omega
 have hrows : ({ c with al := al', cl := cl', lc := oU } : Hc).rows { h with ls := oU.map Lc.l } = vX c :: nP { c with al := al', cl := cl', lc := oU } :: uS c h :: oU.map jB := rfl
 have hnl : ∀ s ∈ c.rows h, (nP c).off s → ∀ k, (Value.slice al' oU.length cl').ownBlock = some k → s.v.ownBlock ≠ some k := fun s hs1 hoff k hk e => by
  rcases hb k hk with h1 | h1
  ·exact hoff k h1 e
  ·have := (hs.own.lt s hs1 k e).2; omega
 have hz1 : (vX c).on W' 0 := gZ hs.zs hg (fun k hk e => D.zl k hk e)
 have hv1 : (uS c h).on W' 0 := gZ hs.lv hg (fun k hk e => D.lv k e hk)
 have hp1 : ∀ r ∈ oU.map jB, r.on W' 0 := fun r hr => gZ (hp.each r hr) hg (fun k hk e => by
  rcases hq r hr k hk with ⟨r0, hr0, h1⟩ | h1
  ·exact D.lp r0 hr0 k e h1
  ·exact h1.rows _ (gV c h) e)
 have hmem : ∀ r ∈ oU.map jB, ∀ s : Rs, (s ∈ c.rows h ∨ s ∈ c.reads h) → (∀ r0 ∈ c.lc.map jB, s.off r0) → s.off r := fun r hr s hsm hso g h1 h2 => by
  rcases hq r hr g h2 with ⟨r0, hr0, h3⟩ | h3
  ·exact hso r0 hr0 g h1 h3
  ·rcases hsm with h4 | h4
   ·exact h3.rows _ h4 h1
   ·exact h3.reads _ h4 h1
 refine ⟨⟨fun r hr => ?_, ?_⟩, fun r hr => gZ (hs.ro r hr) hg (fun k hk e => hs.ds r hr _ (gV c h) k hk e), fun r hr s hs' => ?_, fun r hr g hg' => ?_, hs.rg, hs.rx, gI hs.gs hg.size, hs.xg, fun k hk => gI (hs.xs k hk) hg.size, hs.e0, hs.e1, rfl⟩
 ·rw [hrows, List.mem_cons, List.mem_cons, List.mem_cons] at hr
  rcases hr with rfl | rfl | rfl | hr
  ·exact hz1
  ·exact ho
  ·exact hv1
  ·exact hp1 r hr
 ·rw [hrows, List.pairwise_cons, List.pairwise_cons, List.pairwise_cons]
  refine ⟨fun r hr => ?_, fun r hr => ?_, fun r hr => hmem r hr _ (.inl (iL c h)) D.vp, hp.CP⟩
  ·rw [List.mem_cons, List.mem_cons] at hr
   rcases hr with rfl | rfl | hr
   ·exact fun g h1 h2 => hnl _ (uT c h) D.zl.symm g h2 h1
   ·exact D.zv
   ·exact hmem r hr _ (.inl (uT c h)) D.zp
  ·rw [List.mem_cons] at hr
   rcases hr with rfl | hr
   ·exact fun g h1 h2 => hnl _ (iL c h) D.lv g h1 h2
   ·intro g h1 h2
    rcases hq r hr g h2 with ⟨r0, hr0, h3⟩ | h3
    ·exact hnl r0 (kG hr0) (D.lp r0 hr0) g h1 h3
    ·rcases hb g h1 with h4 | h4
     ·exact h3.rows _ (gV c h) h4
     ·have := ((hp.each r hr).lt g h2).2; omega
 ·rw [hrows, List.mem_cons, List.mem_cons, List.mem_cons] at hs'
  have hr2 : r ∈ c.reads h := hr
  rcases hs' with rfl | rfl | rfl | hs'
  ·exact hs.ds r hr2 _ (uT c h)
  ·intro g h1 h2
   rcases hb g h2 with h3 | h3
   ·exact hs.ds r hr2 _ (gV c h) g h1 h3
   ·have := ((hs.ro r hr2).lt g h1).2; omega
  ·exact hs.ds r hr2 _ (iL c h)
  ·exact hmem s hs' r (.inr hr2) fun r0 hr0 => hs.ds r hr2 r0 (kG hr0)
 ·rw [hrows, List.mem_cons, List.mem_cons, List.mem_cons] at hr
  rcases hr with rfl | rfl | rfl | hr
  ·exact hs.og _ (uT c h) g hg'
  ·rcases hb g hg' with h3 | h3
   ·exact hs.og _ (gV c h) g h3
   ·exact ⟨fun e => by have := hs.gs; omega, fun e => by have := hs.xs g e; omega⟩
  ·exact hs.og _ (iL c h) g hg'
  ·rcases hq r hr g hg' with ⟨r0, hr0, h3⟩ | h3
   ·exact hs.og r0 (kG hr0) g h3
   ·exact ⟨h3.ne, h3.x⟩
theorem HS.lists (hs : HS W G X h c) (hg : W.grownBy W' (nP c).v.ownBlock) {al' : Option Addr} {cl' : Nat} {oU : List Lc} (ho : W'.ownsRow 0 207 4 (.slice al' oU.length cl') oU.length (flat bG oU))
  (hb : ∀ k, (Value.slice al' oU.length cl').ownBlock = some k → (nP c).v.ownBlock = some k ∨ W.heap.size ≤ k) (hp : cZ W 0 (oU.map jB)) (hq : ∀ r ∈ oU.map jB, ∀ g, r.v.ownBlock = some g → (∃ r0 ∈ c.lc.map jB, r0.v.ownBlock = some g) ∨ FU W G X h c g) :
  HS (W'.setCell ⟨G, 3, none⟩ (.slice al' oU.length cl')) G X { h with ls := oU.map Lc.l } { c with al := al', cl := cl', lc := oU } ∧ Safe X W (W'.setCell ⟨G, 3, none⟩ (.slice al' oU.length cl')) := by
 have hne : (nP c).v.ownBlock ≠ some G := fun e => (hs.r.og _ (gV c h) G e).1 rfl
 have h1 := bH hs.k hs.r.gs hg (fun e => hne e.symm)
 refine ⟨⟨(hs.r.lists hg ho hb hp hq).lQ _ _, ?_, aH (bI hs.fz hs.r.gs hg (fun e => hne e.symm)) _ _⟩, (Safe.jM hg (fun k hk e => (hs.r.og _ (gV c h) k e.symm).2 hk)).set hs.r.xg _ _⟩
 exact aG h1 3 (.slice al' oU.length cl')
end
theorem Jq (l : List Lc) (i : Nat) (hi : i < l.length) (r : Lc) (h0 : r.l.c = l[i].l.c ∧ r.l.z = l[i].l.z ∧ r.l.t = l[i].l.t) : (flat bG l).set (i * 4 + 3) (.slice r.a r.n r.c) = flat bG (l.set i r) := by
 apply List.ext_getElem?
 intro j
 by_cases hj : j < l.length * 4
 ·have hd : j / 4 < l.length := by omega
  have hm : j % 4 < 4 := by omega
  have hjj : j = j / 4 * 4 + j % 4 := by omega
  have g1 := flat_get aP (l.set i r) (j / 4) (by simpa using hd) (j % 4) hm
  have g2 := flat_get aP l (j / 4) hd (j % 4) hm
  rw [← hjj] at g1 g2
  rw [g1, List.getElem?_set]
  by_cases he : i * 4 + 3 = j
  ·have e1 : j / 4 = i := by omega
   have e2 : j % 4 = 3 := by omega
   rw [if_pos he, if_pos (by rw [flat_length aP]; omega)]
   simp only [e1, e2, List.getElem_set_self]
   rfl
  ·rw [if_neg he, g2]
   by_cases e1 : j / 4 = i
   ·subst e1
    simp only [List.getElem_set_self]
    have e2 : j % 4 = 0 ∨ j % 4 = 1 ∨ j % 4 = 2 := by omega
    obtain ⟨a0, a1, a2⟩ := h0
    rcases e2 with e2 | e2 | e2 <;> rw [e2] <;> simp [bG, a0, a1, a2]
   ·rw [List.getElem_set_ne (fun e => e1 e.symm)]
 ·rw [List.getElem?_eq_none (by rw [List.length_set, flat_length aP]; omega), List.getElem?_eq_none (by rw [flat_length aP, List.length_set]; omega)]
section
variable {W W' : World} {G : Nat} {X : Nat → Prop} {h : Hp} {c : Hc}
theorem HR.oV (hs : HR W G X h c) (hn : 0 < c.lc.length) : ∃ g, c.al = some ⟨g, 0, none⟩ ∧ g < W.heap.size ∧ g ≠ G ∧ ¬ X g ∧ ∀ j, j < c.lc.length * 4 → W.frozen? ⟨g, j, none⟩ = false := by
 obtain ⟨g, v, h1, _, h2, _, _⟩ := dZ hs.Xz 0 (by show 0 < (flat bG c.lc).length; rw [flat_length aP]; omega)
 have h3 : (nP c).v.ownBlock = some g := by unfold nP; rw [h1]; rfl
 have h4 := hs.og (nP c) (gV c h) g h3
 refine ⟨g, h1, h2, h4.1, h4.2, fun j hj => ?_⟩
 obtain ⟨g', v', h5, _, _, _, h6⟩ := dZ hs.Xz j (by show j < (flat bG c.lc).length; rw [flat_length aP]; omega)
 rw [h1] at h5
 obtain rfl : g = g' := by simpa using h5
 exact h6
theorem HS.page (hs : HS W G X h c) {i : Nat} (hi : i < c.lc.length) (hg : W.grownBy W' (jB c.lc[i]).v.ownBlock) {r : Lc} (ho : (jB r).on W' 0) (h0 : r.l.c = c.lc[i].l.c ∧ r.l.z = c.lc[i].l.z ∧ r.l.t = c.lc[i].l.t)
  (hb : ∀ k, (jB r).v.ownBlock = some k → (jB c.lc[i]).v.ownBlock = some k ∨ W.heap.size ≤ k) {g : Nat} (hal : c.al = some ⟨g, 0, none⟩) :
  HS (W'.setCell ⟨g, i * 4 + 3, none⟩ (.slice r.a r.n r.c)) G X { h with ls := h.ls.set i r.l } { c with lc := c.lc.set i r } ∧ Safe X W (W'.setCell ⟨g, i * 4 + 3, none⟩ (.slice r.a r.n r.c)) := by
 have D := hs.r.CP
 have hpm : jB c.lc[i] ∈ c.lc.map jB := List.mem_map_of_mem (gL hi)
 obtain ⟨g', hg1, hgs, ZJ, ZK, _⟩ := hs.r.oV (by omega)
 obtain rfl : g = g' := by rw [hal] at hg1; simpa using hg1
 have hlb : (nP c).v.ownBlock = some g := by unfold nP; rw [hal]; rfl
 have hne : (jB c.lc[i]).v.ownBlock ≠ some G := fun e => (hs.r.og _ (kG hpm) G e).1 rfl
 have hneg : (jB c.lc[i]).v.ownBlock ≠ some g := fun e => D.lp _ hpm g hlb e
 have hi3 : 3 + i < (c.rows h).length := by simp [Hc.rows]; omega
 have hri : (c.rows h)[3 + i] = jB c.lc[i] := by
  have : (c.rows h)[3 + i]? = some (jB c.lc[i]) := by
   rw [show 3 + i = i + 3 by omega]
   simp [Hc.rows, hi]
  exact (List.getElem?_eq_some_iff.1 this).2
 have k1 := hs.r.own.grown hi3 (W' := W') (r' := jB r) (by rw [hri]; exact hg) ho (by rw [hri]; exact hb)
 have e1 : (c.rows h).set (3 + i) (jB r) = vX c :: nP c :: uS c h :: (c.lc.set i r).map jB := by
  rw [show 3 + i = i + 3 by omega, List.map_set]
  rfl
 rw [e1] at k1
 have k2 := k1.cell (i := 1) (by simp) (g := g) (c := c.cl) (by show (nP c).v = _; unfold nP; rw [hal]; rfl) (i * 4 + 3) (.slice r.a r.n r.c) rfl
 have e2 : (vX c :: nP c :: uS c h :: (c.lc.set i r).map jB).set 1 { (vX c :: nP c :: uS c h :: (c.lc.set i r).map jB)[1] with xs := ((vX c :: nP c :: uS c h :: (c.lc.set i r).map jB)[1]).xs.set (i * 4 + 3) (.slice r.a r.n r.c) } = ({ c with lc := c.lc.set i r } : Hc).rows { h with ls := h.ls.set i r.l } := by
  unfold Hc.rows
  have e3 : nP { c with lc := c.lc.set i r } = { nP c with xs := (nP c).xs.set (i * 4 + 3) (.slice r.a r.n r.c) } := by
   unfold nP
   simp only [List.length_set]
   rw [← Jq c.lc i hi r h0]
  rw [e3]
  rfl
 rw [e2] at k2
 have hmem : ∀ s ∈ ({ c with lc := c.lc.set i r } : Hc).rows { h with ls := h.ls.set i r.l }, (∃ s0 ∈ c.rows h, s0.v = s.v) ∨ s = jB r := fun s hs' => by
  rw [← e2] at hs'
  rcases List.mem_or_eq_of_mem_set hs' with h1 | h1
  ·rw [List.mem_cons, List.mem_cons, List.mem_cons] at h1
   rcases h1 with h1 | h1 | h1 | h1
   ·exact .inl ⟨_, uT c h, by rw [h1]⟩
   ·exact .inl ⟨_, gV c h, by rw [h1]⟩
   ·exact .inl ⟨_, iL c h, by rw [h1]⟩
   ·rw [List.map_set] at h1
    rcases List.mem_or_eq_of_mem_set h1 with h2 | h2
    ·exact .inl ⟨s, kG h2, rfl⟩
    ·exact .inr h2
  ·exact .inl ⟨_, gV c h, by rw [h1]; rfl⟩
 have h1 := bH hs.k hs.r.gs hg (fun e => hne e.symm)
 refine ⟨⟨⟨k2, fun r1 hr => bJ (gZ (hs.r.ro r1 hr) hg (fun k hk e => hs.r.ds r1 hr _ (kG hpm) k hk e)) (fun e => hs.r.ds r1 hr _ (gV c h) g e hlb) _, fun r1 hr s hs' k hk1 hk2 => ?_, fun s hs' k hk => ?_, hs.r.rg, hs.r.rx, by simpa using gI hs.r.gs hg.size, hs.r.xg, fun k hk => by simpa using gI (hs.r.xs k hk) hg.size, hs.r.e0, hs.r.e1, ?_⟩, ?_, aH (bI hs.fz hs.r.gs hg (fun e => hne e.symm)) _ _⟩, (Safe.jM hg (fun k hk e => (hs.r.og _ (kG hpm) k e.symm).2 hk)).set ZK _ _⟩
 ·rcases hmem s hs' with ⟨s0, hs0, hv⟩ | rfl
  ·exact hs.r.ds r1 hr s0 hs0 k hk1 (by rw [hv]; exact hk2)
  ·rcases hb k hk2 with h3 | h3
   ·exact hs.r.ds r1 hr _ (kG hpm) k hk1 h3
   ·have := ((hs.r.ro r1 hr).lt k hk1).2; omega
 ·rcases hmem s hs' with ⟨s0, hs0, hv⟩ | rfl
  ·exact hs.r.og s0 hs0 k (by rw [hv]; exact hk)
  ·rcases hb k hk with h3 | h3
   ·exact hs.r.og _ (kG hpm) k h3
   ·exact ⟨fun e => by have := hs.r.gs; omega, fun e => by have := hs.r.xs k e; omega⟩
 ·rw [List.map_set, hs.r.ll]
 ·have h2 : ({ c with lc := c.lc.set i r } : Hc).vals { h with ls := h.ls.set i r.l } = c.vals h := by
   unfold Hc.vals
   simp only [List.length_set]
  rw [h2]
  exact aA h1 (fun e => ZJ e.symm) _ _
theorem HS.away (hs : HS W G X h c) (hg : W.grownBy W' (uS c h).v.ownBlock) {oJ : Option Addr} {cv' : Nat} {v' : List Bk} (ho : W'.ownsRow 0 63 3 (.slice oJ v'.length cv') v'.length (flat aO v'))
  (hb : ∀ k, (Value.slice oJ v'.length cv').ownBlock = some k → (uS c h).v.ownBlock = some k ∨ W.heap.size ≤ k) :
  HS (W'.setCell ⟨G, 4, none⟩ (.slice oJ v'.length cv')) G X { h with live := v' } { c with av := oJ, cv := cv' } ∧ Safe X W (W'.setCell ⟨G, 4, none⟩ (.slice oJ v'.length cv')) := by
 have hne : (uS c h).v.ownBlock ≠ some G := fun e => (hs.r.og _ (iL c h) G e).1 rfl
 have h1 := bH hs.k hs.r.gs hg (fun e => hne e.symm)
 have k1 := hs.r.own.grown (i := 2) (by simp [Hc.rows]) (W' := W') (r' := uS { c with av := oJ, cv := cv' } { h with live := v' }) hg ho hb
 have hmem : ∀ s ∈ ({ c with av := oJ, cv := cv' } : Hc).rows { h with live := v' }, s ∈ c.rows h ∨ s = uS { c with av := oJ, cv := cv' } { h with live := v' } := fun s hs' => List.mem_or_eq_of_mem_set (l := c.rows h) (i := 2) hs'
 refine ⟨⟨(⟨k1, fun r hr => gZ (hs.r.ro r hr) hg (fun k hk e => hs.r.ds r hr _ (iL c h) k hk e), fun r1 hr s hs' k hk1 hk2 => ?_, fun s hs' k hk => ?_, hs.r.rg, hs.r.rx, gI hs.r.gs hg.size, hs.r.xg, fun k hk => gI (hs.r.xs k hk) hg.size, hs.r.e0, hs.r.e1, hs.r.ll⟩ : HR W' G X { h with live := v' } { c with av := oJ, cv := cv' }).lQ _ _, ?_, aH (bI hs.fz hs.r.gs hg (fun e => hne e.symm)) _ _⟩, (Safe.jM hg (fun k hk e => (hs.r.og _ (iL c h) k e.symm).2 hk)).set hs.r.xg _ _⟩
 ·have hr2 : r1 ∈ c.reads h := hr
  rcases hmem s hs' with h3 | rfl
  ·exact hs.r.ds r1 hr2 s h3 k hk1 hk2
  ·rcases hb k hk2 with h3 | h3
   ·exact hs.r.ds r1 hr2 _ (iL c h) k hk1 h3
   ·have := ((hs.r.ro r1 hr2).lt k hk1).2; omega
 ·rcases hmem s hs' with h3 | rfl
  ·exact hs.r.og s h3 k hk
  ·rcases hb k hk with h3 | h3
   ·exact hs.r.og _ (iL c h) k h3
   ·exact ⟨fun e => by have := hs.r.gs; omega, fun e => by have := hs.r.xs k e; omega⟩
 ·exact aG h1 4 (.slice oJ v'.length cv')
end
end
section
open Go.RowKit

def ER (az : Option Addr) (cz : Nat) (zs : List Zc) : Rs := ⟨102, 4, .slice az zs.length cz, zs.length, flat kJ zs⟩
def YU (av : Option Addr) (cv : Nat) (l : List Bk) : Rs := ⟨63, 3, .slice av l.length cv, l.length, flat aO l⟩
def inR (am : Option Addr) (cm : Nat) (l : List Nat) : Rs := ⟨3, 1, .slice am l.length cm, l.length, flat fH l⟩
structure CZ (W : World) (jI g : Nat) (zs : List Zc) (az : Option Addr) (cz : Nat) (am : Option Addr) (cm : Nat) (m : List Nat) (av : Option Addr) (cv : Nat) (v : List Bk) (aF : Nat) : Prop where
 oz : (ER az cz zs).on W jI
 ov : (YU av cv v).on W jI
 om : (inR am cm m).on W jI
 rd : ∀ y ∈ zs, (NQ y).on W jI ∧ (NR y).on W jI
 zv : (ER az cz zs).off (YU av cv v)
 zm : (ER az cz zs).off (inR am cm m)
 zy : ∀ y ∈ zs, (ER az cz zs).off (NQ y) ∧ (ER az cz zs).off (NR y)
 vm : (YU av cv v).off (inR am cm m)
 vy : ∀ y ∈ zs, (YU av cv v).off (NQ y) ∧ (YU av cv v).off (NR y)
 gz : (ER az cz zs).v.ownBlock ≠ some g
 gv : (YU av cv v).v.ownBlock ≠ some g
 gm : (inR am cm m).v.ownBlock ≠ some g
 gy : ∀ y ∈ zs, (NQ y).v.ownBlock ≠ some g ∧ (NR y).v.ownBlock ≠ some g
 gs : jI ≤ g ∧ g < W.heap.size
 k : ∀ o, W.cell? ⟨g, o, none⟩ = (#[.slice az zs.length cz, .slice am m.length cm, .int .i64 (aF : Int), .slice none 0 0, .slice av v.length cv] : Array Value)[o]?
 fz : ∀ o, W.frozen? ⟨g, o, none⟩ = false
section
variable {W W' W1 : World} {jI g : Nat} {zs : List Zc} {az : Option Addr} {cz : Nat} {am : Option Addr} {cm : Nat} {m : List Nat} {av : Option Addr} {cv : Nat} {v : List Bk} {aF : Nat}
theorem CZ.below (h : CZ W jI g zs az cz am cm m av cv v aF) (hb : Below W.heap.size W W') : CZ W' jI g zs az cz am cm m av cv v aF :=
 ⟨own_below h.oz hb (Nat.le_refl _), own_below h.ov hb (Nat.le_refl _), own_below h.om hb (Nat.le_refl _), fun y hy => ⟨own_below (h.rd y hy).1 hb (Nat.le_refl _), own_below (h.rd y hy).2 hb (Nat.le_refl _)⟩, h.zv, h.zm, h.zy, h.vm, h.vy, h.gz, h.gv, h.gm, h.gy, ⟨h.gs.1, gI h.gs.2 hb.size⟩, aB h.k h.gs.2 hb, aJ h.fz h.gs.2 hb⟩
theorem CZ.add (h : CZ W jI g zs az cz am cm m av cv v aF) (hb : Below W.heap.size W W1) {z' : Zn} {a1 a2 : Option Addr} {n1 n2 c1 c2 : Nat} (hz : fG W1 W.heap.size a1 a2 n1 n2 c1 c2 z') {g6 cap6 : Nat}
  (ho : W'.ownsRow jI 102 4 (.slice (some ⟨g6, 0, none⟩) (zs.length + 1) cap6) (zs.length + 1) (flat kJ (zs ++ [⟨z', a1, a2, n1, n2, c1, c2⟩]))) (hg : W1.grownBy W' (Value.slice az zs.length cz).ownBlock) (hl : (Value.slice az zs.length cz).ownBlock = some g6 ∨ g6 = W1.heap.size) :
  CZ (W'.setCell ⟨g, 0, none⟩ (.slice (some ⟨g6, 0, none⟩) (zs.length + 1) cap6)) jI g (zs ++ [⟨z', a1, a2, n1, n2, c1, c2⟩]) (some ⟨g6, 0, none⟩) cap6 am cm m av cv v aF := by
 have h1 := h.below hb
 have hbs : jI ≤ W.heap.size := by have := h.gs; omega
 have hzo : (ER az cz zs).v.ownBlock = (Value.slice az zs.length cz).ownBlock := rfl
 have VZ : ∀ k, (Value.slice az zs.length cz).ownBlock = some k → k < W.heap.size := fun k hk => (h.oz.lt k (by rw [hzo]; exact hk)).2
 -- the row's new block is none of the others'
 have hnb : ∀ (r : Rs), (ER az cz zs).off r → (∀ k, r.v.ownBlock = some k → k < W1.heap.size) → r.v.ownBlock ≠ some g6 := fun r hoff hlt e => by
  rcases hl with h2 | h2
  ·exact hoff g6 h2 e
  ·have := hlt g6 e; omega
 have hzl : (NQ ⟨z', a1, a2, n1, n2, c1, c2⟩).on W1 W.heap.size := hz.o1
 have hzy : (NR ⟨z', a1, a2, n1, n2, c1, c2⟩).on W1 W.heap.size := hz.o2
 have hge : ∀ (r : Rs), r.on W1 W.heap.size → ∀ k, r.v.ownBlock = some k → W.heap.size ≤ k ∧ k < W1.heap.size := fun r hr k hk => hr.lt k hk
 have ZL : (ER az cz zs).off (NQ ⟨z', a1, a2, n1, n2, c1, c2⟩) := fun k h2 h3 => by have := VZ k h2; have := (hge _ hzl k h3).1; omega
 have ZM : (ER az cz zs).off (NR ⟨z', a1, a2, n1, n2, c1, c2⟩) := fun k h2 h3 => by have := VZ k h2; have := (hge _ hzy k h3).1; omega
 have ZN : g6 ≠ g := fun e => by
  rcases hl with h2 | h2
  ·exact h.gz (by rw [hzo, h2, e])
  ·have := h1.gs.2; omega
 have hgw : (Value.slice az zs.length cz).ownBlock ≠ some g := h.gz
 -- a row that is kept: own at W1, apart from the aC7 row and from g
 have keep : ∀ (r : Rs) (b : Nat), r.on W1 b → (ER az cz zs).off r → r.v.ownBlock ≠ some g → r.on (W'.setCell ⟨g, 0, none⟩ (.slice (some ⟨g6, 0, none⟩) (zs.length + 1) cap6)) b := fun r b hr hoff hne =>
  bJ (gZ hr hg (fun k hk e => hoff k e hk)) hne _
 have hne2 : ∀ (r : Rs), r.on W1 W.heap.size → r.v.ownBlock ≠ some g := fun r hr e => by have := (hge r hr g e).1; have := h.gs.2; omega
 have hlen : (zs ++ [(⟨z', a1, a2, n1, n2, c1, c2⟩ : Zc)]).length = zs.length + 1 := by simp
 have hv : (ER (some ⟨g6, 0, none⟩) cap6 (zs ++ [⟨z', a1, a2, n1, n2, c1, c2⟩])).v = .slice (some ⟨g6, 0, none⟩) (zs.length + 1) cap6 := by unfold ER; simp only [hlen]
 have hvo : (ER (some ⟨g6, 0, none⟩) cap6 (zs ++ [⟨z', a1, a2, n1, n2, c1, c2⟩])).v.ownBlock = some g6 := by rw [hv]; rfl
 have CS : ∀ (r : Rs), r.v.ownBlock ≠ some g6 → (ER (some ⟨g6, 0, none⟩) cap6 (zs ++ [⟨z', a1, a2, n1, n2, c1, c2⟩])).off r := fun r hr k h2 h3 => by
  rw [hvo] at h2
  obtain rfl := gP h2
  exact hr h3
 have lt1 : ∀ (r : Rs) (b : Nat), r.on W1 b → ∀ k, r.v.ownBlock = some k → k < W1.heap.size := fun r b hr k hk => (hr.lt k hk).2
 have hmem : ∀ y ∈ zs ++ [(⟨z', a1, a2, n1, n2, c1, c2⟩ : Zc)], y ∈ zs ∨ y = ⟨z', a1, a2, n1, n2, c1, c2⟩ := fun y hy => by simpa using hy
 refine ⟨?_, keep _ _ h1.ov h.zv h.gv, keep _ _ h1.om h.zm h.gm, fun y hy => ?_, CS _ (hnb _ h.zv (lt1 _ _ h1.ov)), CS _ (hnb _ h.zm (lt1 _ _ h1.om)), fun y hy => ?_, h.vm, fun y hy => ?_, by rw [hvo]; exact fun e => ZN (gP e), h.gv, h.gm, fun y hy => ?_, ⟨h.gs.1, by simpa using gI h1.gs.2 hg.size⟩, ?_, aH (bI h1.fz h1.gs.2 hg (fun e => hgw e.symm)) _ _⟩
 ·have h2 := bJ ho (b := g) (i := 0) (by intro e; exact ZN (by simpa [Value.ownBlock] using e)) (.slice (some ⟨g6, 0, none⟩) (zs.length + 1) cap6)
  unfold Rs.on ER
  simp only [hlen]
  exact h2
 ·rcases hmem y hy with h2 | rfl
  ·exact ⟨keep _ _ (h1.rd y h2).1 (h.zy y h2).1 (h.gy y h2).1, keep _ _ (h1.rd y h2).2 (h.zy y h2).2 (h.gy y h2).2⟩
  ·exact ⟨own_base (keep _ _ hzl ZL (hne2 _ hzl)) hbs, own_base (keep _ _ hzy ZM (hne2 _ hzy)) hbs⟩
 ·rcases hmem y hy with h2 | rfl
  ·exact ⟨CS _ (hnb _ (h.zy y h2).1 (lt1 _ _ (h1.rd y h2).1)), CS _ (hnb _ (h.zy y h2).2 (lt1 _ _ (h1.rd y h2).2))⟩
  ·exact ⟨CS _ (hnb _ ZL (lt1 _ _ hzl)), CS _ (hnb _ ZM (lt1 _ _ hzy))⟩
 ·rcases hmem y hy with h2 | rfl
  ·exact h.vy y h2
  ·exact ⟨fun k h3 h4 => by have := (h.ov.lt k h3).2; have := (hge _ hzl k h4).1; omega, fun k h3 h4 => by have := (h.ov.lt k h3).2; have := (hge _ hzy k h4).1; omega⟩
 ·rcases hmem y hy with h2 | rfl
  ·exact h.gy y h2
  ·exact ⟨hne2 _ hzl, hne2 _ hzy⟩
 ·have h2 := aG (bH h1.k h1.gs.2 hg (fun e => hgw e.symm)) 0 (.slice (some ⟨g6, 0, none⟩) (zs.length + 1) cap6)
  rw [hlen]
  exact h2
theorem CZ.done {y0 y1 : Zc} {m0 m1 : Nat} (h : CZ W jI g [y0, y1] az cz am cm [m0, m1] av cv v aF) {X : Nat → Prop} (hX : ∀ k, X k → k < jI) :
  HS W g X ⟨y0.z, y1.z, m0, m1, aF, [], v⟩ ⟨az, cz, am, cm, none, 0, av, cv, y0, y1, []⟩ := by
 have m0 : y0 ∈ [y0, y1] := by simp
 have m1 : y1 ∈ [y0, y1] := by simp
 have hl : (nP ⟨az, cz, am, cm, none, 0, av, cv, y0, y1, []⟩).v.ownBlock = none := rfl
 have base0 : ∀ (r : Rs), r.on W jI → r.on W 0 := fun r hr => own_base hr (Nat.zero_le _)
 refine ⟨⟨⟨fun r hr => ?_, ?_⟩, fun r hr => ?_, fun r hr s hs => ?_, fun r hr k hk => ?_, fun r hr => ?_, fun r hr k hk hx => ?_, h.gs.2, fun e => by have := hX _ e; have := h.gs.1; omega, fun k hk => by have := hX k hk; have := h.gs; omega, rfl, rfl, rfl⟩, h.k, h.fz⟩
 ·simp only [Hc.rows, List.map_nil, List.mem_cons, List.not_mem_nil, or_false] at hr
  rcases hr with rfl | rfl | rfl
  ·exact base0 _ h.oz
  ·exact ⟨rfl, .inl ⟨rfl, rfl⟩⟩
  ·exact base0 _ h.ov
 ·unfold Hc.rows
  refine List.pairwise_cons.2 ⟨fun r hr => ?_, List.pairwise_cons.2 ⟨fun r hr k h2 => (by rw [hl] at h2; cases h2), List.pairwise_cons.2 ⟨fun r hr => (by simp at hr), List.Pairwise.nil⟩⟩⟩
  simp only [List.map_nil, List.mem_cons, List.not_mem_nil, or_false] at hr
  rcases hr with rfl | rfl
  ·exact fun k _ h3 => by rw [hl] at h3; cases h3
  ·exact h.zv
 ·simp only [Hc.reads, List.mem_cons, List.not_mem_nil, or_false] at hr
  rcases hr with rfl | rfl | rfl | rfl | rfl
  ·exact base0 _ h.om
  ·exact base0 _ (h.rd y0 m0).1
  ·exact base0 _ (h.rd y0 m0).2
  ·exact base0 _ (h.rd y1 m1).1
  ·exact base0 _ (h.rd y1 m1).2
 ·simp only [Hc.reads, List.mem_cons, List.not_mem_nil, or_false] at hr
  simp only [Hc.rows, List.map_nil, List.mem_cons, List.not_mem_nil, or_false] at hs
  rcases hs with rfl | rfl | rfl
  ·rcases hr with rfl | rfl | rfl | rfl | rfl
   ·exact h.zm.symm
   ·exact (h.zy y0 m0).1.symm
   ·exact (h.zy y0 m0).2.symm
   ·exact (h.zy y1 m1).1.symm
   ·exact (h.zy y1 m1).2.symm
  ·exact fun k _ h3 => by rw [hl] at h3; cases h3
  ·rcases hr with rfl | rfl | rfl | rfl | rfl
   ·exact h.vm.symm
   ·exact (h.vy y0 m0).1.symm
   ·exact (h.vy y0 m0).2.symm
   ·exact (h.vy y1 m1).1.symm
   ·exact (h.vy y1 m1).2.symm
 ·simp only [Hc.rows, List.map_nil, List.mem_cons, List.not_mem_nil, or_false] at hr
  rcases hr with rfl | rfl | rfl
  ·exact ⟨fun e => h.gz (by rw [← e]; exact hk), fun e => by have := hX k e; have := (h.oz.lt k hk).1; omega⟩
  ·rw [hl] at hk; cases hk
  ·exact ⟨fun e => h.gv (by rw [← e]; exact hk), fun e => by have := hX k e; have := (h.ov.lt k hk).1; omega⟩
 ·simp only [Hc.reads, List.mem_cons, List.not_mem_nil, or_false] at hr
  rcases hr with rfl | rfl | rfl | rfl | rfl
  ·exact h.gm
  ·exact (h.gy y0 m0).1
  ·exact (h.gy y0 m0).2
  ·exact (h.gy y1 m1).1
  ·exact (h.gy y1 m1).2
 ·have h5 := hX k hx
  simp only [Hc.reads, List.mem_cons, List.not_mem_nil, or_false] at hr
  rcases hr with rfl | rfl | rfl | rfl | rfl
  ·have := (h.om.lt k hk).1; omega
  ·have := ((h.rd y0 m0).1.lt k hk).1; omega
  ·have := ((h.rd y0 m0).2.lt k hk).1; omega
  ·have := ((h.rd y1 m1).1.lt k hk).1; omega
  ·have := ((h.rd y1 m1).2.lt k hk).1; omega
end
end
section
open Go.RowKit

def oW (f : Nat → Bool) (b : Bool) : Array Value := (((List.range 256).map fun p => Value.bool (f p)) ++ [Value.bool b]).toArray
theorem wO (f : Nat → Bool) (b : Bool) : (oW f b).size = 257 := by simp [oW]
theorem zL (f : Nat → Bool) (b : Bool) (p : Nat) (h : p < 256) : (oW f b)[p]? = some (.bool (f p)) := by
 unfold oW
 rw [gB, List.getElem?_append_left (by simpa using h), List.getElem?_map, List.getElem?_range h]
 rfl
theorem uZ (f : Nat → Bool) (b : Bool) : (oW f b)[256]? = some (.bool b) := by
 unfold oW
 rw [gB, List.getElem?_append_right (by simp)]
 simp
theorem QG (f g : Nat → Bool) (b : Bool) (q : Nat) (hq : q < 256) (v : Bool) (hv : g q = v) (h : ∀ p, p < 256 → p ≠ q → g p = f p) : (oW f b).setIfInBounds q (.bool v) = oW g b := by
 apply Array.ext_getElem?
 intro i
 rw [Array.getElem?_setIfInBounds]
 by_cases hi : i < 256
 ·rw [zL g b i hi]
  by_cases hiq : q = i
  ·subst hiq
   rw [if_pos rfl, if_pos (by rw [wO]; omega), hv]
  ·rw [if_neg hiq, zL f b i hi, h i hi (fun e => hiq e.symm)]
 ·by_cases hi6 : i = 256
  ·subst hi6
   rw [if_neg (by omega), uZ, uZ]
  ·rw [Array.getElem?_eq_none (show (oW g b).size ≤ i by rw [wO]; omega), if_neg (by omega), Array.getElem?_eq_none (show (oW f b).size ≤ i by rw [wO]; omega)]
theorem Js {f g : Nat → Bool} {b : Bool} (h : ∀ p, p < 256 → f p = g p) : oW f b = oW g b := by
 unfold oW
 congr 1
 congr 1
 exact List.map_congr_left fun p hp => by rw [h p (List.mem_range.1 hp)]
def marked (f : Nat → Bool) (a q p : Nat) : Bool := f p || decide (a ≤ p ∧ p < q)
theorem Jt (f : Nat → Bool) (a p : Nat) : marked f a a p = f p := by unfold marked; rw [decide_eq_false (by omega), Bool.or_false]
theorem NV (f : Nat → Bool) (a q : Nat) : marked f a q q = f q := by unfold marked; rw [decide_eq_false (by omega), Bool.or_false]
theorem Gi (f : Nat → Bool) (a q : Nat) (h : a ≤ q) (hq : q < 256) (b : Bool) : (oW (marked f a q) b).setIfInBounds q (.bool true) = oW (marked f a (q + 1)) b := by
 refine QG _ _ b q hq true ?_ fun p hp hne => ?_
 ·unfold marked; rw [decide_eq_true (by omega), Bool.or_true]
 ·unfold marked
  congr 1
  exact decide_eq_decide.2 (by omega)

structure wP (W : World) (G : Nat) (f : Nat → Bool) (b : Bool) : Prop where
 k : ∀ o, W.cell? ⟨G, o, none⟩ = (oW f b)[o]?
 fz : ∀ o, W.frozen? ⟨G, o, none⟩ = false
 hi : G < W.heap.size
theorem wP.below {W W' : World} {G : Nat} {f : Nat → Bool} {b : Bool} (h : wP W G f b) (hb : Below W.heap.size W W') : wP W' G f b := ⟨aB h.k h.hi hb, aJ h.fz h.hi hb, gI h.hi hb.size⟩
theorem wP.mark {W : World} {G : Nat} {f g : Nat → Bool} {b : Bool} (h : wP W G f b) (q : Nat) (v : Bool) (he : (oW f b).setIfInBounds q (.bool v) = oW g b) : wP (W.setCell ⟨G, q, none⟩ (.bool v)) G g b := ⟨he ▸ aG h.k q _, aH h.fz _ _, by simpa using h.hi⟩
theorem wP.congr {W : World} {G : Nat} {f g : Nat → Bool} {b : Bool} (h : wP W G f b) (hfg : ∀ p, p < 256 → f p = g p) : wP W G g b := ⟨by rw [← Js hfg]; exact h.k, h.fz, h.hi⟩

set_option maxHeartbeats 4000000 in
set_option maxRecDepth 100000 in
theorem Uy (G a n : Nat) (f : Nat → Bool) (b : Bool) (w : World) (hm : wP w G f b) (hn : a + n ≤ 256) (h1 : a < 256) (hf : ∀ p, a ≤ p → p < a + n → f p = false) :
  Calls Tryz.prog 128 #[.pointer (some ⟨G, 0, none⟩), .int .i64 a, .int .i64 n] w fun ev w' => ev = .returned (.tuple #[]) ∧ wP w' G (marked f a (a + n)) b ∧ Safe (fun k => k ≠ G) w w' := by
 have d1 : decide ((256 : Int) ≤ a) = false := decide_eq_false (by omega)
 have d2 : decide (256 ≤ a) = false := decide_eq_false (by omega)
 have d3 : decide ((256 : Int) - a < n) = false := decide_eq_false (by omega)
 have HM := gO hm
 clear hm
 go_enter Tryz.func128, Tryz.ntmps128
 go_wp2
 go_loopw [6] (fun s6 wr => ∃ q : Nat, a ≤ q ∧ q ≤ a + n ∧ s6 = .int .i64 (q : Int) ∧ Hid (wP wr G (marked f a q) b) ∧ Hid (Safe (fun k => k ≠ G) w wr)) (fun s6 _ => a + n - (intOf s6).toNat)
 case atStart => exact ⟨a, Nat.le_refl _, by omega, rfl, HM.out.congr (fun p _ => (Jt f a p).symm), Safe.refl _ _⟩
 case round =>
  obtain ⟨q, hq1, hq2, rfl, HK, HB⟩ := hrel
  clear HM
  have hHi := HK.out.hi
  by_cases hlt : q < a + n
  ·have hlt2 : (q : Int) < a + n := by omega
   have aFJ : (q : Int) < 256 := by omega
   have QI : q < 256 := by omega
   have hcell := (HK.out.k q).trans (zL _ b q QI)
   rw [NV, hf q hq1 hlt] at hcell
   have hfz := HK.out.fz q
   have HK2 := gO (HK.out.mark q true (Gi f a q hq1 QI b))
   have HB2 := gO (HB.out.set (g := G) (fun e => e rfl) q (.bool true))
   go_wp2
   go_roundw
   case rel => exact ⟨q + 1, by omega, by omega, by go_num, HK2, HB2⟩
   case measure => simp [intOf]; omega
  ·obtain rfl : q = a + n := by omega
   have d4 : ¬ ((a : Int) + n < a + n) := by omega
   go_wp2
   refine bodyPost_end (v := .tuple #[]) (by simp [results, Tryz.results128, go_sem]) rfl ⟨rfl, HK.out, HB.out⟩
end
section
open Go.RowKit

def Bv (done : List Bk) (p : Nat) : Bool := decide (0 < cnt done p)
theorem QJ (done : List Bk) (b : Bk) (p : Nat) : marked (Bv done) b.a b.fin p = Bv (done ++ [b]) p := by
 unfold marked Bv
 rw [bK]
 have h1 : cnt [b] p = hit b p := by simp [cnt]
 rw [h1]
 unfold hit
 by_cases h : b.a ≤ p ∧ p < b.fin
 ·rw [if_pos h, decide_eq_true h, Bool.or_true, decide_eq_true (by omega)]
 ·rw [if_neg h, decide_eq_false h, Bool.or_false, Nat.add_zero]
theorem zM (G : Nat) (b : Bk) (done : List Bk) (w : World) (hm : wP w G (Bv done) false) (h1 : ∀ p, cnt (done ++ [b]) p ≤ 1) (hb : b.fin ≤ 256) (v : Int) (hv : v = ((2 ^ b.o : Nat) : Int)) :
  Calls Tryz.prog 128 #[.pointer (some ⟨G, 0, none⟩), .int .i64 b.a, .int .i64 v] w fun ev w' => ev = .returned (.tuple #[]) ∧ wP w' G (Bv (done ++ [b])) false ∧ Safe (fun k => k ≠ G) w w' := by
 subst hv
 have hpo := dK b.o
 have hfin : b.fin = b.a + 2 ^ b.o := rfl
 refine (Uy G b.a (2 ^ b.o) (Bv done) false w hm (by omega) (by omega) (fun p h2 h3 => ?_)).mono fun ev w' h => ⟨h.1, h.2.1.congr fun p _ => by rw [← hfin]; exact QJ done b p, h.2.2⟩
 have h4 := h1 p
 rw [bK] at h4
 have h5 : cnt [b] p = 1 := by
  simp only [cnt, Nat.add_zero]
  exact iU.2 ⟨h2, h3⟩
 unfold Bv
 exact decide_eq_false (by omega)
end
section
theorem qG : ∀ (a b : List Nat) (h : Hp), aV h (a ++ b) = aV (aV h a) b
 | [], _, _ => rfl
 | p :: a, b, h => by rw [List.cons_append, aV, aV, qG a b]
theorem rP : ∀ (a b : List Ls) (h : Hp), bT h (a ++ b) = bT (bT h a) b
 | [], _, _ => rfl
 | l :: a, b, h => by rw [List.cons_append, bT, bT, rP a b]
theorem vG (h : Hp) (l : List Nat) {j : Nat} (hj : j < l.length) : aV h (l.take (j + 1)) = (aV h (l.take j)).gY l[j] 0 := by
 rw [List.take_succ_eq_append_getElem hj, qG]
 rfl
theorem Gt (h : Hp) (l : List Ls) {i : Nat} (hi : i < l.length) : bT h (l.take (i + 1)) = aV (bT h (l.take i)) l[i].p := by
 rw [List.take_succ_eq_append_getElem hi, rP]
 rfl
theorem Jz {h : Hp} (hk : dX h) {a o : Nat} (hb : bY 0 256 a o) (hd : ∀ p, cnt h.all p + hit ⟨a, o, 0⟩ p ≤ 1) : (h.zone (h.gX a)).ok ∧ bY (h.zone (h.gX a)).f (h.zone (h.gX a)).e a o ∧ ∀ x ∈ (h.zone (h.gX a)).l, apartB a o x :=
 ⟨hk.zone _, hk.fits hb, fun x hx => dB fun p h1 h2 => by
  have g1 := hd p
  have g2 := zC h (h.gX a) p
  have g3 := iJ.2 (show eP (h.zone (h.gX a)).l p from ⟨x, hx, h2⟩)
  have g4 : hit ⟨a, o, 0⟩ p = 1 := iU.2 h1
  omega⟩
theorem rQ {h : Hp} (hk : dX h) {a o : Nat} (m : List Ls) (hb : bY 0 256 a o) (hd : ∀ p, cnt h.all p + hit ⟨a, o, 0⟩ p ≤ 1) : (({ h with ls := m } : Hp).zone (({ h with ls := m } : Hp).gX a)).ok ∧ bY (({ h with ls := m } : Hp).zone (({ h with ls := m } : Hp).gX a)).f (({ h with ls := m } : Hp).zone (({ h with ls := m } : Hp).gX a)).e a o ∧ ∀ x ∈ (({ h with ls := m } : Hp).zone (({ h with ls := m } : Hp).gX a)).l, apartB a o x := Jz hk hb hd
theorem xX {h : Hp} (hk : dX h) {i : Nat} (hi : i < h.ls.length) {j : Nat} (hj : j < h.ls[i].p.length) :
  ((aV (bT h (h.ls.take i)) (h.ls[i].p.take j)).zone ((aV (bT h (h.ls.take i)) (h.ls[i].p.take j)).gX h.ls[i].p[j])).ok ∧ bY ((aV (bT h (h.ls.take i)) (h.ls[i].p.take j)).zone ((aV (bT h (h.ls.take i)) (h.ls[i].p.take j)).gX h.ls[i].p[j])).f ((aV (bT h (h.ls.take i)) (h.ls[i].p.take j)).zone ((aV (bT h (h.ls.take i)) (h.ls[i].p.take j)).gX h.ls[i].p[j])).e h.ls[i].p[j] 0 ∧ ∀ x ∈ ((aV (bT h (h.ls.take i)) (h.ls[i].p.take j)).zone ((aV (bT h (h.ls.take i)) (h.ls[i].p.take j)).gX h.ls[i].p[j])).l, apartB h.ls[i].p[j] 0 x := by
 have hp : ∀ l ∈ h.ls, ∀ p ∈ l.p, p < 256 := fun l hl p hp => ((hk.lr l hl).2.2.2.2.2 p hp).1
 have hc : ∀ q, cnt ({ h with ls := [] } : Hp).all q + cnt (lsB h.ls) q = cnt h.all q := fun q => by
  rw [dA, dA]
  simp only [lsB, cnt]
  omega
 have hsp : ∀ q, cnt (lsB h.ls) q = cnt (lsB (h.ls.take i)) q + cnt (jK h.ls[i].p) q + cnt (lsB (h.ls.drop (i + 1))) q := fun q => by
  have h1 := zD hi
  have h2 : cnt (lsB h.ls) q = cnt (lsB (h.ls.take i ++ h.ls[i] :: h.ls.drop (i + 1))) q := congrArg (fun l => cnt (lsB l) q) h1
  rw [iZ, fM] at h2
  omega
 have hpp : ∀ q, cnt (jK h.ls[i].p) q = cnt (jK (h.ls[i].p.take j)) q + hit ⟨h.ls[i].p[j], 0, 0⟩ q + cnt (jK (h.ls[i].p.drop (j + 1))) q := fun q => by
  have h1 : h.ls[i].p = h.ls[i].p.take j ++ ([h.ls[i].p[j]] ++ h.ls[i].p.drop (j + 1)) := by
   rw [List.singleton_append, List.getElem_cons_drop, List.take_append_drop]
  have h2 : cnt (jK h.ls[i].p) q = cnt (jK (h.ls[i].p.take j ++ ([h.ls[i].p[j]] ++ h.ls[i].p.drop (j + 1)))) q := congrArg (fun l => cnt (jK l) q) h1
  rw [iD, iD, xQ] at h2
  omega
 obtain ⟨a1, a2, a3, a4, a5⟩ := hk.Ea.bT (h.ls.take i) (fun l hl p hx => hp l (List.mem_of_mem_take hl) p hx) (fun q => by have h1 := hc q; have h2 := hsp q; have h3 := hk.one q; omega)
 obtain ⟨b1, b2, b3, b4, b5⟩ := a1.aV (h.ls[i].p.take j) (fun p hx => hp _ (gL hi) p (List.mem_of_mem_take hx)) (fun q => by rw [a2]; have h1 := hc q; have h2 := hsp q; have h3 := hk.one q; have h4 := hpp q; omega)
 have e : aV (bT h (h.ls.take i)) (h.ls[i].p.take j) = { aV (bT { h with ls := [] } (h.ls.take i)) (h.ls[i].p.take j) with ls := h.ls } := by
  rw [← jA, ← wJ]
 rw [e]
 exact rQ b1 h.ls (oC (hp _ (gL hi) _ (gL hj))) (fun q => by rw [b2, a2]; have h1 := hc q; have h2 := hsp q; have h3 := hk.one q; have h4 := hpp q; omega)
theorem zT (h : Hp) (l : List Ls) : (bT h l).ls = h.ls ∧ (bT h l).live = h.live := by
 have hB : ∀ (g : Hp) (a o : Nat), (g.gY a o).ls = g.ls ∧ (g.gY a o).live = g.live := fun g a o => by
  unfold Hp.gY Hp.iG
  split <;> exact ⟨rfl, rfl⟩
 have hA : ∀ (ps : List Nat) (g : Hp), (aV g ps).ls = g.ls ∧ (aV g ps).live = g.live := by
  intro ps
  induction ps with
  | nil => intro g; exact ⟨rfl, rfl⟩
  | cons p ps ih => intro g; rw [aV]; exact ⟨(ih _).1.trans (hB g p 0).1, (ih _).2.trans (hB g p 0).2⟩
 induction l generalizing h with
 | nil => exact ⟨rfl, rfl⟩
 | cons x l ih => rw [bT]; exact ⟨(ih _).1.trans (hA _ _).1, (ih _).2.trans (hA _ _).2⟩
end
section
theorem GV {l : List Sl} {a : Nat} : l.take (EP l a) = l.takeWhile (fun x => decide (x.p < a)) ∧ l.drop (EP l a) = l.dropWhile (fun x => decide (x.p < a)) := by
 have h : l.takeWhile (fun x => decide (x.p < a)) ++ l.dropWhile (fun x => decide (x.p < a)) = l := List.takeWhile_append_dropWhile
 unfold EP
 constructor
 ·conv => lhs; rw [← h]
  rw [List.take_left']
  rw [h]
 ·conv => lhs; rw [← h]
  rw [List.drop_left']
  rw [h]
theorem MC (l : List Sl) (x : Sl) : jH l x = l.takeWhile (fun y => decide (y.p < x.p)) ++ x :: l.dropWhile (fun y => decide (y.p < x.p)) := by
 unfold jH
 rw [GV.1, GV.2]
theorem lD {l : List Sl} {x y : Sl} : y ∈ jH l x ↔ y = x ∨ y ∈ l := by
 rw [MC]
 have h : l.takeWhile (fun y => decide (y.p < x.p)) ++ l.dropWhile (fun y => decide (y.p < x.p)) = l := List.takeWhile_append_dropWhile
 conv => rhs; rw [← h]
 simp only [List.mem_append, List.mem_cons]
 constructor
 ·rintro (h | h | h)
  ·exact .inr (.inl h)
  ·exact .inl h
  ·exact .inr (.inr h)
 ·rintro (h | h | h)
  ·exact .inr (.inl h)
  ·exact .inl h
  ·exact .inr (.inr h)
theorem vK {a : Nat} : ∀ {l : List Sl}, (l.Pairwise fun x y => x.p < y.p) → ∀ y ∈ l.dropWhile (fun x => decide (x.p < a)), a ≤ y.p
 | [], _, y, hy => by simp at hy
 | b :: l, hl, y, hy => by
  rw [List.pairwise_cons] at hl
  by_cases hb : b.p < a
  ·rw [List.dropWhile_cons_of_pos (by simpa using hb)] at hy
   exact vK hl.2 y hy
  ·rw [List.dropWhile_cons_of_neg (by simpa using hb)] at hy
   rcases List.mem_cons.1 hy with rfl | hy
   ·omega
   ·have := hl.1 y hy
    omega
theorem RJ {q : Sl → Bool} {y : Sl} : ∀ {l : List Sl}, y ∈ l.takeWhile q → q y = true
 | [], h => by simp at h
 | b :: l, h => by
  by_cases hb : q b = true
  ·rw [List.takeWhile_cons_of_pos hb] at h
   rcases List.mem_cons.1 h with rfl | h
   ·exact hb
   ·exact RJ h
  ·rw [List.takeWhile_cons_of_neg hb] at h
   simp at h
theorem OC {l : List Sl} {x : Sl} (hl : l.Pairwise fun a b => a.p < b.p) (hx : ∀ y ∈ l, y.p ≠ x.p) : (jH l x).Pairwise fun a b => a.p < b.p := by
 have h : l.takeWhile (fun y => decide (y.p < x.p)) ++ l.dropWhile (fun y => decide (y.p < x.p)) = l := List.takeWhile_append_dropWhile
 have h1 : ∀ y ∈ l.takeWhile (fun y => decide (y.p < x.p)), y.p < x.p := fun y hy => by
  have := RJ hy
  simpa using this
 have h2 := vK (a := x.p) hl
 have h3 := hl
 rw [← h, List.pairwise_append] at h3
 rw [MC, List.pairwise_append, List.pairwise_cons]
 refine ⟨h3.1, ⟨fun y hy => ?_, h3.2.1⟩, fun a ha b hb => ?_⟩
 ·have h4 := h2 y hy
  have h5 := hx y (by rw [← h]; exact List.mem_append_right _ hy)
  omega
 ·rcases List.mem_cons.1 hb with rfl | hb
  ·exact h1 a ha
  ·exact h3.2.2 a ha b hb
theorem GX (l : List Sl) (x : Sl) : (jH l x)[EP l x.p]? = some x := by
 have h : EP l x.p ≤ l.length := (List.takeWhile_sublist _).length_le
 unfold jH
 rw [List.getElem?_append_right (by rw [List.length_take]; omega), List.length_take, Nat.min_eq_left h, Nat.sub_self]
 rfl

theorem Ah {k : Nat} (h : 1 ≤ k ∧ k ≤ 64) : 1 ≤ dW k := by
 unfold dW
 rw [Nat.le_div_iff_mul_le (by omega)]
 unfold dR
 split
 ·rename_i h1
  rw [Nat.le_div_iff_mul_le (by omega)] at h1
  omega
 ·split
  ·rename_i h1
   rw [Nat.le_div_iff_mul_le (by omega)] at h1
   omega
  ·omega
theorem OD (k : Nat) : dW k * k ≤ 16 * 2 ^ dR k := Nat.div_mul_le_self _ _
theorem kH (k : Nat) : dR k ≤ 2 := by unfold dR; split <;> (try split) <;> omega
theorem jW {c : Ca} {p : Nat} {a : Int} (hc : c.r * c.z ≤ 16 * 2 ^ c.o) (h : iH c p a = true) : 16 * (p : Int) ≤ a ∧ a < 16 * ((p + 2 ^ c.o : Nat) : Int) := by
 have h1 := qW h
 have h2 : ((c.r * c.z : Nat) : Int) ≤ ((16 * 2 ^ c.o : Nat) : Int) := by exact_mod_cast hc
 have h3 : ((c.r * c.z : Nat) : Int) = (c.r : Int) * c.z := by push_cast; rfl
 have h4 : ((16 * 2 ^ c.o : Nat) : Int) = 16 * ((2 ^ c.o : Nat) : Int) := by push_cast; rfl
 have h5 : ((p + 2 ^ c.o : Nat) : Int) = (p : Int) + ((2 ^ c.o : Nat) : Int) := by push_cast; rfl
 generalize ((2 ^ c.o : Nat) : Int) = q at *
 omega
theorem oM.room {s : Sy} {c : Ca} (h : oM s c) : c.r * c.z ≤ 16 * 2 ^ c.o := by rw [h.r, h.o]; exact OD _

theorem nH (xs : List Int) (p k n : Nat) : ∀ (j : Nat), j ≤ n → ∀ i, (i < p ∨ p + k * n ≤ i) → 1 ≤ k → (chainTo xs p k n j).getD i 0 = xs.getD i 0
 | 0, _, _, _, _ => rfl
 | j + 1, hj, i, hi, hk => by
  have ih := nH xs p k n j (by omega) i hi hk
  have hne : p + j * k ≠ i := by
   have h1 : (j + 1) * k ≤ n * k := Nat.mul_le_mul_right k hj
   have h2 : n * k = k * n := Nat.mul_comm _ _
   rw [Nat.add_mul] at h1
   omega
  unfold chainTo
  rw [List.getD_eq_getElem?_getD, List.getElem?_set_ne hne, ← List.getD_eq_getElem?_getD]
  exact ih

theorem dM.grow {s s' : Sy} (hk : dM s) {i cpu k : Nat} {c : Ca} (hi : s.cs[i]? = some c) (dP : cpu < s.h.aF) (hg : s.grow i cpu c = some (s', k)) :
  dM s' ∧ s'.h.aF = s.h.aF ∧ ∃ (c' : Ca) (x : Sl), s'.cs[i]? = some c' ∧ c'.sl[k]? = some x ∧ 0 < x.n ∧ (∀ a ∈ c'.ac, a ≠ (x.p : Int)) := by
 have hil := (List.getElem?_eq_some_iff.1 hi).1
 have hck := hk.ck c (gM hi)
 have hor : c.o ≤ 4 := by rw [hck.o]; exact gQ (kH _) (by decide)
 unfold Sy.grow at hg
 cases hal : s.h.alloc cpu c.o 0 false false with
 | none => rw [hal] at hg; cases hg
 | some r =>
  obtain ⟨h', a⟩ := r
  rw [hal] at hg
  have h1 := gP hg
  rw [Prod.mk.injEq] at h1
  obtain ⟨rfl, rfl⟩ := h1
  obtain ⟨hh, hcnt, hsame, hlive, hfit⟩ := hk.hk.alloc dP hor (by decide) hal
  have MF : h'.aF = s.h.aF := hsame.aF
  have hcl : h'.live = bD s.h.live ⟨a, c.o, 0⟩ := hlive
  -- the new block lies apart from all others
  have hap : ∀ b ∈ s.h.live, apartB a c.o b := fun b hb => dB fun q h1 h2 => by
   have h3 := hh.one q
   rw [dA, hcl, qQ] at h3
   have h4 : 0 < cnt s.h.live q := iJ.2 ⟨b, hb, h2⟩
   have h5 : hit (⟨a, c.o, 0⟩ : Bk) q = 1 := iU.2 h1
   omega
  have hpp := Nat.two_pow_pos c.o
  have hsl : ∀ d ∈ s.cs, ∀ x ∈ d.sl, x.p ≠ a ∧ ∀ o : Int, iH d x.p o = true → (chainTo s.w (16 * a) c.z c.r c.r).getD o.toNat 0 = s.w.getD o.toNat 0 := fun d hd x hx => by
   have hdk := hk.ck d hd
   obtain ⟨b, hb, hb1, hb2⟩ := (hdk.sk x hx).live
   have h1 := hap b hb
   unfold apartB Bk.fin at h1
   rw [hb1, hb2] at h1
   have hp2 := Nat.two_pow_pos d.o
   refine ⟨by omega, fun o ho => nH _ _ _ _ _ (Nat.le_refl _) _ ?_ hck.z.1⟩
   have h2 := jW hdk.room ho
   have h3 := hck.room
   rw [Nat.mul_comm c.z c.r]
   generalize c.r * c.z = m at *
   generalize 2 ^ c.o = q at *
   generalize 2 ^ d.o = q' at *
   omega
  have hwl : (chainTo s.w (16 * a) c.z c.r c.r).length = s.w.length := fD _ _ _ _ _
  have hlv : ∀ b ∈ s.h.live, b ∈ h'.live := fun b hb => by
   rw [hcl]
   unfold bD
   have h2 : s.h.live.take (lb s.h.live a) ++ s.h.live.drop (lb s.h.live a) = s.h.live := List.take_append_drop _ _
   rw [← h2] at hb
   rcases List.mem_append.1 hb with h | h
   ·exact List.mem_append_left _ h
   ·exact List.mem_append_right _ (List.mem_cons_of_mem _ h)
  have hoth : ∀ d ∈ s.cs, ∀ x ∈ d.sl, pG { w := chainTo s.w (16 * a) c.z c.r c.r, h := h', cs := s.cs.set i { c with sl := jH c.sl ⟨a, c.r, ((16 * a : Nat) : Int)⟩ } } d x := fun d hd x hx =>
   ((hk.ck d hd).sk x hx).move rfl rfl rfl hlv hwl ((hsl d hd x hx).2)
  have hr1 : 1 ≤ c.r := by rw [hck.r]; exact Ah hck.z
  have hin : 16 * a + c.z * c.r ≤ s.w.length := by
   have h1 := hck.room
   have h2 : a + 2 ^ c.o ≤ 256 := by
    have h3 : c.o ≤ 2 := by rw [hck.o]; exact kH _
    obtain ⟨_, _, h4, h5⟩ := hfit
    generalize c.o = o at *
    obtain rfl | rfl | rfl : o = 0 ∨ o = 1 ∨ o = 2 := by omega
    ·omega
    ·omega
    ·omega
   rw [Nat.mul_comm c.z, hk.wl]
   generalize c.r * c.z = m at *
   generalize 2 ^ c.o = q at *
   omega
  have hnew : pG { w := chainTo s.w (16 * a) c.z c.r c.r, h := h', cs := s.cs.set i { c with sl := jH c.sl ⟨a, c.r, ((16 * a : Nat) : Int)⟩ } } { c with sl := jH c.sl ⟨a, c.r, ((16 * a : Nat) : Int)⟩ } ⟨a, c.r, ((16 * a : Nat) : Int)⟩ := by
   refine ⟨⟨⟨a, c.o, 0⟩, by rw [show h'.live = _ from hcl]; unfold bD; simp, rfl, rfl⟩, objs (16 * a) c.z c.r, ?_, mW _ _ _, fun o ho => ?_⟩
   ·have h1 := tX s.w (16 * a) c.z c.r c.r hck.z.1 hr1 hin (by omega)
    rw [if_pos (Int.le_refl _)] at h1
    exact h1
   ·unfold objs at ho
    obtain ⟨j, hj, rfl⟩ := List.mem_map.1 ho
    rw [List.mem_range] at hj
    unfold iH
    simp only [decide_eq_true_eq]
    have h1 : ((16 * a + j * c.z : Nat) : Int) - 16 * (a : Int) = (j : Int) * c.z := by push_cast; omega
    rw [h1]
    have h2 : (j : Int) * c.z = ((j * c.z : Nat) : Int) := by push_cast; rfl
    have h3 : (c.r : Int) * c.z = ((c.r * c.z : Nat) : Int) := by push_cast; rfl
    have h4 : j * c.z < c.r * c.z := Nat.mul_lt_mul_of_pos_right hj hck.z.1
    refine ⟨by omega, by omega, Int.mul_emod_left _ _⟩
  refine ⟨hk.upd hi (c' := { c with sl := jH c.sl ⟨a, c.r, ((16 * a : Nat) : Int)⟩ }) (by show (chainTo s.w (16 * a) c.z c.r c.r).length = 4096; rw [hwl]; exact hk.wl) hh rfl rfl rfl ?_ (fun d hd => (hk.ck d hd).move MF (hoth d hd)) (fun x hx => ?_), MF, { c with sl := jH c.sl ⟨a, c.r, ((16 * a : Nat) : Int)⟩ }, ⟨a, c.r, ((16 * a : Nat) : Int)⟩, ?_, GX c.sl ⟨a, c.r, ((16 * a : Nat) : Int)⟩, hr1, fun b hb e => ?_⟩
  ·refine ⟨hck.z, hck.o, hck.r, hck.ns, hck.nm, hck.nr, by rw [show _ = _ from MF]; exact hck.ac, OC hck.sr (fun y hy => (hsl c (gM hi) y hy).1), fun x hx => ?_, fun b hb => ?_, hck.ad⟩
   ·rcases lD.1 hx with rfl | hx
    ·exact hnew
    ·have h1 := hoth c (gM hi) x hx
     exact ⟨h1.live, h1.chain⟩
   ·rcases hck.aw b hb with h | ⟨x, hx, h⟩
    ·exact .inl h
    ·exact .inr ⟨x, lD.2 (.inr hx), h⟩
  ·rcases lD.1 hx with rfl | hx
   ·exact .inr fun d hd y hy => (hsl d hd y hy).1
   ·exact .inl ⟨x, hx, rfl⟩
  ·show (s.cs.set i _)[i]? = _
   rw [List.getElem?_set_self hil]
  ·rcases hck.aw b hb with h | ⟨x, hx, h⟩
   ·rw [h] at e
    have e' : (-1 : Int) = (a : Int) := e
    omega
   ·have h1 := (hsl c (gM hi) x hx).1
    rw [← h] at e
    have e' : (x.p : Int) = (a : Int) := e
    omega

theorem dM.mine {s : Sy} (hk : dM s) {i cpu k : Nat} {c : Ca} {x : Sl} (hi : s.cs[i]? = some c) (hx : c.sl[k]? = some x) (hn : ∀ a ∈ c.ac, a ≠ (x.p : Int)) :
  dM (s.mine i cpu k) ∧ (s.mine i cpu k).h = s.h ∧ (s.mine i cpu k).w = s.w ∧ (s.mine i cpu k).cs[i]? = some { c with ac := c.ac.set cpu (x.p : Int) } := by
 have hil := (List.getElem?_eq_some_iff.1 hi).1
 have hcm := gM hi
 have hck := hk.ck c hcm
 have e : s.mine i cpu k = s.eU i { c with ac := c.ac.set cpu (x.p : Int) } := by
  unfold Sy.mine
  rw [hi]
  simp only [hx]
 rw [e]
 refine ⟨hk.upd hi (c' := { c with ac := c.ac.set cpu (x.p : Int) }) hk.wl hk.hk rfl rfl rfl ?_ (fun d hd => (hk.ck d hd).move rfl (fun y hy => ⟨((hk.ck d hd).sk y hy).live, ((hk.ck d hd).sk y hy).chain⟩)) (fun y hy => .inl ⟨y, hy, rfl⟩), rfl, rfl, ?_⟩
 ·refine ⟨hck.z, hck.o, hck.r, hck.ns, hck.nm, hck.nr, by rw [List.length_set]; exact hck.ac, hck.sr, fun y hy => ⟨(hck.sk y hy).live, (hck.sk y hy).chain⟩, fun a ha => ?_, ?_⟩
  ·rcases List.mem_or_eq_of_mem_set ha with h | rfl
   ·exact hck.aw a h
   ·exact .inr ⟨x, gM hx, rfl⟩
  ·have h1 := hck.ad
   rw [gN] at h1 ⊢
   intro j l hj hl hjl
   have hj' : j < c.ac.length := by simpa using hj
   have hl' : l < c.ac.length := by simpa using hl
   simp only [List.getElem_set]
   split
   ·rename_i e1
    rw [if_neg (by omega)]
    exact fun e2 => absurd e2.symm (hn _ (gL hl'))
   ·split
    ·exact fun e2 => absurd e2 (hn _ (gL hj'))
    ·exact h1 j l hj' hl' hjl
 ·show (s.cs.set i _)[i]? = _
  rw [List.getElem?_set_self hil]

theorem dM.first {s : Sy} (hk : dM s) {c : Ca} {x : Sl} (hc : c ∈ s.cs) (hx : x ∈ c.sl) (hn : 0 < x.n) : ∃ m, follow s.w x.h c.r = some (x.h :: m) ∧ m.length + 1 = x.n ∧ (∀ a ∈ x.h :: m, iH c x.p a = true) ∧ 0 ≤ x.h ∧ x.h < 4096 ∧ follow s.w (s.w.getD x.h.toNat 0) c.r = some m := by
 obtain ⟨l, h1, h2, h3⟩ := ((hk.ck c hc).sk x hx).chain
 have h4 := fV.1 h1
 cases l with
 | nil => simp at h2; omega
 | cons a m =>
  obtain ⟨⟨rfl, h5⟩, h6, h7, h8⟩ := h4
  have h9 := h6 x.h (by simp)
  rw [hk.wl] at h9
  refine ⟨m, h1, by simpa using h2, h3, h9.1, by omega, fV.2 ⟨h5, fun a ha => h6 a (List.mem_cons_of_mem _ ha), fun _ => ?_, (List.nodup_cons.1 h8).2⟩⟩
  have := h7 (by simp)
  simp at this
  omega
theorem dM.pop {s s' : Sy} (hk : dM s) {i k : Nat} {c : Ca} {x : Sl} {a : Int} (hi : s.cs[i]? = some c) (hx : c.sl[k]? = some x) (hn : 0 < x.n) (hp : s.pop i k = some (s', a)) :
  dM s' ∧ s'.h = s.h ∧ s'.w = s.w ∧ a = x.h ∧ s' = s.eU i { c with sl := c.sl.set k ⟨x.p, x.n - 1, s.w.getD x.h.toNat 0⟩ } := by
 have hil := (List.getElem?_eq_some_iff.1 hi).1
 have hcm := gM hi
 have hxm := gM hx
 obtain ⟨hkl, hkx⟩ := List.getElem?_eq_some_iff.1 hx
 have hck := hk.ck c hcm
 unfold Sy.pop at hp
 rw [hi] at hp
 simp only [hx] at hp
 have h1 := gP hp
 rw [Prod.mk.injEq] at h1
 obtain ⟨rfl, rfl⟩ := h1
 obtain ⟨m, h2, h3, h4, h5, h6, h7⟩ := hk.first hcm hxm hn
 have hmem : ∀ y ∈ c.sl.set k ⟨x.p, x.n - 1, s.w.getD x.h.toNat 0⟩, y ∈ c.sl ∨ y = ⟨x.p, x.n - 1, s.w.getD x.h.toNat 0⟩ := fun y hy => List.mem_or_eq_of_mem_set hy
 have hpm : ∀ y ∈ c.sl.set k ⟨x.p, x.n - 1, s.w.getD x.h.toNat 0⟩, ∃ z ∈ c.sl, z.p = y.p := fun y hy => by
  rcases hmem y hy with h | rfl
  ·exact ⟨y, h, rfl⟩
  ·exact ⟨x, hxm, rfl⟩
 refine ⟨hk.upd hi (c' := { c with sl := c.sl.set k ⟨x.p, x.n - 1, s.w.getD x.h.toNat 0⟩ }) hk.wl hk.hk rfl rfl rfl ?_ (fun d hd => (hk.ck d hd).move rfl (fun y hy => ⟨((hk.ck d hd).sk y hy).live, ((hk.ck d hd).sk y hy).chain⟩)) (fun y hy => .inl (hpm y hy)), rfl, rfl, rfl, rfl⟩
 refine ⟨hck.z, hck.o, hck.r, hck.ns, hck.nm, hck.nr, hck.ac, ?_, fun y hy => ?_, fun b hb => ?_, hck.ad⟩
 ·have h8 := hck.sr
  rw [gN] at h8 ⊢
  intro j l hj hl hjl
  have hj' : j < c.sl.length := by simpa using hj
  have hl' : l < c.sl.length := by simpa using hl
  have h9 := h8 j l hj' hl' hjl
  simp only [List.getElem_set]
  split
  ·rename_i e1
   subst e1
   rw [if_neg (by omega)]
   rw [hkx] at h9
   exact h9
  ·split
   ·rename_i e1
    subst e1
    rw [hkx] at h9
    exact h9
   ·exact h9
 ·rcases hmem y hy with h | rfl
  ·exact ⟨(hck.sk y h).live, (hck.sk y h).chain⟩
  ·exact ⟨(hck.sk x hxm).live, m, h7, by show m.length = x.n - 1; omega, fun a ha => h4 a (List.mem_cons_of_mem _ ha)⟩
 ·rcases hck.aw b hb with h | ⟨z, hz, h⟩
  ·exact .inl h
  ·refine .inr ?_
   obtain ⟨j, hj, e⟩ := List.mem_iff_getElem.1 hz
   refine ⟨(c.sl.set k ⟨x.p, x.n - 1, s.w.getD x.h.toNat 0⟩)[j]'(by simpa using hj), gL _, ?_⟩
   rw [List.getElem_set]
   split
   ·rename_i e1
    subst e1
    rw [hkx] at e
    rw [e]
    exact h
   ·rw [e]
    exact h
theorem dM.choose {s s' : Sy} (hk : dM s) {i cpu k : Nat} {c : Ca} (hi : s.cs[i]? = some c) (dP : cpu < s.h.aF) (hg : s.choose i cpu = some (s', k)) :
  dM s' ∧ s'.h.aF = s.h.aF ∧ ∃ (c' : Ca) (x : Sl), s'.cs[i]? = some c' ∧ c'.sl[k]? = some x ∧ 0 < x.n := by
 unfold Sy.choose at hg
 rw [hi] at hg
 simp only at hg
 cases hown : c.own cpu with
 | some j =>
  rw [hown] at hg
  have h1 := gP hg
  rw [Prod.mk.injEq] at h1
  obtain ⟨rfl, rfl⟩ := h1
  unfold Ca.own at hown
  split at hown
  ·split at hown
   ·split at hown
    ·obtain rfl := gP hown
     exact ⟨hk, rfl, c, _, hi, by assumption, by assumption⟩
    ·cases hown
   ·cases hown
  ·cases hown
 | none =>
  rw [hown] at hg
  simp only at hg
  cases nK : c.nobody with
  | some j =>
   rw [nK] at hg
   have h1 := gP hg
   rw [Prod.mk.injEq] at h1
   obtain ⟨rfl, rfl⟩ := h1
   unfold Ca.nobody at nK
   rw [List.findIdx?_eq_some_iff_getElem] at nK
   obtain ⟨hj, h2, _⟩ := nK
   simp only [Bool.and_eq_true, decide_eq_true_eq, Bool.not_eq_true'] at h2
   have hx : c.sl[j]? = some c.sl[j] := gJ hj
   obtain ⟨h3, h4, _, h5⟩ := hk.mine (cpu := cpu) hi hx (fun a ha e => by
    rw [← e, List.contains_iff_mem.2 ha] at h2
    cases h2.2)
   exact ⟨h3, by rw [h4], _, c.sl[j], h5, hx, h2.1⟩
  | none =>
   rw [nK] at hg
   simp only at hg
   cases hgr : s.grow i cpu c with
   | none => rw [hgr] at hg; cases hg
   | some r =>
    obtain ⟨s2, j⟩ := r
    rw [hgr] at hg
    have h1 := gP hg
    rw [Prod.mk.injEq] at h1
    obtain ⟨rfl, rfl⟩ := h1
    obtain ⟨h2, h3, c', x, h4, h5, h6, h7⟩ := hk.grow hi dP hgr
    obtain ⟨h8, h9, _, h10⟩ := h2.mine (cpu := cpu) h4 h5 h7
    exact ⟨h8, by rw [h9]; exact h3, _, x, h10, h5, h6⟩
theorem dM.one {s s' : Sy} (hk : dM s) {i cpu : Nat} {c : Ca} {a : Int} (hi : s.cs[i]? = some c) (dP : cpu < s.h.aF) (hg : s.one i cpu = some (s', a)) : dM s' ∧ s'.h.aF = s.h.aF ∧ s'.cs.length = s.cs.length ∧ ∃ c', s'.cs[i]? = some c' := by
 unfold Sy.one at hg
 cases hch : s.choose i cpu with
 | none => rw [hch] at hg; cases hg
 | some r =>
  obtain ⟨s2, k⟩ := r
  rw [hch] at hg
  simp only at hg
  obtain ⟨h1, h2, c', x, h3, h4, h5⟩ := hk.choose hi dP hch
  obtain ⟨h6, h7, _, _, h8⟩ := h1.pop h3 h4 h5 hg
  have hlen : s2.cs.length = s.cs.length := by
   unfold Sy.choose at hch
   rw [hi] at hch
   simp only at hch
   have hm : ∀ (t : Sy) (j : Nat), (t.mine i cpu j).cs.length = t.cs.length := fun t j => by
    unfold Sy.mine Sy.eU
    split
    ·split
     ·simp
     ·rfl
    ·rfl
   split at hch
   ·have h := gP hch
    rw [Prod.mk.injEq] at h
    rw [← h.1]
   ·split at hch
    ·have h := gP hch
     rw [Prod.mk.injEq] at h
     rw [← h.1]
     exact hm _ _
    ·split at hch
     ·rename_i heq
      have h := gP hch
      rw [Prod.mk.injEq] at h
      rw [← h.1, hm]
      unfold Sy.grow at heq
      split at heq
      ·have h' := gP heq
       rw [Prod.mk.injEq] at h'
       rw [← h'.1]
       simp
      ·cases heq
     ·cases hch
  have hil : i < s2.cs.length := (List.getElem?_eq_some_iff.1 h3).1
  refine ⟨h6, by rw [h7]; exact h2, ?_, ?_⟩
  ·rw [h8]
   unfold Sy.eU
   simp [hlen]
  ·rw [h8]
   exact ⟨_, by show (s2.cs.set i _)[i]? = _; rw [List.getElem?_set_self hil]⟩
end
section
theorem Hf : ∀ {x y : List UInt8}, x ≠ y → Go.Op.bytesLess x y = false → Go.Op.bytesLess y x = true
 | [], [], h, _ => absurd rfl h
 | [], _ :: _, _, h => by simp [Go.Op.bytesLess] at h
 | _ :: _, [], _, _ => rfl
 | a :: x, b :: y, hne, h => by
  simp only [Go.Op.bytesLess, Bool.or_eq_false_iff, Bool.and_eq_false_iff, decide_eq_false_iff_not, beq_eq_false_iff_ne] at h
  simp only [Go.Op.bytesLess, Bool.or_eq_true, Bool.and_eq_true, decide_eq_true_eq, beq_iff_eq]
  by_cases hab : a = b
  ·subst hab
   refine .inr ⟨rfl, Hf (fun e => hne (by rw [e])) ?_⟩
   rcases h.2 with h2 | h2
   ·exact absurd rfl h2
   ·exact h2
  ·left
   have h1 := h.1
   rw [UInt8.lt_iff_toNat_lt] at h1 ⊢
   have h3 : a.toNat ≠ b.toNat := fun e => hab (UInt8.toNat_inj.1 e)
   omega
theorem ML {α : Type} (q : α → Bool) (l : List α) : l.take (l.takeWhile q).length = l.takeWhile q ∧ l.drop (l.takeWhile q).length = l.dropWhile q := by
 have h : l.takeWhile q ++ l.dropWhile q = l := List.takeWhile_append_dropWhile
 constructor
 ·conv => lhs; arg 2; rw [← h]
  exact List.take_left' rfl
 ·conv => lhs; arg 2; rw [← h]
  exact List.drop_left' rfl
theorem MN {α : Type} {q : α → Bool} {y : α} : ∀ {l : List α}, y ∈ l.takeWhile q → q y = true
 | [], h => by simp at h
 | b :: l, h => by
  by_cases hb : q b = true
  ·rw [List.takeWhile_cons_of_pos hb] at h
   rcases List.mem_cons.1 h with rfl | h
   ·exact hb
   ·exact MN h
  ·rw [List.takeWhile_cons_of_neg hb] at h
   simp at h
theorem WI {n : List UInt8} : ∀ {l : List (List UInt8)}, (l.Pairwise fun x y => Go.Op.bytesLess x y = true) → n ∉ l → ∀ y ∈ l.dropWhile (fun x => Go.Op.bytesLess x n), Go.Op.bytesLess n y = true
 | [], _, _, y, hy => by simp at hy
 | b :: l, hl, hn, y, hy => by
  rw [List.pairwise_cons] at hl
  cases hb : Go.Op.bytesLess b n with
  | true =>
   rw [List.dropWhile_cons_of_pos (p := fun x => Go.Op.bytesLess x n) hb] at hy
   exact WI hl.2 (fun h => hn (List.mem_cons_of_mem _ h)) y hy
  | false =>
   rw [List.dropWhile_cons_of_neg (p := fun x => Go.Op.bytesLess x n) (by simp [hb])] at hy
   have h1 := Hf (x := b) (y := n) (fun e => hn (by rw [← e]; exact List.mem_cons_self)) hb
   rcases List.mem_cons.1 hy with rfl | hy
   ·exact h1
   ·exact zY h1 (hl.1 y hy)
def OH (l : List (List UInt8)) (n : List UInt8) : List (List UInt8) := l.take (vV l n) ++ n :: l.drop (vV l n)
theorem OI {l : List (List UInt8)} {n : List UInt8} (hl : l.Pairwise fun x y => Go.Op.bytesLess x y = true) (hn : n ∉ l) : (OH l n).Pairwise fun x y => Go.Op.bytesLess x y = true := by
 have h : l.takeWhile (fun x => Go.Op.bytesLess x n) ++ l.dropWhile (fun x => Go.Op.bytesLess x n) = l := List.takeWhile_append_dropWhile
 have h3 := hl
 rw [← h, List.pairwise_append] at h3
 unfold OH vV
 rw [(ML _ l).1, (ML _ l).2, List.pairwise_append, List.pairwise_cons]
 refine ⟨h3.1, ⟨fun y hy => WI hl hn y hy, h3.2.1⟩, fun a ha b hb => ?_⟩
 rcases List.mem_cons.1 hb with rfl | hb
 ·exact MN (q := fun x => Go.Op.bytesLess x b) ha
 ·exact h3.2.2 a ha b hb
theorem vM {l : List (List UInt8)} {n y : List UInt8} : y ∈ OH l n ↔ y = n ∨ y ∈ l := by
 unfold OH
 conv => rhs; rw [← List.take_append_drop (vV l n) l]
 simp only [List.mem_append, List.mem_cons]
 constructor
 ·rintro (h | h | h)
  ·exact .inr (.inl h)
  ·exact .inl h
  ·exact .inr (.inr h)
 ·rintro (h | h | h)
  ·exact .inr (.inl h)
  ·exact .inl h
  ·exact .inr (.inr h)
theorem JU {α : Type} {R : α → α → Prop} {l : List α} (h : l.Pairwise R) {i : Nat} {c : α} (h2 : ∀ j (hj : j < l.length), j < i → R l[j] c) (h3 : ∀ j (hj : j < l.length), i < j → R c l[j]) : (l.set i c).Pairwise R := by
 rw [gN] at h ⊢
 intro j k hj hk hjk
 rw [List.length_set] at hj hk
 rw [List.getElem_set, List.getElem_set]
 split
 ·rename_i e
  subst e
  rw [if_neg (by omega)]
  exact h3 k hk hjk
 ·split
  ·rename_i e
   subst e
   exact h2 j hj hjk
  ·exact h j k hj hk hjk
theorem dM.create {s s' : Sy} (hk : dM s) {n : List UInt8} {z : Nat} (hnm : nameB n = true) (hz : 1 ≤ z ∧ z ≤ 64) (hno : s.named n = none) (h : s.create n z = some s') : dM s' ∧ s'.h = s.h ∧ s'.w = s.w := by
 have hall : ∀ c ∈ s.cs, n ∉ c.ns := fun c hc hn => by
  unfold Sy.named at hno
  rw [List.findIdx?_eq_none_iff] at hno
  have h1 := hno c hc
  rw [List.contains_iff_mem.2 hn] at h1
  cases h1
 unfold Sy.create at h
 split at h
 ·rename_i i hfd
  rw [List.findIdx?_eq_some_iff_getElem] at hfd
  obtain ⟨hi, hzi, _⟩ := hfd
  rw [gJ hi] at h
  simp only at h
  obtain rfl := gP h
  have hcm := gL hi
  have hck := hk.ck _ hcm
  have hmv : ∀ d ∈ s.cs, oM (s.eU i { s.cs[i] with ns := OH s.cs[i].ns n }) d := fun d hd => (hk.ck d hd).move rfl fun x hx => ⟨((hk.ck d hd).sk x hx).live, ((hk.ck d hd).sk x hx).chain⟩
  have hne := hall _ hcm
  refine ⟨⟨hk.wl, hk.hk, by show (s.cs.set i _).length ≤ 20; rw [List.length_set]; exact hk.cl, fun d hd => ?_, JU hk.zd (fun j hj hji => ?_) (fun j hj hij => ?_), JU hk.nd (fun j hj hji m hm hm2 => ?_) (fun j hj hij m hm => ?_), JU hk.pd (fun j hj hji => ?_) (fun j hj hij => ?_)⟩, rfl, rfl⟩
  ·rcases List.mem_or_eq_of_mem_set hd with h1 | rfl
   ·exact hmv d h1
   ·refine ⟨hck.z, hck.o, hck.r, fun e => ?_, fun m hm => ?_, OI hck.nr hne, hck.ac, hck.sr, fun x hx => ⟨(hck.sk x hx).live, (hck.sk x hx).chain⟩, hck.aw, hck.ad⟩
    ·have h2 := (vM (l := s.cs[i].ns) (n := n) (y := n)).2 (.inl rfl)
     rw [show OH s.cs[i].ns n = [] from e] at h2
     simp at h2
    ·rcases vM.1 hm with rfl | hm
     ·exact hnm
     ·exact hck.nm m hm
  ·exact List.pairwise_iff_getElem.1 hk.zd j i hj hi hji
  ·exact List.pairwise_iff_getElem.1 hk.zd i j hi hj hij
  ·rcases vM.1 hm2 with rfl | hm2
   ·exact hall _ (gL hj) hm
   ·exact List.pairwise_iff_getElem.1 hk.nd j i hj hi hji m hm hm2
  ·rcases vM.1 hm with rfl | hm
   ·exact hall _ (gL hj)
   ·exact List.pairwise_iff_getElem.1 hk.nd i j hi hj hij m hm
  ·exact List.pairwise_iff_getElem.1 hk.pd j i hj hi hji
  ·exact List.pairwise_iff_getElem.1 hk.pd i j hi hj hij
 ·rename_i hfd
  split at h
  ·cases h
  ·rename_i hl
   obtain rfl := gP h
   rw [List.findIdx?_eq_none_iff] at hfd
   have hcl := hk.cl
   refine ⟨⟨hk.wl, hk.hk, by simp; omega, fun d hd => ?_, ?_, ?_, ?_⟩, rfl, rfl⟩
   ·rcases List.mem_append.1 hd with h1 | h1
    ·exact (hk.ck d h1).move rfl fun x hx => ⟨((hk.ck d h1).sk x hx).live, ((hk.ck d h1).sk x hx).chain⟩
    ·obtain rfl := List.mem_singleton.1 h1
     refine ⟨hz, rfl, rfl, by simp, fun m hm => ?_, by simp, by simp, List.Pairwise.nil, fun x hx => by simp at hx, fun a ha => .inl (List.eq_of_mem_replicate ha), ?_⟩
     ·obtain rfl := List.mem_singleton.1 hm
      exact hnm
     ·rw [gN]
      intro j k hj hk' _ _
      simp
   ·show (s.cs ++ [_]).Pairwise _
    rw [List.pairwise_append]
    refine ⟨hk.zd, by simp, fun a ha b hb => ?_⟩
    obtain rfl := List.mem_singleton.1 hb
    have := hfd a ha
    simpa using this
   ·show (s.cs ++ [_]).Pairwise _
    rw [List.pairwise_append]
    refine ⟨hk.nd, by simp, fun a ha b hb m hm hm2 => ?_⟩
    obtain rfl := List.mem_singleton.1 hb
    obtain rfl := List.mem_singleton.1 hm2
    exact hall a ha hm
   ·show (s.cs ++ [_]).Pairwise _
    rw [List.pairwise_append]
    refine ⟨hk.pd, by simp, fun a ha b hb x hx y hy => ?_⟩
    obtain rfl := List.mem_singleton.1 hb
    simp at hy

def kN (k : Nat) : List UInt8 := match k with
 | 1 => [107, 49]
 | 2 => [107, 50]
 | 4 => [107, 52]
 | 8 => [107, 56]
 | 16 => [107, 49, 54]
 | _ => [107, 51, 50]
def aBr (aF k : Nat) : Ca := ⟨[kN k], k, dW k, dR k, [], List.replicate aF (-1)⟩
def fA (h : Hp) (j : Nat) : Sy := ⟨List.replicate 4096 0, h, ([1, 2, 4, 8, 16, 32].take j).map (aBr h.aF)⟩
theorem Hg {h : Hp} (hk : dX h) : dM (fA h 0) := by
 have e : (fA h 0).cs = [] := rfl
 refine ⟨List.length_replicate, hk, ?_, fun c hc => ?_, ?_, ?_, ?_⟩
 ·rw [e]; exact Nat.zero_le _
 ·rw [e] at hc; cases hc
 ·rw [e]; exact List.Pairwise.nil
 ·rw [e]; exact List.Pairwise.nil
 ·rw [e]; exact List.Pairwise.nil
theorem tH (h : Hp) {j : Nat} (hj : j < 6) : (fA h j).named (kN ([1, 2, 4, 8, 16, 32].getD j 0)) = none ∧ (fA h j).create (kN ([1, 2, 4, 8, 16, 32].getD j 0)) ([1, 2, 4, 8, 16, 32].getD j 0) = some (fA h (j + 1)) ∧ nameB (kN ([1, 2, 4, 8, 16, 32].getD j 0)) = true := by
 obtain rfl | rfl | rfl | rfl | rfl | rfl : j = 0 ∨ j = 1 ∨ j = 2 ∨ j = 3 ∨ j = 4 ∨ j = 5 := by omega
 all_goals exact ⟨rfl, rfl, by decide⟩
end
section
theorem lF {z : Zn} {p n : Nat} (h : z.ok) (hd : ∀ q, p ≤ q → q < p + n → ¬ eP z.l q) (hp : z.f ≤ p) (hn : p + n ≤ z.e) : ∀ i, i ≤ n → (dL z p i).ok ∧ (dL z p i).f = z.f ∧ (dL z p i).e = z.e ∧ ∀ q, eP (dL z p i).l q ↔ (eP z.l q ∨ (p ≤ q ∧ q < p + i))
 | 0, _ => ⟨h, rfl, rfl, fun q => by
   show eP z.l q ↔ _
   constructor
   ·exact .inl
   ·rintro (h | h)
    ·exact h
    ·omega⟩
 | i + 1, hi => by
  obtain ⟨g1, g2, g3, g4⟩ := lF h hd hp hn i (by omega)
  have hfit : bY (dL z p i).f (dL z p i).e (p + i) 0 := by rw [g2, g3]; exact ⟨by omega, by omega, by omega, by simp [Nat.mod_one]⟩
  have hap : ∀ x ∈ (dL z p i).l, apartB (p + i) 0 x := fun x hx => dB fun q hq XU => by
   unfold inB at hq
   simp only [Nat.pow_zero] at hq
   rcases (g4 q).1 ⟨x, hx, XU⟩ with h1 | h1
   ·exact hd q (by omega) (by omega) h1
   ·omega
  obtain ⟨k1, k2⟩ := Zn.oL g1 hfit hap
  refine ⟨k1, g2, g3, fun q => ?_⟩
  show eP ((dL z p i).back (p + i) 0).l q ↔ _
  rw [k2, g4]
  unfold inB
  simp only [Nat.pow_zero, or_assoc]
  constructor
  ·rintro (h | h | h)
   ·exact .inl h
   ·exact .inr (by omega)
   ·exact .inr (by omega)
  ·rintro (h | h)
   ·exact .inl h
   ·exact .inr (by omega)
theorem JY {z : Zn} {p n i : Nat} (h : z.ok) (hd : ∀ q, p ≤ q → q < p + n → ¬ eP z.l q) (hp : z.f ≤ p) (hn : p + n ≤ z.e) (hi : i < n) : bY (dL z p i).f (dL z p i).e (p + i) 0 ∧ ∀ x ∈ (dL z p i).l, apartB (p + i) 0 x := by
 obtain ⟨g1, g2, g3, g4⟩ := lF h hd hp hn i (by omega)
 refine ⟨by rw [g2, g3]; exact ⟨by omega, by omega, by omega, by simp [Nat.mod_one]⟩, fun x hx => dB fun q hq XU => ?_⟩
 unfold inB at hq
 simp only [Nat.pow_zero] at hq
 rcases (g4 q).1 ⟨x, hx, XU⟩ with h1 | h1
 ·exact hd q (by omega) (by omega) h1
 ·omega
end
section
def Rg.lo (r : Rg) (split : Nat) : Nat := min (r.f.toNat + r.s.toNat) split - r.f.toNat
def newStep (split : Nat) (z : Zn × Zn) (r : Rg) : Zn × Zn := (dL z.1 r.f.toNat (r.lo split), dL z.2 (r.f.toNat + r.lo split) (r.s.toNat - r.lo split))
def eG (split : Nat) (l : List Rg) : Zn × Zn := l.foldl (newStep split) (⟨0, split, [], List.replicate (split / 8) 1⟩, ⟨split, 256, [], List.replicate ((256 - split) / 8) 1⟩)
def newH (l : List Rg) (split least aF : Nat) : Hp := ⟨(eG split l).1, (eG split l).2, least, least, aF, [], []⟩

theorem Ar : ∀ (l : List Rg) (q : Option Rg), eF q l = true → l.Pairwise fun a b => a.f + a.s < b.f
 | [], _, _ => List.Pairwise.nil
 | r :: l, q, h => by
  simp only [eF, Bool.and_eq_true] at h
  exact List.Pairwise.cons (Aq l r h.2) (Ar l _ h.2)
structure EF (split : Nat) (l : List Rg) (z : Zn × Zn) : Prop where
 o0 : z.1.ok
 o1 : z.2.ok
 f0 : z.1.f = 0
 e0 : z.1.e = split
 f1 : z.2.f = split
 e1 : z.2.e = 256
 c0 : ∀ q, eP z.1.l q ↔ (q < split ∧ dV l q = true)
 c1 : ∀ q, eP z.2.l q ↔ (split ≤ q ∧ dV l q = true)
theorem Hu {f e : Nat} (h1 : f ≤ e) (h2 : e ≤ 256) (h3 : f % 16 = 0) (h4 : e % 16 = 0) : (⟨f, e, [], List.replicate ((e - f) / 8) 1⟩ : Zn).ok :=
 ⟨(Ue _ _ _).2 ⟨h1, h2, h3, h4, by simp, fun t ht => by rw [(List.mem_replicate.1 ht).2]; omega⟩, (Ud _ _ _).2 ⟨by simp, List.Pairwise.nil, by simp⟩⟩
theorem JZ {split : Nat} (h1 : split ≤ 256) (h2 : split % 16 = 0) : EF split [] (⟨0, split, [], List.replicate (split / 8) 1⟩, ⟨split, 256, [], List.replicate ((256 - split) / 8) 1⟩) :=
 ⟨Hu (Nat.zero_le _) h1 rfl h2, Hu h1 (Nat.le_refl _) h2 rfl, rfl, rfl, rfl, rfl, fun q => by simp [eP, dV], fun q => by simp [eP, dV]⟩
structure MQ (split : Nat) (l : List Rg) (r : Rg) (z : Zn × Zn) : Prop where
 f : r.f = (r.f.toNat : Int)
 s : r.s = (r.s.toNat : Int)
 fs : r.f.toNat + r.s.toNat ≤ 256
 s1 : 1 ≤ r.s.toNat
 lo : r.lo split ≤ r.s.toNat
 le : 0 < r.lo split → r.f.toNat + r.lo split ≤ split
 hi : r.lo split < r.s.toNat → split ≤ r.f.toNat + r.lo split
 d0 : ∀ q, r.f.toNat ≤ q → q < r.f.toNat + r.lo split → ¬ eP z.1.l q
 d1 : ∀ q, r.f.toNat + r.lo split ≤ q → q < r.f.toNat + r.lo split + (r.s.toNat - r.lo split) → ¬ eP z.2.l q
 next : EF split (l ++ [r]) (newStep split z r)
theorem x9 {split : Nat} {l : List Rg} {r : Rg} {z : Zn × Zn} (h : EF split l z) (hck : Ak r = true) (hlt : ∀ x ∈ l, x.f + x.s < r.f) (hsp : split ≤ 256) : MQ split l r z := by
 have hc := qI hck
 have hf : r.f = (r.f.toNat : Int) := by omega
 have hs : r.s = (r.s.toNat : Int) := by omega
 obtain ⟨F, hF⟩ : ∃ F, r.f.toNat = F := ⟨_, rfl⟩
 obtain ⟨S, hS⟩ : ∃ S, r.s.toNat = S := ⟨_, rfl⟩
 have hno : ∀ q, F ≤ q → dV l q = false := fun q hq => by
  rw [Bool.eq_false_iff]
  intro hi
  obtain ⟨x, hx, h1, h2⟩ := (Sv l q).1 hi
  have := hlt x hx
  omega
 have hone : ∀ q, dV (l ++ [r]) q = true ↔ (dV l q = true ∨ (F ≤ q ∧ q < F + S)) := fun q => by
  rw [qL, vO, Bool.or_eq_true]
  unfold qK
  rw [decide_eq_true_eq]
  refine or_congr Iff.rfl ⟨fun h => ?_, fun h => ?_⟩ <;> omega
 have hlo : r.lo split = min (F + S) split - F := by unfold Rg.lo; rw [hF, hS]
 have d0 : ∀ q, F ≤ q → q < F + r.lo split → ¬ eP z.1.l q := fun q h1 h2 hc => by
  have := ((h.c0 q).1 hc).2
  rw [hno q h1] at this
  cases this
 have d1 : ∀ q, F + r.lo split ≤ q → q < F + r.lo split + (S - r.lo split) → ¬ eP z.2.l q := fun q h1 h2 hc => by
  have := ((h.c1 q).1 hc).2
  rw [hno q (by omega)] at this
  cases this
 rw [← hF] at d0 d1
 rw [← hS] at d1
 have g0 : (dL z.1 F (r.lo split)).ok ∧ (dL z.1 F (r.lo split)).f = z.1.f ∧ (dL z.1 F (r.lo split)).e = z.1.e ∧ ∀ q, eP (dL z.1 F (r.lo split)).l q ↔ (eP z.1.l q ∨ (F ≤ q ∧ q < F + r.lo split)) := by
  by_cases h0 : r.lo split = 0
  ·rw [h0]
   refine ⟨h.o0, rfl, rfl, fun q => ⟨.inl, ?_⟩⟩
   rintro (h1 | h1)
   ·exact h1
   ·omega
  ·rw [hF] at d0
   exact lF h.o0 d0 (by rw [h.f0]; exact Nat.zero_le _) (by rw [h.e0]; omega) _ (Nat.le_refl _)
 have g1 : (dL z.2 (F + r.lo split) (S - r.lo split)).ok ∧ (dL z.2 (F + r.lo split) (S - r.lo split)).f = z.2.f ∧ (dL z.2 (F + r.lo split) (S - r.lo split)).e = z.2.e ∧ ∀ q, eP (dL z.2 (F + r.lo split) (S - r.lo split)).l q ↔ (eP z.2.l q ∨ (F + r.lo split ≤ q ∧ q < F + r.lo split + (S - r.lo split))) := by
  by_cases h0 : S - r.lo split = 0
  ·rw [h0]
   refine ⟨h.o1, rfl, rfl, fun q => ⟨.inl, ?_⟩⟩
   rintro (h1 | h1)
   ·exact h1
   ·omega
  ·rw [hF, hS] at d1
   exact lF h.o1 d1 (by rw [h.f1]; omega) (by rw [h.e1]; omega) _ (Nat.le_refl _)
 refine ⟨hf, hs, by omega, by omega, by omega, by omega, by omega, d0, d1, ?_⟩
 unfold newStep
 rw [hF, hS]
 refine ⟨g0.1, g1.1, by rw [g0.2.1]; exact h.f0, by rw [g0.2.2.1]; exact h.e0, by rw [g1.2.1]; exact h.f1, by rw [g1.2.2.1]; exact h.e1, fun q => ?_, fun q => ?_⟩
 ·simp only
  rw [g0.2.2.2, h.c0, hone]
  constructor
  ·rintro (⟨h1, h2⟩ | h1)
   ·exact ⟨h1, .inl h2⟩
   ·exact ⟨by omega, .inr (by omega)⟩
  ·rintro ⟨h1, h2 | h2⟩
   ·exact .inl ⟨h1, h2⟩
   ·exact .inr (by omega)
 ·simp only
  rw [g1.2.2.2, h.c1, hone]
  constructor
  ·rintro (⟨h1, h2⟩ | h1)
   ·exact ⟨h1, .inl h2⟩
   ·exact ⟨by omega, .inr (by omega)⟩
  ·rintro ⟨h1, h2 | h2⟩
   ·exact .inl ⟨h1, h2⟩
   ·exact .inr (by omega)
theorem Au (split : Nat) (l : List Rg) (k : Nat) (hk : k < l.length) : eG split (l.take (k + 1)) = newStep split (eG split (l.take k)) l[k] := by
 unfold eG
 rw [List.take_succ_eq_append_getElem hk, List.foldl_append]
 rfl
theorem nJ {split : Nat} {l : List Rg} (hl : dU l = true) (h1 : split ≤ 256) (h2 : split % 16 = 0) : ∀ k, k ≤ l.length → EF split (l.take k) (eG split (l.take k))
 | 0, _ => JZ h1 h2
 | k + 1, hk => by
  rw [Au split l k hk, List.take_succ_eq_append_getElem hk]
  refine (x9 (nJ hl h1 h2 k (by omega)) (mO hl _ (gL hk)) (fun x hx => ?_) h1).next
  simp only [dU, Bool.and_eq_true] at hl
  obtain ⟨j, hj, rfl⟩ := List.mem_take_iff_getElem.1 hx
  exact List.pairwise_iff_getElem.1 (Ar l none hl.2) _ _ _ hk (by omega)
theorem OM {split : Nat} {l : List Rg} (hl : dU l = true) (h1 : split ≤ 256) (h2 : split % 16 = 0) {k : Nat} (hk : k < l.length) : MQ split (l.take k) l[k] (eG split (l.take k)) := by
 refine x9 (nJ hl h1 h2 k (by omega)) (mO hl _ (gL hk)) (fun x hx => ?_) h1
 simp only [dU, Bool.and_eq_true] at hl
 obtain ⟨j, hj, rfl⟩ := List.mem_take_iff_getElem.1 hx
 exact List.pairwise_iff_getElem.1 (Ar l none hl.2) _ _ _ hk (by omega)
theorem MR {l : List Rg} (hl : dU l = true) {split least aF : Nat} (h1 : split ≤ 256) (h2 : split % 16 = 0) (h3 : least ≤ 256) (h4 : 1 ≤ aF ∧ aF ≤ 4) :
  dX (newH l split least aF) ∧ ∀ p, cnt (newH l split least aF).all p = if dV l p then 1 else 0 := by
 have hi := nJ hl h1 h2 l.length (Nat.le_refl _)
 rw [List.take_length] at hi
 have hc : ∀ p, cnt (newH l split least aF).all p = if dV l p then 1 else 0 := fun p => by
  rw [dA]
  show cnt (eG split l).1.l p + cnt (eG split l).2.l p + 0 + 0 = _
  have a0 := kP (kQ hi.o0.2.sep) p
  have a1 := kP (kQ hi.o1.2.sep) p
  have b0 := (iJ (l := (eG split l).1.l) (p := p)).trans (hi.c0 p)
  have b1 := (iJ (l := (eG split l).2.l) (p := p)).trans (hi.c1 p)
  cases hp : dV l p with
  | true =>
   simp only [hp, and_true] at b0 b1
   simp only [if_true]
   omega
  | false =>
   simp only [hp, Bool.false_eq_true, and_false, iff_false] at b0 b1
   simp
   omega
 refine ⟨⟨hi.o0, hi.o1, hi.f0, hi.e0.trans hi.f1.symm, hi.e1, h3, h3, h4, List.Pairwise.nil, by simp [newH], by simp [newH], List.Pairwise.nil, fun p => ?_⟩, hc⟩
 rw [hc]
 split <;> omega
end
section
theorem Kt {h : Hp} (hk : dX h) {b b' : Bk} (hb : b ∈ h.live) (hb' : b' ∈ h.live) (hne : b.a ≠ b'.a) : apartB b.a b.o b' := dB fun q h1 h2 => by
 obtain ⟨i, hi, e⟩ := List.mem_iff_getElem.1 hb
 have h3 := hk.one q
 rw [dA] at h3
 have h4 := wK hi q
 have h5 : b' ∈ h.live.eraseIdx i := by
  obtain ⟨j, hj, e'⟩ := List.mem_iff_getElem.1 hb'
  have hij : j ≠ i := fun e2 => by
   subst e2
   rw [e] at e'
   exact hne (by rw [e'])
  rw [List.mem_eraseIdx_iff_getElem]
  exact ⟨j, hj, hij, e'⟩
 have h6 : 0 < cnt (h.live.eraseIdx i) q := iJ.2 ⟨b', h5, h2⟩
 have h7 : hit h.live[i] q = 1 := iU.2 (by rw [e]; exact h1)
 omega
theorem dM.Ib {s : Sy} (hk : dM s) {c d : Ca} {x y : Sl} {a : Int} (hc : c ∈ s.cs) (hd : d ∈ s.cs) (hx : x ∈ c.sl) (hy : y ∈ d.sl) (h1 : iH c x.p a = true) (h2 : iH d y.p a = true) : x.p = y.p := by
 obtain ⟨b, hb, hb1, hb2⟩ := ((hk.ck c hc).sk x hx).live
 obtain ⟨b', hb', hb1', hb2'⟩ := ((hk.ck d hd).sk y hy).live
 apply Decidable.byContradiction
 intro hne
 have h3 := Kt hk.hk hb hb' (by rw [hb1, hb1']; exact hne)
 unfold apartB Bk.fin at h3
 rw [hb1, hb2, hb1', hb2'] at h3
 have h4 := jW (hk.ck c hc).room h1
 have h5 := jW (hk.ck d hd).room h2
 generalize 2 ^ c.o = q at *
 generalize 2 ^ d.o = q' at *
 omega
theorem dM.only {s : Sy} (hk : dM s) {i j k l : Nat} {a : Int} (hi : i < s.cs.length) (hj : j < s.cs.length) (hki : k < s.cs[i].sl.length) (hlj : l < s.cs[j].sl.length) (h1 : iH s.cs[i] s.cs[i].sl[k].p a = true) (h2 : iH s.cs[j] s.cs[j].sl[l].p a = true) : i = j ∧ k = l := by
 have hp := hk.Ib (gL hi) (gL hj) (gL hki) (gL hlj) h1 h2
 have hij : i = j := by
  rcases Nat.lt_trichotomy i j with h | h | h
  ·exact absurd hp (List.pairwise_iff_getElem.1 hk.pd i j hi hj h _ (gL hki) _ (gL hlj))
  ·exact h
  ·exact absurd hp.symm (List.pairwise_iff_getElem.1 hk.pd j i hj hi h _ (gL hlj) _ (gL hki))
 subst hij
 refine ⟨rfl, ?_⟩
 have hsr := (hk.ck _ (gL hi)).sr
 rw [gN] at hsr
 rcases Nat.lt_trichotomy k l with h | h | h
 ·have := hsr k l hki hlj h
  omega
 ·exact h
 ·have := hsr l k hlj hki h
  omega
end
section
theorem nO : ∀ {l m : List Int}, l.Nodup → (∀ a ∈ l, a ∈ m) → l.length ≤ m.length
 | [], _, _, _ => Nat.zero_le _
 | a :: l, m, hd, hs => by
  rw [List.nodup_cons] at hd
  have h1 := hs a (by simp)
  have h2 := nO (l := l) (m := m.erase a) hd.2 fun b hb => (List.mem_erase_of_ne (fun e => hd.1 (by rw [← e]; exact hb))).2 (hs b (List.mem_cons_of_mem _ hb))
  rw [List.length_erase_of_mem h1] at h2
  have h3 := List.length_pos_of_mem h1
  simp only [List.length_cons]
  omega
theorem SG {p z r : Nat} {a : Int} : a ∈ objs p z r ↔ ∃ j, j < r ∧ a = ((p + j * z : Nat) : Int) := by
 unfold objs
 simp only [List.mem_map, List.mem_range]
 constructor
 ·rintro ⟨j, hj, e⟩; exact ⟨j, hj, e.symm⟩
 ·rintro ⟨j, hj, e⟩; exact ⟨j, hj, e.symm⟩
theorem xC {c : Ca} {p : Nat} {a : Int} (hz : 1 ≤ c.z) : iH c p a = true ↔ a ∈ objs (16 * p) c.z c.r := by
 rw [SG]
 constructor
 ·intro h
  obtain ⟨h1, h2, h3⟩ := qW h
  obtain ⟨d, hd⟩ : ∃ d : Nat, a - 16 * p = d := ⟨(a - 16 * p).toNat, by omega⟩
  rw [hd] at h3
  have h4 : d % c.z = 0 := by exact_mod_cast h3
  have h5 : d < c.r * c.z := by
   have : ((d : Nat) : Int) < ((c.r * c.z : Nat) : Int) := by push_cast; omega
   omega
  have h6 : d / c.z * c.z = d := Nat.div_mul_cancel (Nat.dvd_of_mod_eq_zero h4)
  refine ⟨d / c.z, Nat.div_lt_of_lt_mul (by rw [Nat.mul_comm]; exact h5), ?_⟩
  rw [h6]
  push_cast
  omega
 ·rintro ⟨j, hj, rfl⟩
  unfold iH
  simp only [decide_eq_true_eq]
  have h1 : ((16 * p + j * c.z : Nat) : Int) - 16 * (p : Int) = (j : Int) * c.z := by push_cast; omega
  rw [h1]
  have h2 : (j : Int) * c.z = ((j * c.z : Nat) : Int) := by push_cast; rfl
  have h3 : (c.r : Int) * c.z = ((c.r * c.z : Nat) : Int) := by push_cast; rfl
  have h4 : j * c.z < c.r * c.z := Nat.mul_lt_mul_of_pos_right hj hz
  exact ⟨by omega, by omega, Int.mul_emod_left _ _⟩
theorem Ku {p z r : Nat} (hz : 1 ≤ z) : (objs p z r).Nodup := by
 unfold objs List.Nodup
 rw [List.pairwise_map]
 refine List.Pairwise.imp ?_ (List.pairwise_lt_range (n := r))
 intro a b hab e
 have h1 : p + a * z = p + b * z := by exact_mod_cast e
 have h2 : a * z < b * z := Nat.mul_lt_mul_of_pos_right hab hz
 omega
theorem Dn {c : Ca} {p : Nat} {l : List Int} (hz : 1 ≤ c.z) (hd : l.Nodup) (ho : ∀ a ∈ l, iH c p a = true) : l.length ≤ c.r := by
 have h := nO hd fun a ha => (xC hz).1 (ho a ha)
 rwa [mW] at h
theorem Dp {c : Ca} {p : Nat} {l : List Int} (hz : 1 ≤ c.z) (hd : l.Nodup) (ho : ∀ a ∈ l, iH c p a = true) (hl : c.r ≤ l.length) {a : Int} (h : iH c p a = true) : a ∈ l := by
 apply Decidable.byContradiction
 intro hn
 have h1 := Dn (l := a :: l) hz (List.nodup_cons.2 ⟨hn, hd⟩) fun b hb => by
  rcases List.mem_cons.1 hb with rfl | hb
  ·exact h
  ·exact ho b hb
 simp only [List.length_cons] at h1
 omega
theorem OQ {c : Ca} {p : Nat} {l : List Int} (hz : 1 ≤ c.z) (hl : l.length < c.r) : ∃ a, iH c p a = true ∧ a ∉ l := by
 apply Classical.byContradiction
 intro hn
 have h1 : ∀ a ∈ objs (16 * p) c.z c.r, a ∈ l := fun a ha => Decidable.byContradiction fun h => hn ⟨a, (xC hz).2 ha, h⟩
 have h2 := nO (Ku hz) h1
 rw [mW] at h2
 omega

def lG (w : List Int) (c : Ca) (x : Sl) (a : Int) : Prop := iH c x.p a = true ∧ ∀ l, follow w x.h c.r = some l → a ∉ l
def Sy.away (s : Sy) (i : Nat) (a : Int) : Prop := ∃ c, s.cs[i]? = some c ∧ ∃ x ∈ c.sl, lG s.w c x a
theorem Kv {l : List Sl} {k : Nat} (hk : k < l.length) (x' : Sl) (P : Sl → Prop) : (∃ y ∈ l.set k x', P y) ↔ (∃ j, ∃ h : j < l.length, j ≠ k ∧ P l[j]) ∨ P x' := by
 constructor
 ·rintro ⟨y, hy, hp⟩
  obtain ⟨j, hj, e⟩ := List.mem_iff_getElem.1 hy
  rw [List.length_set] at hj
  rw [List.getElem_set] at e
  split at e
  ·exact .inr (e ▸ hp)
  ·rename_i hne
   exact .inl ⟨j, hj, fun e' => hne e'.symm, by rw [e]; exact hp⟩
 ·rintro (⟨j, hj, hne, hp⟩ | hp)
  ·refine ⟨l[j], ?_, hp⟩
   rw [List.mem_iff_getElem]
   exact ⟨j, by simpa using hj, by rw [List.getElem_set, if_neg fun e => hne e.symm]⟩
  ·exact ⟨x', List.mem_iff_getElem.2 ⟨k, by simpa using hk, by simp⟩, hp⟩
theorem Dq {l : List Sl} {k : Nat} (hk : k < l.length) (P : Sl → Prop) : (∃ y ∈ l, P y) ↔ (∃ j, ∃ h : j < l.length, j ≠ k ∧ P l[j]) ∨ P l[k] := by
 constructor
 ·rintro ⟨y, hy, hp⟩
  obtain ⟨j, hj, e⟩ := List.mem_iff_getElem.1 hy
  by_cases h : j = k
  ·subst h
   exact .inr (e ▸ hp)
  ·exact .inl ⟨j, hj, h, by rw [e]; exact hp⟩
 ·rintro (⟨j, hj, hne, hp⟩ | hp)
  ·exact ⟨l[j], gL hj, hp⟩
  ·exact ⟨l[k], gL hk, hp⟩
theorem Ic {l : List Sl} {k : Nat} (P : Sl → Prop) : (∃ y ∈ l.eraseIdx k, P y) ↔ (∃ j, ∃ h : j < l.length, j ≠ k ∧ P l[j]) := by
 constructor
 ·rintro ⟨y, hy, hp⟩
  rw [List.mem_eraseIdx_iff_getElem] at hy
  obtain ⟨j, hj, hne, e⟩ := hy
  exact ⟨j, hj, hne, by rw [e]; exact hp⟩
 ·rintro ⟨j, hj, hne, hp⟩
  refine ⟨l[j], ?_, hp⟩
  rw [List.mem_eraseIdx_iff_getElem]
  exact ⟨j, hj, hne, rfl⟩
theorem oI {s s' : Sy} {i : Nat} {c c' : Ca} (hi : s.cs[i]? = some c) (hcs : s'.cs = s.cs.set i c') (b : Int) : (s'.away i b ↔ ∃ x ∈ c'.sl, lG s'.w c' x b) ∧ ∀ j, j ≠ i → (s'.away j b ↔ ∃ d, s.cs[j]? = some d ∧ ∃ x ∈ d.sl, lG s'.w d x b) := by
 have hil := (List.getElem?_eq_some_iff.1 hi).1
 constructor
 ·unfold Sy.away
  rw [hcs, List.getElem?_set_self hil]
  constructor
  ·rintro ⟨d, hd, h⟩
   obtain rfl := gP hd
   exact h
  ·exact fun h => ⟨c', rfl, h⟩
 ·intro j hj
  unfold Sy.away
  rw [hcs, List.getElem?_set_ne fun e => hj e.symm]
theorem lV {s : Sy} {i : Nat} {c : Ca} (hi : s.cs[i]? = some c) (b : Int) : s.away i b ↔ ∃ x ∈ c.sl, lG s.w c x b := by
 unfold Sy.away
 rw [hi]
 constructor
 ·rintro ⟨d, hd, h⟩
  obtain rfl := gP hd
  exact h
 ·exact fun h => ⟨c, rfl, h⟩
theorem lH {w : List Int} {c : Ca} {x : Sl} {l : List Int} (h : follow w x.h c.r = some l) (a : Int) : lG w c x a ↔ iH c x.p a = true ∧ a ∉ l := by
 unfold lG
 constructor
 ·exact fun h1 => ⟨h1.1, h1.2 l h⟩
 ·rintro ⟨h1, h2⟩
  refine ⟨h1, fun m hm => ?_⟩
  rw [h] at hm
  obtain rfl := gP hm
  exact h2
theorem dM.SH {s : Sy} (hk : dM s) {i j k : Nat} {c : Ca} {a : Int} (hi : s.cs[i]? = some c) (hj : j < c.sl.length) (hkl : k < c.sl.length) (h1 : iH c c.sl[j].p a = true) (h2 : iH c c.sl[k].p a = true) : j = k := by
 obtain ⟨hil, e⟩ := List.getElem?_eq_some_iff.1 hi
 subst e
 exact (hk.only hil hil hj hkl h1 h2).2

theorem dM.SI {s s' : Sy} (hk : dM s) {i k : Nat} {c : Ca} {x : Sl} {a : Int} (hi : s.cs[i]? = some c) (hx : c.sl[k]? = some x) (hn : 0 < x.n) (hp : s.pop i k = some (s', a)) :
  ¬ s.away i a ∧ ∀ j b, s'.away j b ↔ s.away j b ∨ (j = i ∧ b = a) := by
 obtain ⟨_, _, hw, rfl, hs'⟩ := hk.pop hi hx hn hp
 have hxm := gM hx
 obtain ⟨hkl, hkx⟩ := List.getElem?_eq_some_iff.1 hx
 obtain ⟨m, h2, h3, h4, h5, h6, h7⟩ := hk.first (gM hi) hxm hn
 have hnd := (fV.1 h2).2.2.2
 have hob : iH c x.p x.h = true := h4 x.h (by simp)
 have hnm : x.h ∉ m := (List.nodup_cons.1 hnd).1
 have hnot : ¬ s.away i x.h := by
  rw [lV hi, Dq hkl]
  rintro (⟨j, hj, hne, h, _⟩ | h)
  ·exact hne (hk.SH hi hj hkl h (by rw [hkx]; exact hob))
  ·rw [hkx, lH h2] at h
   exact h.2 (by simp)
 refine ⟨hnot, fun j b => ?_⟩
 have hst := oI (s' := s') (c' := { c with sl := c.sl.set k ⟨x.p, x.n - 1, s.w.getD x.h.toNat 0⟩ }) hi (by rw [hs']; rfl) b
 by_cases hj : j = i
 ·subst hj
  rw [hst.1, lV hi, Kv hkl, Dq hkl, hkx, lH h2, hw]
  have h8 : lG s.w { c with sl := c.sl.set k ⟨x.p, x.n - 1, s.w.getD x.h.toNat 0⟩ } ⟨x.p, x.n - 1, s.w.getD x.h.toNat 0⟩ b ↔ iH c x.p b = true ∧ b ∉ m := lH (x := ⟨x.p, x.n - 1, s.w.getD x.h.toNat 0⟩) (c := { c with sl := c.sl.set k ⟨x.p, x.n - 1, s.w.getD x.h.toNat 0⟩ }) h7 b
  rw [h8]
  have h9 : (∃ j, ∃ h : j < c.sl.length, j ≠ k ∧ lG s.w { c with sl := c.sl.set k ⟨x.p, x.n - 1, s.w.getD x.h.toNat 0⟩ } c.sl[j] b) ↔ (∃ j, ∃ h : j < c.sl.length, j ≠ k ∧ lG s.w c c.sl[j] b) := Iff.rfl
  rw [h9, List.mem_cons]
  constructor
  ·rintro (h | ⟨h, h'⟩)
   ·exact .inl (.inl h)
   ·by_cases hb : b = x.h
    ·exact .inr ⟨rfl, hb⟩
    ·exact .inl (.inr ⟨h, fun h0 => h0.elim hb h'⟩)
  ·rintro ((h | ⟨h, h'⟩) | ⟨_, rfl⟩)
   ·exact .inl h
   ·exact .inr ⟨h, fun h0 => h' (.inr h0)⟩
   ·exact .inr ⟨hob, hnm⟩
 ·rw [hst.2 j hj, hw]
  constructor
  ·exact fun h => .inl h
  ·rintro (h | ⟨h, _⟩)
   ·exact h
   ·exact absurd h hj
theorem pG.yC {s s' : Sy} {c : Ca} {x : Sl} (h : pG s c x) (hw : s'.w.length = s.w.length) (hs : ∀ a : Int, iH c x.p a = true → s'.w.getD a.toNat 0 = s.w.getD a.toNat 0) : follow s'.w x.h c.r = follow s.w x.h c.r := by
 obtain ⟨l, h3, h4, h5⟩ := h.chain
 rw [h3]
 rw [fV] at h3 ⊢
 rw [hw]
 exact ⟨h3.1.move fun a ha => hs a (h5 a ha), h3.2⟩
theorem Dt {w w' : List Int} {c : Ca} {x : Sl} (h : follow w' x.h c.r = follow w x.h c.r) (a : Int) : lG w' c x a ↔ lG w c x a := by
 unfold lG
 rw [h]
theorem dM.Vy {s s' : Sy} (hk : dM s) {i cpu k : Nat} {c : Ca} (hi : s.cs[i]? = some c) (dP : cpu < s.h.aF) (hg : s.grow i cpu c = some (s', k)) :
  ∃ a, s'.w = chainTo s.w (16 * a) c.z c.r c.r ∧ s'.cs = s.cs.set i { c with sl := jH c.sl ⟨a, c.r, ((16 * a : Nat) : Int)⟩ } ∧ s'.h.live = bD s.h.live ⟨a, c.o, 0⟩ ∧ 16 * a + c.z * c.r ≤ s.w.length ∧
   ∀ d ∈ s.cs, ∀ x ∈ d.sl, x.p ≠ a ∧ ∀ o : Int, iH d x.p o = true → s'.w.getD o.toNat 0 = s.w.getD o.toNat 0 := by
 have hck := hk.ck c (gM hi)
 have hor : c.o ≤ 4 := by rw [hck.o]; exact gQ (kH _) (by decide)
 unfold Sy.grow at hg
 cases hal : s.h.alloc cpu c.o 0 false false with
 | none => rw [hal] at hg; cases hg
 | some r =>
  obtain ⟨h', a⟩ := r
  rw [hal] at hg
  have h1 := gP hg
  rw [Prod.mk.injEq] at h1
  obtain ⟨rfl, rfl⟩ := h1
  obtain ⟨hh, hcnt, hsame, hlive, hfit⟩ := hk.hk.alloc dP hor (by decide) hal
  have hcl : h'.live = bD s.h.live ⟨a, c.o, 0⟩ := hlive
  have hap : ∀ b ∈ s.h.live, apartB a c.o b := fun b hb => dB fun q h1 h2 => by
   have h3 := hh.one q
   rw [dA, hcl, qQ] at h3
   have h4 : 0 < cnt s.h.live q := iJ.2 ⟨b, hb, h2⟩
   have h5 : hit (⟨a, c.o, 0⟩ : Bk) q = 1 := iU.2 h1
   omega
  have hpp := Nat.two_pow_pos c.o
  have hin : 16 * a + c.z * c.r ≤ s.w.length := by
   have h1 := hck.room
   have h2 : a + 2 ^ c.o ≤ 256 := by
    have h3 : c.o ≤ 2 := by rw [hck.o]; exact kH _
    obtain ⟨_, _, h4, h5⟩ := hfit
    generalize c.o = o at *
    obtain rfl | rfl | rfl : o = 0 ∨ o = 1 ∨ o = 2 := by omega
    ·omega
    ·omega
    ·omega
   rw [Nat.mul_comm c.z, hk.wl]
   generalize c.r * c.z = m at *
   generalize 2 ^ c.o = q at *
   omega
  refine ⟨a, rfl, rfl, hcl, hin, fun d hd x hx => ?_⟩
  have hdk := hk.ck d hd
  obtain ⟨b, hb, hb1, hb2⟩ := (hdk.sk x hx).live
  have h1 := hap b hb
  unfold apartB Bk.fin at h1
  rw [hb1, hb2] at h1
  have hp2 := Nat.two_pow_pos d.o
  refine ⟨by omega, fun o ho => nH _ _ _ _ _ (Nat.le_refl _) _ ?_ hck.z.1⟩
  have h2 := jW hdk.room ho
  have h3 := hck.room
  rw [Nat.mul_comm c.z c.r]
  generalize c.r * c.z = m at *
  generalize 2 ^ c.o = q at *
  generalize 2 ^ d.o = q' at *
  omega
theorem dM.OT {s s' : Sy} (hk : dM s) {i cpu k : Nat} {c : Ca} (hi : s.cs[i]? = some c) (dP : cpu < s.h.aF) (hg : s.grow i cpu c = some (s', k)) (j : Nat) (b : Int) : s'.away j b ↔ s.away j b := by
 have hck := hk.ck c (gM hi)
 obtain ⟨a, hw, hcs, _, hin, hsl⟩ := hk.Vy hi dP hg
 have hwl : s'.w.length = s.w.length := by rw [hw]; exact fD _ _ _ _ _
 have hr1 : 1 ≤ c.r := by rw [hck.r]; exact Ah hck.z
 have hst := oI (s' := s') hi hcs b
 have hsame : ∀ d ∈ s.cs, ∀ x ∈ d.sl, (lG s'.w d x b ↔ lG s.w d x b) := fun d hd x hx => Dt (((hk.ck d hd).sk x hx).yC hwl (hsl d hd x hx).2) b
 by_cases hj : j = i
 ·subst hj
  rw [hst.1, lV hi]
  have SK := tX s.w (16 * a) c.z c.r c.r hck.z.1 hr1 hin (by omega)
  rw [if_pos (Int.le_refl _), ← hw] at SK
  constructor
  ·rintro ⟨x, hx, h⟩
   rcases lD.1 hx with rfl | hx
   ·exfalso
    refine h.2 _ SK ?_
    exact (xC (c := c) hck.z.1).1 h.1
   ·exact ⟨x, hx, (hsame c (gM hi) x hx).1 h⟩
  ·rintro ⟨x, hx, h⟩
   exact ⟨x, lD.2 (.inr hx), (hsame c (gM hi) x hx).2 h⟩
 ·rw [hst.2 j hj]
  unfold Sy.away
  constructor
  ·rintro ⟨d, hd, x, hx, h⟩
   exact ⟨d, hd, x, hx, (hsame d (gM hd) x hx).1 h⟩
  ·rintro ⟨d, hd, x, hx, h⟩
   exact ⟨d, hd, x, hx, (hsame d (gM hd) x hx).2 h⟩
theorem Du (s : Sy) (i cpu k j : Nat) (b : Int) : (s.mine i cpu k).away j b ↔ s.away j b := by
 unfold Sy.mine
 cases hc : s.cs[i]? with
 | none => rfl
 | some c =>
  simp only
  cases hx : c.sl[k]? with
  | none => rfl
  | some x =>
   have hst := oI (s' := s.eU i { c with ac := c.ac.set cpu (x.p : Int) }) (c' := { c with ac := c.ac.set cpu (x.p : Int) }) hc rfl b
   by_cases hj : j = i
   ·subst hj
    rw [hst.1, lV hc]
    exact Iff.rfl
   ·rw [hst.2 j hj]
    exact Iff.rfl
theorem dM.Ie {s s' : Sy} (hk : dM s) {i cpu k : Nat} {c : Ca} (hi : s.cs[i]? = some c) (dP : cpu < s.h.aF) (hg : s.choose i cpu = some (s', k)) (j : Nat) (b : Int) : s'.away j b ↔ s.away j b := by
 unfold Sy.choose at hg
 rw [hi] at hg
 simp only at hg
 split at hg
 ·have h1 := gP hg
  rw [Prod.mk.injEq] at h1
  rw [← h1.1]
 ·split at hg
  ·have h1 := gP hg
   rw [Prod.mk.injEq] at h1
   rw [← h1.1]
   exact Du _ _ _ _ _ _
  ·split at hg
   ·rename_i heq
    have h1 := gP hg
    rw [Prod.mk.injEq] at h1
    rw [← h1.1, Du]
    exact hk.OT hi dP heq j b
   ·cases hg
theorem dM.SL {s s' : Sy} (hk : dM s) {i cpu : Nat} {c : Ca} {a : Int} (hi : s.cs[i]? = some c) (dP : cpu < s.h.aF) (hg : s.one i cpu = some (s', a)) : ¬ s.away i a ∧ ∀ j b, s'.away j b ↔ s.away j b ∨ (j = i ∧ b = a) := by
 unfold Sy.one at hg
 cases hch : s.choose i cpu with
 | none => rw [hch] at hg; cases hg
 | some r =>
  obtain ⟨s2, k⟩ := r
  rw [hch] at hg
  simp only at hg
  obtain ⟨h1, h2, c', x, h3, h4, h5⟩ := hk.choose hi dP hch
  obtain ⟨h6, h7⟩ := h1.SI h3 h4 h5 hg
  have h8 := fun j b => hk.Ie hi dP hch j b
  exact ⟨fun h => h6 ((h8 i a).2 h), fun j b => by rw [h7, h8]⟩
theorem dM.qY {s : Sy} (hk : dM s) {i cpu : Nat} (hi : i < s.cs.length) (dP : cpu < s.h.aF) : ∀ {n : Nat} {t : Sy} {l : List Int}, s.bulk i cpu n = some (t, l) →
  dM t ∧ t.h.aF = s.h.aF ∧ t.cs.length = s.cs.length ∧ l.length = n ∧ l.Nodup ∧ (∀ a ∈ l, ¬ s.away i a) ∧ ∀ j b, t.away j b ↔ s.away j b ∨ (j = i ∧ b ∈ l)
 | 0, t, l, h => by
  have h1 := gP h
  rw [Prod.mk.injEq] at h1
  obtain ⟨rfl, rfl⟩ := h1
  exact ⟨hk, rfl, rfl, rfl, List.nodup_nil, by simp, fun j b => by simp⟩
 | n + 1, t, l, h => by
  unfold Sy.bulk at h
  cases hb : s.bulk i cpu n with
  | none => rw [hb] at h; cases h
  | some r =>
   obtain ⟨u, m⟩ := r
   rw [hb] at h
   simp only at h
   obtain ⟨h1, h2, h3, h4, h5, h6, h7⟩ := hk.qY hi dP hb
   cases ho : u.one i cpu with
   | none => rw [ho] at h; cases h
   | some q =>
    obtain ⟨t', a⟩ := q
    rw [ho] at h
    have h8 := gP h
    rw [Prod.mk.injEq] at h8
    obtain ⟨rfl, rfl⟩ := h8
    have hiu : u.cs[i]? = some (u.cs[i]'(by rw [h3]; exact hi)) := gJ _
    obtain ⟨g1, g2, g3, _⟩ := h1.one hiu (by rw [h2]; exact dP) ho
    obtain ⟨g4, g5⟩ := h1.SL hiu (by rw [h2]; exact dP) ho
    rw [h7] at g4
    refine ⟨g1, by rw [g2, h2], by rw [g3, h3], by simp [h4], ?_, fun b hb' => ?_, fun j b => ?_⟩
    ·rw [List.nodup_append]
     refine ⟨h5, by simp, fun b hb' d hd e => ?_⟩
     simp only [List.mem_singleton] at hd
     subst hd e
     exact g4 (.inr ⟨rfl, hb'⟩)
    ·rcases List.mem_append.1 hb' with h9 | h9
     ·exact h6 b h9
     ·simp only [List.mem_singleton] at h9
      subst h9
      exact fun h9 => g4 (.inl h9)
    ·rw [g5, h7, List.mem_append, List.mem_singleton]
     constructor
     ·rintro ((h | ⟨h, h'⟩) | ⟨h, h'⟩)
      ·exact .inl h
      ·exact .inr ⟨h, .inl h'⟩
      ·exact .inr ⟨h, .inr h'⟩
     ·rintro (h | ⟨h, h' | h'⟩)
      ·exact .inl (.inl h)
      ·exact .inl (.inr ⟨h, h'⟩)
      ·exact .inr ⟨h, h'⟩
end
section
theorem Yv {l : List Sl} (hl : l.Pairwise fun a b => a.p < b.p) {j k : Nat} (hj : j < l.length) (hk : k < l.length) (h : l[j].p = l[k].p) : j = k := by
 rw [gN] at hl
 rcases Nat.lt_trichotomy j k with h1 | h1 | h1
 ·have := hl j k hj hk h1
  omega
 ·exact h1
 ·have := hl k j hk hj h1
  omega
theorem pop_some {s : Sy} {i k : Nat} {c : Ca} {x : Sl} (hc : s.cs[i]? = some c) (hx : c.sl[k]? = some x) : ∃ t a, s.pop i k = some (t, a) := by
 unfold Sy.pop
 rw [hc]
 simp only [hx]
 exact ⟨_, _, rfl⟩
end
end Go.Proofs.YtcmpmobhongkiaaGreatDoor
