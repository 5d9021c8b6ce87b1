/- Hs, Hs2, Hs3, Hs4, Hs5, Hs6, Ps, Hp7, Hp8, Hq, Pp2, Pp3, Pp4, Pp5, Mk, Mk2, Pp6: texts of this claim, joined. -/
import Derived.Test.YtjljcifpcljlaaaDoorPM2
import Derived.Test.YtjljcifpcljlaaaDoorPM3
/- The heap behind a pointer: its rows are its own. No program in sight. -/
namespace Go.Proofs.YtjljcifpcljlaaaDoor
open Go.RowKit
set_option linter.unusedVariables false

/-- where the parts of a heap lie -/
structure Hc where
  az : Option Addr
  cz : Nat
  am : Option Addr
  cm : Nat
  al : Option Addr
  cl : Nat
  av : Option Addr
  cv : Nat
  y0 : Zc
  y1 : Zc
  lc : List Lc
def zsR (c : Hc) : Rs := ⟨55, 4, .slice c.az 2 c.cz, 2, flat encZc [c.y0, c.y1]⟩
def lsR (c : Hc) : Rs := ⟨66, 4, .slice c.al c.lc.length c.cl, c.lc.length, flat encLc c.lc⟩
def lvR (c : Hc) (h : Hp) : Rs := ⟨40, 3, .slice c.av h.live.length c.cv, h.live.length, flat encBk h.live⟩
def pgR (r : Lc) : Rs := ⟨3, 1, .slice r.a r.n r.c, r.n, flat encT r.l.p⟩
def mnR (c : Hc) (h : Hp) : Rs := ⟨3, 1, .slice c.am 2 c.cm, 2, flat encT [h.m0, h.m1]⟩
def zlR (y : Zc) : Rs := ⟨40, 3, .slice y.a1 y.n1 y.c1, y.n1, flat encBk y.z.l⟩
def zyR (y : Zc) : Rs := ⟨3, 1, .slice y.a2 y.n2 y.c2, y.n2, flat encT y.z.y⟩
/-- rows that are written -/
def Hc.rows (c : Hc) (h : Hp) : List Rs := zsR c :: lsR c :: lvR c h :: c.lc.map pgR
/-- rows that are only read -/
def Hc.reads (c : Hc) (h : Hp) : List Rs := [mnR c h, zlR c.y0, zyR c.y0, zlR c.y1, zyR c.y1]
def Hc.vals (c : Hc) (h : Hp) : Array Value := #[.slice c.az 2 c.cz, .slice c.am 2 c.cm, .int .i64 (h.cpus : Int), .slice c.al c.lc.length c.cl, .slice c.av h.live.length c.cv]

/-- the rows -/
structure HR (W : World) (G : Nat) (X : Nat → Prop) (h : Hp) (c : Hc) : Prop where
  own : OwnL W 0 (c.rows h)
  ro : ∀ r ∈ c.reads h, r.on W 0
  ds : ∀ r ∈ c.reads h, ∀ s ∈ c.rows h, r.off s
  og : ∀ r ∈ c.rows h, ∀ g, r.v.ownBlock = some g → g ≠ G ∧ ¬ X g
  rg : ∀ r ∈ c.reads h, r.v.ownBlock ≠ some G
  rx : ∀ r ∈ c.reads h, ∀ g, r.v.ownBlock = some g → ¬ X g
  gs : G < W.heap.size
  xg : ¬ X G
  xs : ∀ k, X k → k < W.heap.size
  e0 : c.y0.z = h.z0
  e1 : c.y1.z = h.z1
  ll : c.lc.map Lc.l = h.ls
/-- and the five words -/
structure HS (W : World) (G : Nat) (X : Nat → Prop) (h : Hp) (c : Hc) : Prop where
  r : HR W G X h c
  k : ∀ o, W.cell? ⟨G, o, none⟩ = (c.vals h)[o]?
  fz : ∀ o, W.frozen? ⟨G, o, none⟩ = false

theorem zl_len {W : World} {b : Nat} {y : Zc} (h : (zlR y).on W b) : y.z.l.length = y.n1 := by
  have h1 := h.1
  unfold zlR at h1
  simp only at h1
  rw [flat_length encBk_length] at h1
  omega
theorem zy_len {W : World} {b : Nat} {y : Zc} (h : (zyR y).on W b) : y.z.y.length = y.n2 := by
  have h1 := h.1
  unfold zyR at h1
  simp only at h1
  rw [flat_length encT_length] at h1
  omega
theorem pg_len {W : World} {b : Nat} {y : Lc} (h : (pgR y).on W b) : y.l.p.length = y.n := by
  have h1 := h.1
  unfold pgR at h1
  simp only at h1
  rw [flat_length encT_length] at h1
  omega
section
variable {W W' : World} {G : Nat} {X Y : Nat → Prop} {h : Hp} {c : Hc}
theorem HR.pgs (hs : HR W G X h c) : ∀ r ∈ c.lc, (pgR r).on W 0 := fun r hr => hs.own.each _ (by
  unfold Hc.rows
  exact List.mem_cons_of_mem _ (List.mem_cons_of_mem _ (List.mem_cons_of_mem _ (List.mem_map_of_mem hr))))
theorem HR.zs (hs : HR W G X h c) : (zsR c).on W 0 := hs.own.each _ (by simp [Hc.rows])
theorem HR.lsr (hs : HR W G X h c) : (lsR c).on W 0 := hs.own.each _ (by simp [Hc.rows])
theorem HR.lv (hs : HR W G X h c) : (lvR c h).on W 0 := hs.own.each _ (by simp [Hc.rows])
theorem HR.mn (hs : HR W G X h c) : (mnR c h).on W 0 := hs.ro _ (by simp [Hc.reads])
theorem HR.l0 (hs : HR W G X h c) : (zlR c.y0).on W 0 := hs.ro _ (by simp [Hc.reads])
theorem HR.t0 (hs : HR W G X h c) : (zyR c.y0).on W 0 := hs.ro _ (by simp [Hc.reads])
theorem HR.l1 (hs : HR W G X h c) : (zlR c.y1).on W 0 := hs.ro _ (by simp [Hc.reads])
theorem HR.t1 (hs : HR W G X h c) : (zyR c.y1).on W 0 := hs.ro _ (by simp [Hc.reads])
theorem HR.z0 (hs : HR W G X h c) : ZAt W c.y0.a1 c.y0.a2 c.y0.n1 c.y0.n2 h.z0 := by
  rw [← hs.e0]
  exact ⟨zl_len hs.l0, zy_len hs.t0, own_row hs.l0, own_row hs.t0⟩
theorem HR.z1 (hs : HR W G X h c) : ZAt W c.y1.a1 c.y1.a2 c.y1.n1 c.y1.n2 h.z1 := by
  rw [← hs.e1]
  exact ⟨zl_len hs.l1, zy_len hs.t1, own_row hs.l1, own_row hs.t1⟩
/-- the heap as a value -/
theorem HR.at (hs : HR W G X h c) : HAt W c.az c.am c.al c.av c.lc.length h.live.length c.y0 c.y1 c.lc h :=
  ⟨own_row hs.zs, own_row hs.mn, own_row hs.lsr, own_row hs.lv, hs.e0, hs.e1, hs.z0, hs.z1, hs.ll, rfl, rfl, fun r hr => ⟨pg_len (hs.pgs r hr), own_row (hs.pgs r hr)⟩⟩
theorem HR.below (hs : HR W G X h c) (hb : Below W.heap.size W W') : HR W' G X h c :=
  ⟨hs.own.below hb, fun r hr => own_below (hs.ro r hr) hb (Nat.le_refl _), hs.ds, hs.og, hs.rg, hs.rx, Nat.lt_of_lt_of_le hs.gs hb.size, hs.xg, fun k hk => Nat.lt_of_lt_of_le (hs.xs k hk) hb.size, hs.e0, hs.e1, hs.ll⟩
theorem HS.below (hs : HS W G X h c) (hb : Below W.heap.size W W') : HS W' G X h c :=
  ⟨hs.r.below hb, box_step hs.k hs.r.gs hb, frz_step hs.fz hs.r.gs hb⟩
theorem HR.sub (hs : HR W G X h c) (hy : ∀ k, Y k → X k) : HR W G Y h c :=
  ⟨hs.own, hs.ro, hs.ds, fun r hr g hg => ⟨(hs.og r hr g hg).1, fun e => (hs.og r hr g hg).2 (hy g e)⟩, hs.rg, fun r hr g hg e => hs.rx r hr g hg (hy g e), hs.gs, fun e => hs.xg (hy _ e), fun k hk => hs.xs k (hy k hk), hs.e0, hs.e1, hs.ll⟩
theorem HS.sub (hs : HS W G X h c) (hy : ∀ k, Y k → X k) : HS W G Y h c := ⟨hs.r.sub hy, hs.k, hs.fz⟩
/-- every block that is not the heap's may be held fast -/
theorem HR.more (hs : HR W G X h c) (hy : ∀ k, Y k → k < W.heap.size ∧ k ≠ G ∧ (∀ r ∈ c.rows h, r.v.ownBlock ≠ some k) ∧ ∀ r ∈ c.reads h, r.v.ownBlock ≠ some k) : HR W G Y h c :=
  ⟨hs.own, hs.ro, hs.ds, fun r hr g hg => ⟨(hs.og r hr g hg).1, fun e => (hy g e).2.2.1 r hr hg⟩, hs.rg, fun r hr g hg e => (hy g e).2.2.2 r hr hg, hs.gs, fun e => (hy _ e).2.1 rfl, fun k hk => (hy k hk).1, hs.e0, hs.e1, hs.ll⟩
theorem HS.more (hs : HS W G X h c) (hy : ∀ k, Y k → k < W.heap.size ∧ k ≠ G ∧ (∀ r ∈ c.rows h, r.v.ownBlock ≠ some k) ∧ ∀ r ∈ c.reads h, r.v.ownBlock ≠ some k) : HS W G Y h c := ⟨hs.r.more hy, hs.k, hs.fz⟩
/-- what was laid anew is held fast, too -/
theorem HS.new (hs : HS W G X h c) (hb : Below W.heap.size W W') : HS W' G (fun k => X k ∨ (W.heap.size ≤ k ∧ k < W'.heap.size)) h c :=
  (hs.below hb).more fun k hk => by
    rcases hk with hk | ⟨h1, h2⟩
    · have h3 := hs.r.xs k hk
      exact ⟨Nat.lt_of_lt_of_le h3 hb.size, fun e => hs.r.xg (e ▸ hk), fun r hr e => (hs.r.og r hr k e).2 hk, fun r hr e => hs.r.rx r hr k e hk⟩
    · exact ⟨h2, fun e => by have := hs.r.gs; omega, fun r hr e => by have := (hs.r.own.lt r hr k e).2; omega, fun r hr e => by have := ((hs.r.ro r hr).lt k e).2; omega⟩
/-- a word of the heap is written -/
theorem HR.setG (hs : HR W G X h c) (i : Nat) (u : Value) : HR (W.setCell ⟨G, i, none⟩ u) G X h c :=
  ⟨hs.own.far (fun r hr e => (hs.og r hr G e).1 rfl) i u, fun r hr => own_set (hs.ro r hr) (hs.rg r hr) u, hs.ds, hs.og, hs.rg, hs.rx, by simpa using hs.gs, hs.xg, fun k hk => by simpa using hs.xs k hk, hs.e0, hs.e1, hs.ll⟩
/-- a block that is held fast is written -/
theorem HS.far (hs : HS W G X h c) {g : Nat} (hx : X g) (i : Nat) (u : Value) : HS (W.setCell ⟨g, i, none⟩ u) G X h c := by
  have hne : G ≠ g := fun e => hs.r.xg (e ▸ hx)
  exact ⟨⟨hs.r.own.far (fun r hr e => (hs.r.og r hr g e).2 hx) i u, fun r hr => own_set (hs.r.ro r hr) (fun e => hs.r.rx r hr g e hx) u, hs.r.ds, hs.r.og, hs.r.rg, hs.r.rx, by simpa using hs.r.gs, hs.r.xg, fun k hk => by simpa using hs.r.xs k hk, hs.r.e0, hs.r.e1, hs.r.ll⟩, box_set_other hs.k hne i u, frz_set hs.fz _ _⟩
end
end Go.Proofs.YtjljcifpcljlaaaDoor
/- The heap behind a pointer: a zone is put in its place. No program in sight. -/
namespace Go.Proofs.YtjljcifpcljlaaaDoor
open Go.RowKit
set_option linter.unusedVariables false

/-- a word of a heap's zones, lists .. is written -/
def put4 (W : World) (g o : Nat) (u0 u1 u2 u3 : Value) : World := (((W.setCell ⟨g, o, none⟩ u0).setCell ⟨g, o + 1, none⟩ u1).setCell ⟨g, o + 2, none⟩ u2).setCell ⟨g, o + 3, none⟩ u3
section
variable {W W1 : World} {G : Nat} {X : Nat → Prop} {h : Hp} {c : Hc}
theorem own_put4 {base : Nat} {e : TypeId} {size : Nat} {v : Value} {n : Nat} {xs : List Value} (h : W.ownsRow base e size v n xs) {g : Nat} (hb : v.ownBlock ≠ some g) (o : Nat) (u0 u1 u2 u3 : Value) : (put4 W g o u0 u1 u2 u3).ownsRow base e size v n xs :=
  own_set (own_set (own_set (own_set h hb u0) hb u1) hb u2) hb u3
theorem Safe.put4 (g o : Nat) (u0 u1 u2 u3 : Value) (hg : ¬ X g) : Safe X W (put4 W g o u0 u1 u2 u3) := ((((Safe.refl X W).set hg o u0).set hg (o + 1) u1).set hg (o + 2) u2).set hg (o + 3) u3
theorem OwnL.put4 {bas : Nat} {r : Rs} {rs : List Rs} (h : OwnL W bas (r :: rs)) {g c : Nat} (hv : r.v = .slice (some ⟨g, 0, none⟩) r.n c) (o : Nat) (u0 u1 u2 u3 : Value) (h0 : u0.oneCell' = true) (h1 : u1.oneCell' = true) (h2 : u2.oneCell' = true) (h3 : u3.oneCell' = true) :
    OwnL (put4 W g o u0 u1 u2 u3) bas ({ r with xs := (((r.xs.set o u0).set (o + 1) u1).set (o + 2) u2).set (o + 3) u3 } :: rs) := by
  have k0 := h.cell (i := 0) (by simp) (g := g) (c := c) hv o u0 h0
  have k1 := k0.cell (i := 0) (by simp) (g := g) (c := c) hv (o + 1) u1 h1
  have k2 := k1.cell (i := 0) (by simp) (g := g) (c := c) hv (o + 2) u2 h2
  have k3 := k2.cell (i := 0) (by simp) (g := g) (c := c) hv (o + 3) u3 h3
  exact k3
theorem box_put4 {b g : Nat} {A : Array Value} (h : ∀ o, W.cell? ⟨b, o, none⟩ = A[o]?) (hne : b ≠ g) (p : Nat) (u0 u1 u2 u3 : Value) (o : Nat) : (put4 W g p u0 u1 u2 u3).cell? ⟨b, o, none⟩ = A[o]? :=
  box_set_other (box_set_other (box_set_other (box_set_other h hne p u0) hne (p + 1) u1) hne (p + 2) u2) hne (p + 3) u3 o
theorem frz_put4 {b g : Nat} (h : ∀ o, W.frozen? ⟨b, o, none⟩ = false) (p : Nat) (u0 u1 u2 u3 : Value) (o : Nat) : (put4 W g p u0 u1 u2 u3).frozen? ⟨b, o, none⟩ = false :=
  frz_set (frz_set (frz_set (frz_set h _ u0) _ u1) _ u2) _ u3 o
theorem size_put4 (g p : Nat) (u0 u1 u2 u3 : Value) : (put4 W g p u0 u1 u2 u3).heap.size = W.heap.size := by unfold put4; simp

def Hc.zone (c : Hc) (i : Nat) : Zc := if i = 0 then c.y0 else c.y1
def Hc.setY (c : Hc) (i : Nat) (y : Zc) : Hc := if i = 0 then { c with y0 := y } else { c with y1 := y }
/-- the zones' row has a block of its own -/
theorem HR.zblock (hs : HR W G X h c) : ∃ g, c.az = some ⟨g, 0, none⟩ ∧ g < W.heap.size ∧ g ≠ G ∧ ¬ X g ∧ ∀ j, j < 8 → W.frozen? ⟨g, j, none⟩ = false := by
  obtain ⟨g, v, h1, _, h2, _, _⟩ := own_cell hs.zs 0 (by simp [zsR, flat, encZc])
  have h3 : (zsR c).v.ownBlock = some g := by unfold zsR; rw [h1]; rfl
  have h4 := hs.og (zsR c) (by simp [Hc.rows]) g h3
  refine ⟨g, h1, h2, h4.1, h4.2, fun j hj => ?_⟩
  obtain ⟨g', v', h5, _, _, _, h6⟩ := own_cell hs.zs j (by simp [zsR, flat, encZc]; omega)
  rw [h1] at h5
  obtain rfl : g = g' := by simpa using h5
  exact h6

/-- a zone is put in its place -/
theorem HS.putZ (hs : HS W G X h c) (hb : Below W.heap.size W W1) {i : Nat} (hi : i < 2) {z' : Zn} {a1 a2 : Option Addr} {n1 n2 c1 c2 : Nat} (hz : ZOwn W1 W.heap.size a1 a2 n1 n2 c1 c2 z') {g : Nat} (hg : c.az = some ⟨g, 0, none⟩) :
    HS (put4 W1 g (i * 4) (vI z'.f) (vI z'.e) (.slice a1 n1 c1) (.slice a2 n2 c2)) G X (h.setZ i z') (c.setY i ⟨z', a1, a2, n1, n2, c1, c2⟩) ∧ Safe X W (put4 W1 g (i * 4) (vI z'.f) (vI z'.e) (.slice a1 n1 c1) (.slice a2 n2 c2)) := by
  have hs1 := hs.below hb
  obtain ⟨g', hg1, hgs, hgG, hgX, _⟩ := hs.r.zblock
  obtain rfl : g = g' := by rw [hg] at hg1; simpa using hg1
  have hzb : (zsR c).v.ownBlock = some g := by unfold zsR; rw [hg]; rfl
  have hzm : zsR c ∈ c.rows h := by simp [Hc.rows]
  have hne := hz.ne (g := g) (.inl hgs)
  have hneG := hz.ne (g := G) (.inl hs.r.gs)
  have hlive : (h.setZ i z').live = h.live := by unfold Hp.setZ; split <;> rfl
  have hls : (h.setZ i z').ls = h.ls := by unfold Hp.setZ; split <;> rfl
  have hcp : (h.setZ i z').cpus = h.cpus := by unfold Hp.setZ; split <;> rfl
  have hm0 : (h.setZ i z').m0 = h.m0 := by unfold Hp.setZ; split <;> rfl
  have hm1 : (h.setZ i z').m1 = h.m1 := by unfold Hp.setZ; split <;> rfl
  have hrows : (c.setY i ⟨z', a1, a2, n1, n2, c1, c2⟩).rows (h.setZ i z') = { zsR c with xs := (((((zsR c).xs.set (i * 4) (vI z'.f)).set (i * 4 + 1) (vI z'.e)).set (i * 4 + 2) (.slice a1 n1 c1)).set (i * 4 + 3) (.slice a2 n2 c2)) } :: lsR c :: lvR c h :: c.lc.map pgR := by
    unfold Hc.rows
    have e1 : lvR (c.setY i ⟨z', a1, a2, n1, n2, c1, c2⟩) (h.setZ i z') = lvR c h := by unfold lvR; rw [hlive]; unfold Hc.setY; split <;> rfl
    have e2 : lsR (c.setY i ⟨z', a1, a2, n1, n2, c1, c2⟩) = lsR c := by unfold Hc.setY; split <;> rfl
    have e3 : (c.setY i ⟨z', a1, a2, n1, n2, c1, c2⟩).lc = c.lc := by unfold Hc.setY; split <;> rfl
    rw [e1, e2, e3]
    congr 1
    obtain rfl | rfl : i = 0 ∨ i = 1 := by omega
    · rfl
    · rfl
  have hreads : ∀ r ∈ (c.setY i ⟨z', a1, a2, n1, n2, c1, c2⟩).reads (h.setZ i z'), r ∈ c.reads h ∨ r = zlR ⟨z', a1, a2, n1, n2, c1, c2⟩ ∨ r = zyR ⟨z', a1, a2, n1, n2, c1, c2⟩ := fun r hr => by
    have e1 : mnR (c.setY i ⟨z', a1, a2, n1, n2, c1, c2⟩) (h.setZ i z') = mnR c h := by unfold mnR; rw [hm0, hm1]; unfold Hc.setY; split <;> rfl
    unfold Hc.reads at hr ⊢
    rw [e1] at hr
    unfold Hc.setY at hr
    obtain rfl | rfl : i = 0 ∨ i = 1 := by omega
    · simp only [if_true, List.mem_cons, List.not_mem_nil, or_false] at hr ⊢
      rcases hr with h | h | h | h | h <;> simp [h]
    · simp only [show ¬ (1 : Nat) = 0 by omega, if_false, List.mem_cons, List.not_mem_nil, or_false] at hr ⊢
      rcases hr with h | h | h | h | h <;> simp [h]
  have hmem : ∀ s ∈ (c.setY i ⟨z', a1, a2, n1, n2, c1, c2⟩).rows (h.setZ i z'), ∃ s0 ∈ c.rows h, s0.v = s.v := fun s hs' => by
    rw [hrows, List.mem_cons] at hs'
    rcases hs' with rfl | hs'
    · exact ⟨zsR c, hzm, rfl⟩
    · exact ⟨s, by unfold Hc.rows; exact List.mem_cons_of_mem _ hs', rfl⟩
  refine ⟨⟨⟨?_, fun r hr => ?_, fun r hr s hs' => ?_, fun r hr g' hg' => ?_, fun r hr => ?_, fun r hr g' hg' hx => ?_, by rw [size_put4]; exact hs1.r.gs, hs.r.xg, fun k hk => by rw [size_put4]; exact hs1.r.xs k hk, ?_, ?_, ?_⟩, ?_, frz_put4 hs1.fz _ _ _ _ _⟩, (Safe.ofBelow hb).trans (.put4 _ _ _ _ _ _ hgX)⟩
  · rw [hrows]
    have h1 := hs1.r.own
    unfold Hc.rows at h1
    exact h1.put4 (c := c.cz) (by unfold zsR; rw [hg]) (i * 4) _ _ _ _ rfl rfl rfl rfl
  · rcases hreads r hr with h1 | rfl | rfl
    · exact own_put4 (hs1.r.ro r h1) (fun e => hs.r.ds r h1 _ hzm g e hzb) _ _ _ _ _
    · exact own_put4 (own_base hz.o1 (Nat.zero_le _)) hne.1 _ _ _ _ _
    · exact own_put4 (own_base hz.o2 (Nat.zero_le _)) hne.2 _ _ _ _ _
  · obtain ⟨s0, hs0, hv⟩ := hmem s hs'
    intro g' h1 h2
    rw [← hv] at h2
    rcases hreads r hr with h3 | rfl | rfl
    · exact hs.r.ds r h3 s0 hs0 g' h1 h2
    · have h4 := (hz.o1.lt g' h1).1
      have h5 := (hs.r.own.lt s0 hs0 g' h2).2
      omega
    · have h4 := (hz.o2.lt g' h1).1
      have h5 := (hs.r.own.lt s0 hs0 g' h2).2
      omega
  · obtain ⟨s0, hs0, hv⟩ := hmem r hr
    rw [← hv] at hg'
    exact hs.r.og s0 hs0 g' hg'
  · rcases hreads r hr with h3 | rfl | rfl
    · exact hs.r.rg r h3
    · exact hneG.1
    · exact hneG.2
  · rcases hreads r hr with h3 | rfl | rfl
    · exact hs.r.rx r h3 g' hg' hx
    · have h4 := (hz.o1.lt g' hg').1
      have h5 := hs.r.xs g' hx
      omega
    · have h4 := (hz.o2.lt g' hg').1
      have h5 := hs.r.xs g' hx
      omega
  · have := hs.r.e0
    unfold Hc.setY Hp.setZ
    obtain rfl | rfl : i = 0 ∨ i = 1 := by omega
    · rfl
    · exact this
  · have := hs.r.e1
    unfold Hc.setY Hp.setZ
    obtain rfl | rfl : i = 0 ∨ i = 1 := by omega
    · exact this
    · rfl
  · have := hs.r.ll
    rw [hls, ← this]
    unfold Hc.setY
    split <;> rfl
  · have h1 := box_put4 hs1.k (fun e => hgG e.symm) (i * 4) (vI z'.f) (vI z'.e) (.slice a1 n1 c1) (.slice a2 n2 c2)
    have h2 : (c.setY i ⟨z', a1, a2, n1, n2, c1, c2⟩).vals (h.setZ i z') = c.vals h := by
      unfold Hc.vals
      rw [hlive, hcp]
      unfold Hc.setY
      split <;> rfl
    rw [h2]
    exact h1
end
end Go.Proofs.YtjljcifpcljlaaaDoor
/- The heap behind a pointer: another row of lists; other pages of a list; another row of blocks that are away. No program in sight. -/
namespace Go.Proofs.YtjljcifpcljlaaaDoor
open Go.RowKit
set_option linter.unusedVariables false

section
variable {W W' : World} {G : Nat} {X : Nat → Prop} {h : Hp} {c : Hc}
structure Dis (c : Hc) (h : Hp) : Prop where
  zl : (zsR c).off (lsR c)
  zv : (zsR c).off (lvR c h)
  zp : ∀ r ∈ c.lc.map pgR, (zsR c).off r
  lv : (lsR c).off (lvR c h)
  lp : ∀ r ∈ c.lc.map pgR, (lsR c).off r
  vp : ∀ r ∈ c.lc.map pgR, (lvR c h).off r
theorem HR.dis (hs : HR W G X h c) : Dis c h := by
  have h1 := hs.own.dis
  unfold Hc.rows at h1
  rw [List.pairwise_cons, List.pairwise_cons, List.pairwise_cons] at h1
  obtain ⟨a, b, d, _⟩ := h1
  exact ⟨a _ (by simp), a _ (by simp), fun r hr => a r (by simp only [List.mem_cons]; exact .inr (.inr hr)), b _ (by simp), fun r hr => b r (List.mem_cons_of_mem _ hr), fun r hr => d r hr⟩
theorem rows_pg {c : Hc} {h : Hp} {r : Rs} (hr : r ∈ c.lc.map pgR) : r ∈ c.rows h := by
  unfold Hc.rows
  exact List.mem_cons_of_mem _ (List.mem_cons_of_mem _ (List.mem_cons_of_mem _ hr))
theorem rows_zs (c : Hc) (h : Hp) : zsR c ∈ c.rows h := by simp [Hc.rows]
theorem rows_ls (c : Hc) (h : Hp) : lsR c ∈ c.rows h := by simp [Hc.rows]
theorem rows_lv (c : Hc) (h : Hp) : lvR c h ∈ c.rows h := by simp [Hc.rows]

/-- a block that is none of the heap's -/
structure Fresh (W : World) (G : Nat) (X : Nat → Prop) (h : Hp) (c : Hc) (g : Nat) : Prop where
  rows : ∀ r ∈ c.rows h, r.v.ownBlock ≠ some g
  reads : ∀ r ∈ c.reads h, r.v.ownBlock ≠ some g
  ne : g ≠ G
  x : ¬ X g
theorem HR.fresh (hs : HR W G X h c) {g : Nat} (hg : W.heap.size ≤ g) : Fresh W' G X h c g :=
  ⟨fun r hr e => by have := (hs.own.lt r hr g e).2; omega, fun r hr e => by have := ((hs.ro r hr).lt g e).2; omega, fun e => by have := hs.gs; omega, fun e => by have := hs.xs g e; omega⟩
/-- another row of lists -/
theorem HR.lists (hs : HR W G X h c) (hg : W.grownBy W' (lsR c).v.ownBlock) {al' : Option Addr} {cl' : Nat} {lc' : List Lc} (ho : W'.ownsRow 0 66 4 (.slice al' lc'.length cl') lc'.length (flat encLc lc'))
    (hb : ∀ k, (Value.slice al' lc'.length cl').ownBlock = some k → (lsR c).v.ownBlock = some k ∨ W.heap.size ≤ k) (hp : OwnL W 0 (lc'.map pgR)) (hq : ∀ r ∈ lc'.map pgR, ∀ g, r.v.ownBlock = some g → (∃ r0 ∈ c.lc.map pgR, r0.v.ownBlock = some g) ∨ Fresh W G X h c g) :
    HR W' G X { h with ls := lc'.map Lc.l } { c with al := al', cl := cl', lc := lc' } := by
  have D := hs.dis
  have hlv : lvR { c with al := al', cl := cl', lc := lc' } { h with ls := lc'.map Lc.l } = lvR c h := rfl
  have hzs : zsR { c with al := al', cl := cl', lc := lc' } = zsR c := rfl
  have hnew : ∀ s ∈ c.rows h, s ≠ lsR c → (lsR c).off s → ∀ k, (Value.slice al' lc'.length cl').ownBlock = some k → s.v.ownBlock ≠ some k := fun s hs1 _ hoff k hk e => by
    rcases hb k hk with h1 | h1
    · exact hoff k h1 e
    · have := (hs.own.lt s hs1 k e).2; omega
  have hrows : ({ c with al := al', cl := cl', lc := lc' } : Hc).rows { h with ls := lc'.map Lc.l } = zsR c :: lsR { c with al := al', cl := cl', lc := lc' } :: lvR c h :: lc'.map pgR := rfl
  have hnl : ∀ s ∈ c.rows h, (lsR c).off s → ∀ k, (Value.slice al' lc'.length cl').ownBlock = some k → s.v.ownBlock ≠ some k := fun s hs1 hoff k hk e => by
    rcases hb k hk with h1 | h1
    · exact hoff k h1 e
    · have := (hs.own.lt s hs1 k e).2; omega
  have hz1 : (zsR c).on W' 0 := own_grown hs.zs hg (fun k hk e => D.zl k hk e)
  have hv1 : (lvR c h).on W' 0 := own_grown hs.lv hg (fun k hk e => D.lv k e hk)
  have hp1 : ∀ r ∈ lc'.map pgR, r.on W' 0 := fun r hr => own_grown (hp.each r hr) hg (fun k hk e => by
    rcases hq r hr k hk with ⟨r0, hr0, h1⟩ | h1
    · exact D.lp r0 hr0 k e h1
    · exact h1.rows _ (rows_ls c h) e)
  have hmem : ∀ r ∈ lc'.map pgR, ∀ s : Rs, (s ∈ c.rows h ∨ s ∈ c.reads h) → (∀ r0 ∈ c.lc.map pgR, s.off r0) → s.off r := fun r hr s hsm hso g h1 h2 => by
    rcases hq r hr g h2 with ⟨r0, hr0, h3⟩ | h3
    · exact hso r0 hr0 g h1 h3
    · rcases hsm with h4 | h4
      · exact h3.rows _ h4 h1
      · exact h3.reads _ h4 h1
  refine ⟨⟨fun r hr => ?_, ?_⟩, fun r hr => own_grown (hs.ro r hr) hg (fun k hk e => hs.ds r hr _ (rows_ls c h) k hk e), fun r hr s hs' => ?_, fun r hr g hg' => ?_, hs.rg, hs.rx, Nat.lt_of_lt_of_le hs.gs hg.size, hs.xg, fun k hk => Nat.lt_of_lt_of_le (hs.xs k hk) hg.size, hs.e0, hs.e1, rfl⟩
  · rw [hrows, List.mem_cons, List.mem_cons, List.mem_cons] at hr
    rcases hr with rfl | rfl | rfl | hr
    · exact hz1
    · exact ho
    · exact hv1
    · exact hp1 r hr
  · rw [hrows, List.pairwise_cons, List.pairwise_cons, List.pairwise_cons]
    refine ⟨fun r hr => ?_, fun r hr => ?_, fun r hr => hmem r hr _ (.inl (rows_lv c h)) D.vp, hp.dis⟩
    · rw [List.mem_cons, List.mem_cons] at hr
      rcases hr with rfl | rfl | hr
      · exact fun g h1 h2 => hnl _ (rows_zs c h) D.zl.symm g h2 h1
      · exact D.zv
      · exact hmem r hr _ (.inl (rows_zs c h)) D.zp
    · rw [List.mem_cons] at hr
      rcases hr with rfl | hr
      · exact fun g h1 h2 => hnl _ (rows_lv c h) D.lv g h1 h2
      · intro g h1 h2
        rcases hq r hr g h2 with ⟨r0, hr0, h3⟩ | h3
        · exact hnl r0 (rows_pg hr0) (D.lp r0 hr0) g h1 h3
        · rcases hb g h1 with h4 | h4
          · exact h3.rows _ (rows_ls c h) h4
          · have := ((hp.each r hr).lt g h2).2; omega
  · rw [hrows, List.mem_cons, List.mem_cons, List.mem_cons] at hs'
    have hr2 : r ∈ c.reads h := hr
    rcases hs' with rfl | rfl | rfl | hs'
    · exact hs.ds r hr2 _ (rows_zs c h)
    · intro g h1 h2
      rcases hb g h2 with h3 | h3
      · exact hs.ds r hr2 _ (rows_ls c h) g h1 h3
      · have := ((hs.ro r hr2).lt g h1).2; omega
    · exact hs.ds r hr2 _ (rows_lv c h)
    · exact hmem s hs' r (.inr hr2) fun r0 hr0 => hs.ds r hr2 r0 (rows_pg hr0)
  · rw [hrows, List.mem_cons, List.mem_cons, List.mem_cons] at hr
    rcases hr with rfl | rfl | rfl | hr
    · exact hs.og _ (rows_zs c h) g hg'
    · rcases hb g hg' with h3 | h3
      · exact hs.og _ (rows_ls c h) g h3
      · exact ⟨fun e => by have := hs.gs; omega, fun e => by have := hs.xs g e; omega⟩
    · exact hs.og _ (rows_lv c h) g hg'
    · rcases hq r hr g hg' with ⟨r0, hr0, h3⟩ | h3
      · exact hs.og r0 (rows_pg hr0) g h3
      · exact ⟨h3.ne, h3.x⟩
/-- .. and the word that tells of it -/
theorem HS.lists (hs : HS W G X h c) (hg : W.grownBy W' (lsR c).v.ownBlock) {al' : Option Addr} {cl' : Nat} {lc' : List Lc} (ho : W'.ownsRow 0 66 4 (.slice al' lc'.length cl') lc'.length (flat encLc lc'))
    (hb : ∀ k, (Value.slice al' lc'.length cl').ownBlock = some k → (lsR c).v.ownBlock = some k ∨ W.heap.size ≤ k) (hp : OwnL W 0 (lc'.map pgR)) (hq : ∀ r ∈ lc'.map pgR, ∀ g, r.v.ownBlock = some g → (∃ r0 ∈ c.lc.map pgR, r0.v.ownBlock = some g) ∨ Fresh W G X h c g) :
    HS (W'.setCell ⟨G, 3, none⟩ (.slice al' lc'.length cl')) G X { h with ls := lc'.map Lc.l } { c with al := al', cl := cl', lc := lc' } ∧ Safe X W (W'.setCell ⟨G, 3, none⟩ (.slice al' lc'.length cl')) := by
  have hne : (lsR c).v.ownBlock ≠ some G := fun e => (hs.r.og _ (rows_ls c h) G e).1 rfl
  have h1 := box_grown hs.k hs.r.gs hg (fun e => hne e.symm)
  refine ⟨⟨(hs.r.lists hg ho hb hp hq).setG _ _, ?_, frz_set (frz_grown hs.fz hs.r.gs hg (fun e => hne e.symm)) _ _⟩, (Safe.ofGrown hg (fun k hk e => (hs.r.og _ (rows_ls c h) k e.symm).2 hk)).set hs.r.xg _ _⟩
  exact box_set h1 3 (.slice al' lc'.length cl')
end
/-- other pages of a list: its row, and the word that tells of it -/
theorem flatLc_set (l : List Lc) (i : Nat) (hi : i < l.length) (r : Lc) (h0 : r.l.c = l[i].l.c ∧ r.l.z = l[i].l.z ∧ r.l.t = l[i].l.t) : (flat encLc l).set (i * 4 + 3) (.slice r.a r.n r.c) = flat encLc (l.set i r) := by
  apply List.ext_getElem?
  intro j
  by_cases hj : j < l.length * 4
  · have hd : j / 4 < l.length := by omega
    have hm : j % 4 < 4 := by omega
    have hjj : j = j / 4 * 4 + j % 4 := by omega
    have g1 := flat_get encLc_length (l.set i r) (j / 4) (by simpa using hd) (j % 4) hm
    have g2 := flat_get encLc_length l (j / 4) hd (j % 4) hm
    rw [← hjj] at g1 g2
    rw [g1, List.getElem?_set]
    by_cases he : i * 4 + 3 = j
    · have e1 : j / 4 = i := by omega
      have e2 : j % 4 = 3 := by omega
      rw [if_pos he, if_pos (by rw [flat_length encLc_length]; omega)]
      simp only [e1, e2, List.getElem_set_self]
      rfl
    · rw [if_neg he, g2]
      by_cases e1 : j / 4 = i
      · subst e1
        simp only [List.getElem_set_self]
        have e2 : j % 4 = 0 ∨ j % 4 = 1 ∨ j % 4 = 2 := by omega
        obtain ⟨a0, a1, a2⟩ := h0
        rcases e2 with e2 | e2 | e2 <;> rw [e2] <;> simp [encLc, a0, a1, a2]
      · rw [List.getElem_set_ne (fun e => e1 e.symm)]
  · rw [List.getElem?_eq_none (by rw [List.length_set, flat_length encLc_length]; omega), List.getElem?_eq_none (by rw [flat_length encLc_length, List.length_set]; omega)]
section
variable {W W' : World} {G : Nat} {X : Nat → Prop} {h : Hp} {c : Hc}
/-- the lists' row has a block of its own -/
theorem HR.lblock (hs : HR W G X h c) (hn : 0 < c.lc.length) : ∃ g, c.al = some ⟨g, 0, none⟩ ∧ g < W.heap.size ∧ g ≠ G ∧ ¬ X g ∧ ∀ j, j < c.lc.length * 4 → W.frozen? ⟨g, j, none⟩ = false := by
  obtain ⟨g, v, h1, _, h2, _, _⟩ := own_cell hs.lsr 0 (by show 0 < (flat encLc c.lc).length; rw [flat_length encLc_length]; omega)
  have h3 : (lsR c).v.ownBlock = some g := by unfold lsR; rw [h1]; rfl
  have h4 := hs.og (lsR c) (rows_ls c h) g h3
  refine ⟨g, h1, h2, h4.1, h4.2, fun j hj => ?_⟩
  obtain ⟨g', v', h5, _, _, _, h6⟩ := own_cell hs.lsr j (by show j < (flat encLc c.lc).length; rw [flat_length encLc_length]; omega)
  rw [h1] at h5
  obtain rfl : g = g' := by simpa using h5
  exact h6
theorem HS.page (hs : HS W G X h c) {i : Nat} (hi : i < c.lc.length) (hg : W.grownBy W' (pgR c.lc[i]).v.ownBlock) {r : Lc} (ho : (pgR r).on W' 0) (h0 : r.l.c = c.lc[i].l.c ∧ r.l.z = c.lc[i].l.z ∧ r.l.t = c.lc[i].l.t)
    (hb : ∀ k, (pgR r).v.ownBlock = some k → (pgR c.lc[i]).v.ownBlock = some k ∨ W.heap.size ≤ k) {g : Nat} (hal : c.al = some ⟨g, 0, none⟩) :
    HS (W'.setCell ⟨g, i * 4 + 3, none⟩ (.slice r.a r.n r.c)) G X { h with ls := h.ls.set i r.l } { c with lc := c.lc.set i r } ∧ Safe X W (W'.setCell ⟨g, i * 4 + 3, none⟩ (.slice r.a r.n r.c)) := by
  have D := hs.r.dis
  have hpm : pgR c.lc[i] ∈ c.lc.map pgR := List.mem_map_of_mem (List.getElem_mem hi)
  obtain ⟨g', hg1, hgs, hgG, hgX, _⟩ := hs.r.lblock (by omega)
  obtain rfl : g = g' := by rw [hal] at hg1; simpa using hg1
  have hlb : (lsR c).v.ownBlock = some g := by unfold lsR; rw [hal]; rfl
  have hne : (pgR c.lc[i]).v.ownBlock ≠ some G := fun e => (hs.r.og _ (rows_pg hpm) G e).1 rfl
  have hneg : (pgR c.lc[i]).v.ownBlock ≠ some g := fun e => D.lp _ hpm g hlb e
  have hi3 : 3 + i < (c.rows h).length := by simp [Hc.rows]; omega
  have hri : (c.rows h)[3 + i] = pgR c.lc[i] := by
    have : (c.rows h)[3 + i]? = some (pgR c.lc[i]) := by
      rw [show 3 + i = i + 3 by omega]
      simp [Hc.rows, hi]
    exact (List.getElem?_eq_some_iff.1 this).2
  have k1 := hs.r.own.grown hi3 (W' := W') (r' := pgR r) (by rw [hri]; exact hg) ho (by rw [hri]; exact hb)
  have e1 : (c.rows h).set (3 + i) (pgR r) = zsR c :: lsR c :: lvR c h :: (c.lc.set i r).map pgR := by
    rw [show 3 + i = i + 3 by omega, List.map_set]
    rfl
  rw [e1] at k1
  have k2 := k1.cell (i := 1) (by simp) (g := g) (c := c.cl) (by show (lsR c).v = _; unfold lsR; rw [hal]; rfl) (i * 4 + 3) (.slice r.a r.n r.c) rfl
  have e2 : (zsR c :: lsR c :: lvR c h :: (c.lc.set i r).map pgR).set 1 { (zsR c :: lsR c :: lvR c h :: (c.lc.set i r).map pgR)[1] with xs := ((zsR c :: lsR c :: lvR c h :: (c.lc.set i r).map pgR)[1]).xs.set (i * 4 + 3) (.slice r.a r.n r.c) } = ({ c with lc := c.lc.set i r } : Hc).rows { h with ls := h.ls.set i r.l } := by
    unfold Hc.rows
    have e3 : lsR { c with lc := c.lc.set i r } = { lsR c with xs := (lsR c).xs.set (i * 4 + 3) (.slice r.a r.n r.c) } := by
      unfold lsR
      simp only [List.length_set]
      rw [← flatLc_set c.lc i hi r h0]
    rw [e3]
    rfl
  rw [e2] at k2
  have hmem : ∀ s ∈ ({ c with lc := c.lc.set i r } : Hc).rows { h with ls := h.ls.set i r.l }, (∃ s0 ∈ c.rows h, s0.v = s.v) ∨ s = pgR r := fun s hs' => by
    rw [← e2] at hs'
    rcases List.mem_or_eq_of_mem_set hs' with h1 | h1
    · rw [List.mem_cons, List.mem_cons, List.mem_cons] at h1
      rcases h1 with h1 | h1 | h1 | h1
      · exact .inl ⟨_, rows_zs c h, by rw [h1]⟩
      · exact .inl ⟨_, rows_ls c h, by rw [h1]⟩
      · exact .inl ⟨_, rows_lv c h, by rw [h1]⟩
      · rw [List.map_set] at h1
        rcases List.mem_or_eq_of_mem_set h1 with h2 | h2
        · exact .inl ⟨s, rows_pg h2, rfl⟩
        · exact .inr h2
    · exact .inl ⟨_, rows_ls c h, by rw [h1]; rfl⟩
  have h1 := box_grown hs.k hs.r.gs hg (fun e => hne e.symm)
  refine ⟨⟨⟨k2, fun r1 hr => own_set (own_grown (hs.r.ro r1 hr) hg (fun k hk e => hs.r.ds r1 hr _ (rows_pg hpm) k hk e)) (fun e => hs.r.ds r1 hr _ (rows_ls c h) g e hlb) _, fun r1 hr s hs' k hk1 hk2 => ?_, fun s hs' k hk => ?_, hs.r.rg, hs.r.rx, by simpa using Nat.lt_of_lt_of_le hs.r.gs hg.size, hs.r.xg, fun k hk => by simpa using Nat.lt_of_lt_of_le (hs.r.xs k hk) hg.size, hs.r.e0, hs.r.e1, ?_⟩, ?_, frz_set (frz_grown hs.fz hs.r.gs hg (fun e => hne e.symm)) _ _⟩, (Safe.ofGrown hg (fun k hk e => (hs.r.og _ (rows_pg hpm) k e.symm).2 hk)).set hgX _ _⟩
  · rcases hmem s hs' with ⟨s0, hs0, hv⟩ | rfl
    · exact hs.r.ds r1 hr s0 hs0 k hk1 (by rw [hv]; exact hk2)
    · rcases hb k hk2 with h3 | h3
      · exact hs.r.ds r1 hr _ (rows_pg hpm) k hk1 h3
      · have := ((hs.r.ro r1 hr).lt k hk1).2; omega
  · rcases hmem s hs' with ⟨s0, hs0, hv⟩ | rfl
    · exact hs.r.og s0 hs0 k (by rw [hv]; exact hk)
    · rcases hb k hk with h3 | h3
      · exact hs.r.og _ (rows_pg hpm) k h3
      · exact ⟨fun e => by have := hs.r.gs; omega, fun e => by have := hs.r.xs k e; omega⟩
  · rw [List.map_set, hs.r.ll]
  · have h2 : ({ c with lc := c.lc.set i r } : Hc).vals { h with ls := h.ls.set i r.l } = c.vals h := by
      unfold Hc.vals
      simp only [List.length_set]
    rw [h2]
    exact box_set_other h1 (fun e => hgG e.symm) _ _
/-- another row of blocks that are away -/
theorem HS.away (hs : HS W G X h c) (hg : W.grownBy W' (lvR c h).v.ownBlock) {av' : Option Addr} {cv' : Nat} {v' : List Bk} (ho : W'.ownsRow 0 40 3 (.slice av' v'.length cv') v'.length (flat encBk v'))
    (hb : ∀ k, (Value.slice av' v'.length cv').ownBlock = some k → (lvR c h).v.ownBlock = some k ∨ W.heap.size ≤ k) :
    HS (W'.setCell ⟨G, 4, none⟩ (.slice av' v'.length cv')) G X { h with live := v' } { c with av := av', cv := cv' } ∧ Safe X W (W'.setCell ⟨G, 4, none⟩ (.slice av' v'.length cv')) := by
  have hne : (lvR c h).v.ownBlock ≠ some G := fun e => (hs.r.og _ (rows_lv c h) G e).1 rfl
  have h1 := box_grown hs.k hs.r.gs hg (fun e => hne e.symm)
  have k1 := hs.r.own.grown (i := 2) (by simp [Hc.rows]) (W' := W') (r' := lvR { c with av := av', cv := cv' } { h with live := v' }) hg ho hb
  have hmem : ∀ s ∈ ({ c with av := av', cv := cv' } : Hc).rows { h with live := v' }, s ∈ c.rows h ∨ s = lvR { c with av := av', cv := cv' } { h with live := v' } := fun s hs' => List.mem_or_eq_of_mem_set (l := c.rows h) (i := 2) hs'
  refine ⟨⟨(⟨k1, fun r hr => own_grown (hs.r.ro r hr) hg (fun k hk e => hs.r.ds r hr _ (rows_lv c h) k hk e), fun r1 hr s hs' k hk1 hk2 => ?_, fun s hs' k hk => ?_, hs.r.rg, hs.r.rx, Nat.lt_of_lt_of_le hs.r.gs hg.size, hs.r.xg, fun k hk => Nat.lt_of_lt_of_le (hs.r.xs k hk) hg.size, hs.r.e0, hs.r.e1, hs.r.ll⟩ : HR W' G X { h with live := v' } { c with av := av', cv := cv' }).setG _ _, ?_, frz_set (frz_grown hs.fz hs.r.gs hg (fun e => hne e.symm)) _ _⟩, (Safe.ofGrown hg (fun k hk e => (hs.r.og _ (rows_lv c h) k e.symm).2 hk)).set hs.r.xg _ _⟩
  · have hr2 : r1 ∈ c.reads h := hr
    rcases hmem s hs' with h3 | rfl
    · exact hs.r.ds r1 hr2 s h3 k hk1 hk2
    · rcases hb k hk2 with h3 | h3
      · exact hs.r.ds r1 hr2 _ (rows_lv c h) k hk1 h3
      · have := ((hs.r.ro r1 hr2).lt k hk1).2; omega
  · rcases hmem s hs' with h3 | rfl
    · exact hs.r.og s h3 k hk
    · rcases hb k hk with h3 | h3
      · exact hs.r.og _ (rows_lv c h) k h3
      · exact ⟨fun e => by have := hs.r.gs; omega, fun e => by have := hs.r.xs k e; omega⟩
  · exact box_set h1 4 (.slice av' v'.length cv')
end
end Go.Proofs.YtjljcifpcljlaaaDoor
/- A heap that is being copied: the zones come first. No program in sight. -/
namespace Go.Proofs.YtjljcifpcljlaaaDoor
open Go.RowKit
set_option linter.unusedVariables false

def zzR (az : Option Addr) (cz : Nat) (zs : List Zc) : Rs := ⟨55, 4, .slice az zs.length cz, zs.length, flat encZc zs⟩
def bkR (av : Option Addr) (cv : Nat) (l : List Bk) : Rs := ⟨40, 3, .slice av l.length cv, l.length, flat encBk l⟩
def inR (am : Option Addr) (cm : Nat) (l : List Nat) : Rs := ⟨3, 1, .slice am l.length cm, l.length, flat encT l⟩
/-- so many zones, the minima and the blocks that are away: own rows above 'bas'; and the block g that tells of them -/
structure CZ (W : World) (bas g : Nat) (zs : List Zc) (az : Option Addr) (cz : Nat) (am : Option Addr) (cm : Nat) (m : List Nat) (av : Option Addr) (cv : Nat) (v : List Bk) (cpus : Nat) : Prop where
  oz : (zzR az cz zs).on W bas
  ov : (bkR av cv v).on W bas
  om : (inR am cm m).on W bas
  rd : ∀ y ∈ zs, (zlR y).on W bas ∧ (zyR y).on W bas
  zv : (zzR az cz zs).off (bkR av cv v)
  zm : (zzR az cz zs).off (inR am cm m)
  zy : ∀ y ∈ zs, (zzR az cz zs).off (zlR y) ∧ (zzR az cz zs).off (zyR y)
  vm : (bkR av cv v).off (inR am cm m)
  vy : ∀ y ∈ zs, (bkR av cv v).off (zlR y) ∧ (bkR av cv v).off (zyR y)
  gz : (zzR az cz zs).v.ownBlock ≠ some g
  gv : (bkR av cv v).v.ownBlock ≠ some g
  gm : (inR am cm m).v.ownBlock ≠ some g
  gy : ∀ y ∈ zs, (zlR y).v.ownBlock ≠ some g ∧ (zyR y).v.ownBlock ≠ some g
  gs : bas ≤ g ∧ g < W.heap.size
  k : ∀ o, W.cell? ⟨g, o, none⟩ = (#[.slice az zs.length cz, .slice am m.length cm, .int .i64 (cpus : Int), .slice none 0 0, .slice av v.length cv] : Array Value)[o]?
  fz : ∀ o, W.frozen? ⟨g, o, none⟩ = false
section
variable {W W' W1 : World} {bas g : Nat} {zs : List Zc} {az : Option Addr} {cz : Nat} {am : Option Addr} {cm : Nat} {m : List Nat} {av : Option Addr} {cv : Nat} {v : List Bk} {cpus : Nat}
theorem CZ.below (h : CZ W bas g zs az cz am cm m av cv v cpus) (hb : Below W.heap.size W W') : CZ W' bas g zs az cz am cm m av cv v cpus :=
  ⟨own_below h.oz hb (Nat.le_refl _), own_below h.ov hb (Nat.le_refl _), own_below h.om hb (Nat.le_refl _), fun y hy => ⟨own_below (h.rd y hy).1 hb (Nat.le_refl _), own_below (h.rd y hy).2 hb (Nat.le_refl _)⟩, h.zv, h.zm, h.zy, h.vm, h.vy, h.gz, h.gv, h.gm, h.gy, ⟨h.gs.1, Nat.lt_of_lt_of_le h.gs.2 hb.size⟩, box_step h.k h.gs.2 hb, frz_step h.fz h.gs.2 hb⟩
/-- one zone more: W is the world ahead of its copy, W1 the one behind it (and behind the row of one zone), W' the one behind the append -/
theorem CZ.add (h : CZ W bas g zs az cz am cm m av cv v cpus) (hb : Below W.heap.size W W1) {z' : Zn} {a1 a2 : Option Addr} {n1 n2 c1 c2 : Nat} (hz : ZOwn W1 W.heap.size a1 a2 n1 n2 c1 c2 z') {g6 cap6 : Nat}
    (ho : W'.ownsRow bas 55 4 (.slice (some ⟨g6, 0, none⟩) (zs.length + 1) cap6) (zs.length + 1) (flat encZc (zs ++ [⟨z', a1, a2, n1, n2, c1, c2⟩]))) (hg : W1.grownBy W' (Value.slice az zs.length cz).ownBlock) (hl : (Value.slice az zs.length cz).ownBlock = some g6 ∨ g6 = W1.heap.size) :
    CZ (W'.setCell ⟨g, 0, none⟩ (.slice (some ⟨g6, 0, none⟩) (zs.length + 1) cap6)) bas g (zs ++ [⟨z', a1, a2, n1, n2, c1, c2⟩]) (some ⟨g6, 0, none⟩) cap6 am cm m av cv v cpus := by
  have h1 := h.below hb
  have hbs : bas ≤ W.heap.size := by have := h.gs; omega
  have hzo : (zzR az cz zs).v.ownBlock = (Value.slice az zs.length cz).ownBlock := rfl
  have hznew : ∀ k, (Value.slice az zs.length cz).ownBlock = some k → k < W.heap.size := fun k hk => (h.oz.lt k (by rw [hzo]; exact hk)).2
  -- the row's new block is none of the others'
  have hnb : ∀ (r : Rs), (zzR az cz zs).off r → (∀ k, r.v.ownBlock = some k → k < W1.heap.size) → r.v.ownBlock ≠ some g6 := fun r hoff hlt e => by
    rcases hl with h2 | h2
    · exact hoff g6 h2 e
    · have := hlt g6 e; omega
  have hzl : (zlR ⟨z', a1, a2, n1, n2, c1, c2⟩).on W1 W.heap.size := hz.o1
  have hzy : (zyR ⟨z', a1, a2, n1, n2, c1, c2⟩).on W1 W.heap.size := hz.o2
  have hge : ∀ (r : Rs), r.on W1 W.heap.size → ∀ k, r.v.ownBlock = some k → W.heap.size ≤ k ∧ k < W1.heap.size := fun r hr k hk => hr.lt k hk
  have hozl : (zzR az cz zs).off (zlR ⟨z', a1, a2, n1, n2, c1, c2⟩) := fun k h2 h3 => by have := hznew k h2; have := (hge _ hzl k h3).1; omega
  have hozy : (zzR az cz zs).off (zyR ⟨z', a1, a2, n1, n2, c1, c2⟩) := fun k h2 h3 => by have := hznew k h2; have := (hge _ hzy k h3).1; omega
  have hgg6 : g6 ≠ g := fun e => by
    rcases hl with h2 | h2
    · exact h.gz (by rw [hzo, h2, e])
    · have := h1.gs.2; omega
  have hgw : (Value.slice az zs.length cz).ownBlock ≠ some g := h.gz
  -- a row that is kept: own at W1, apart from the zones' row and from g
  have keep : ∀ (r : Rs) (b : Nat), r.on W1 b → (zzR az cz zs).off r → r.v.ownBlock ≠ some g → r.on (W'.setCell ⟨g, 0, none⟩ (.slice (some ⟨g6, 0, none⟩) (zs.length + 1) cap6)) b := fun r b hr hoff hne =>
    own_set (own_grown hr hg (fun k hk e => hoff k e hk)) hne _
  have hne2 : ∀ (r : Rs), r.on W1 W.heap.size → r.v.ownBlock ≠ some g := fun r hr e => by have := (hge r hr g e).1; have := h.gs.2; omega
  have hlen : (zs ++ [(⟨z', a1, a2, n1, n2, c1, c2⟩ : Zc)]).length = zs.length + 1 := by simp
  have hv : (zzR (some ⟨g6, 0, none⟩) cap6 (zs ++ [⟨z', a1, a2, n1, n2, c1, c2⟩])).v = .slice (some ⟨g6, 0, none⟩) (zs.length + 1) cap6 := by unfold zzR; simp only [hlen]
  have hvo : (zzR (some ⟨g6, 0, none⟩) cap6 (zs ++ [⟨z', a1, a2, n1, n2, c1, c2⟩])).v.ownBlock = some g6 := by rw [hv]; rfl
  have hoff6 : ∀ (r : Rs), r.v.ownBlock ≠ some g6 → (zzR (some ⟨g6, 0, none⟩) cap6 (zs ++ [⟨z', a1, a2, n1, n2, c1, c2⟩])).off r := fun r hr k h2 h3 => by
    rw [hvo] at h2
    obtain rfl := Option.some.inj h2
    exact hr h3
  have lt1 : ∀ (r : Rs) (b : Nat), r.on W1 b → ∀ k, r.v.ownBlock = some k → k < W1.heap.size := fun r b hr k hk => (hr.lt k hk).2
  have hmem : ∀ y ∈ zs ++ [(⟨z', a1, a2, n1, n2, c1, c2⟩ : Zc)], y ∈ zs ∨ y = ⟨z', a1, a2, n1, n2, c1, c2⟩ := fun y hy => by simpa using hy
  refine ⟨?_, keep _ _ h1.ov h.zv h.gv, keep _ _ h1.om h.zm h.gm, fun y hy => ?_, hoff6 _ (hnb _ h.zv (lt1 _ _ h1.ov)), hoff6 _ (hnb _ h.zm (lt1 _ _ h1.om)), fun y hy => ?_, h.vm, fun y hy => ?_, by rw [hvo]; exact fun e => hgg6 (Option.some.inj e), h.gv, h.gm, fun y hy => ?_, ⟨h.gs.1, by simpa using Nat.lt_of_lt_of_le h1.gs.2 hg.size⟩, ?_, frz_set (frz_grown h1.fz h1.gs.2 hg (fun e => hgw e.symm)) _ _⟩
  · have h2 := own_set ho (b := g) (i := 0) (by intro e; exact hgg6 (by simpa [Value.ownBlock] using e)) (.slice (some ⟨g6, 0, none⟩) (zs.length + 1) cap6)
    unfold Rs.on zzR
    simp only [hlen]
    exact h2
  · rcases hmem y hy with h2 | rfl
    · exact ⟨keep _ _ (h1.rd y h2).1 (h.zy y h2).1 (h.gy y h2).1, keep _ _ (h1.rd y h2).2 (h.zy y h2).2 (h.gy y h2).2⟩
    · exact ⟨own_base (keep _ _ hzl hozl (hne2 _ hzl)) hbs, own_base (keep _ _ hzy hozy (hne2 _ hzy)) hbs⟩
  · rcases hmem y hy with h2 | rfl
    · exact ⟨hoff6 _ (hnb _ (h.zy y h2).1 (lt1 _ _ (h1.rd y h2).1)), hoff6 _ (hnb _ (h.zy y h2).2 (lt1 _ _ (h1.rd y h2).2))⟩
    · exact ⟨hoff6 _ (hnb _ hozl (lt1 _ _ hzl)), hoff6 _ (hnb _ hozy (lt1 _ _ hzy))⟩
  · rcases hmem y hy with h2 | rfl
    · exact h.vy y h2
    · exact ⟨fun k h3 h4 => by have := (h.ov.lt k h3).2; have := (hge _ hzl k h4).1; omega, fun k h3 h4 => by have := (h.ov.lt k h3).2; have := (hge _ hzy k h4).1; omega⟩
  · rcases hmem y hy with h2 | rfl
    · exact h.gy y h2
    · exact ⟨hne2 _ hzl, hne2 _ hzy⟩
  · have h2 := box_set (box_grown h1.k h1.gs.2 hg (fun e => hgw e.symm)) 0 (.slice (some ⟨g6, 0, none⟩) (zs.length + 1) cap6)
    rw [hlen]
    exact h2
/-- both zones: the heap without lists -/
theorem CZ.done {y0 y1 : Zc} {m0 m1 : Nat} (h : CZ W bas g [y0, y1] az cz am cm [m0, m1] av cv v cpus) {X : Nat → Prop} (hX : ∀ k, X k → k < bas) :
    HS W g X ⟨y0.z, y1.z, m0, m1, cpus, [], v⟩ ⟨az, cz, am, cm, none, 0, av, cv, y0, y1, []⟩ := by
  have m0 : y0 ∈ [y0, y1] := by simp
  have m1 : y1 ∈ [y0, y1] := by simp
  have hl : (lsR ⟨az, cz, am, cm, none, 0, av, cv, y0, y1, []⟩).v.ownBlock = none := rfl
  have base0 : ∀ (r : Rs), r.on W bas → r.on W 0 := fun r hr => own_base hr (Nat.zero_le _)
  refine ⟨⟨⟨fun r hr => ?_, ?_⟩, fun r hr => ?_, fun r hr s hs => ?_, fun r hr k hk => ?_, fun r hr => ?_, fun r hr k hk hx => ?_, h.gs.2, fun e => by have := hX _ e; have := h.gs.1; omega, fun k hk => by have := hX k hk; have := h.gs; omega, rfl, rfl, rfl⟩, h.k, h.fz⟩
  · simp only [Hc.rows, List.map_nil, List.mem_cons, List.not_mem_nil, or_false] at hr
    rcases hr with rfl | rfl | rfl
    · exact base0 _ h.oz
    · exact ⟨rfl, .inl ⟨rfl, rfl⟩⟩
    · exact base0 _ h.ov
  · unfold Hc.rows
    refine List.pairwise_cons.2 ⟨fun r hr => ?_, List.pairwise_cons.2 ⟨fun r hr k h2 => (by rw [hl] at h2; cases h2), List.pairwise_cons.2 ⟨fun r hr => (by simp at hr), List.Pairwise.nil⟩⟩⟩
    simp only [List.map_nil, List.mem_cons, List.not_mem_nil, or_false] at hr
    rcases hr with rfl | rfl
    · exact fun k _ h3 => by rw [hl] at h3; cases h3
    · exact h.zv
  · simp only [Hc.reads, List.mem_cons, List.not_mem_nil, or_false] at hr
    rcases hr with rfl | rfl | rfl | rfl | rfl
    · exact base0 _ h.om
    · exact base0 _ (h.rd y0 m0).1
    · exact base0 _ (h.rd y0 m0).2
    · exact base0 _ (h.rd y1 m1).1
    · exact base0 _ (h.rd y1 m1).2
  · simp only [Hc.reads, List.mem_cons, List.not_mem_nil, or_false] at hr
    simp only [Hc.rows, List.map_nil, List.mem_cons, List.not_mem_nil, or_false] at hs
    rcases hs with rfl | rfl | rfl
    · rcases hr with rfl | rfl | rfl | rfl | rfl
      · exact h.zm.symm
      · exact (h.zy y0 m0).1.symm
      · exact (h.zy y0 m0).2.symm
      · exact (h.zy y1 m1).1.symm
      · exact (h.zy y1 m1).2.symm
    · exact fun k _ h3 => by rw [hl] at h3; cases h3
    · rcases hr with rfl | rfl | rfl | rfl | rfl
      · exact h.vm.symm
      · exact (h.vy y0 m0).1.symm
      · exact (h.vy y0 m0).2.symm
      · exact (h.vy y1 m1).1.symm
      · exact (h.vy y1 m1).2.symm
  · simp only [Hc.rows, List.map_nil, List.mem_cons, List.not_mem_nil, or_false] at hr
    rcases hr with rfl | rfl | rfl
    · exact ⟨fun e => h.gz (by rw [← e]; exact hk), fun e => by have := hX k e; have := (h.oz.lt k hk).1; omega⟩
    · rw [hl] at hk; cases hk
    · exact ⟨fun e => h.gv (by rw [← e]; exact hk), fun e => by have := hX k e; have := (h.ov.lt k hk).1; omega⟩
  · simp only [Hc.reads, List.mem_cons, List.not_mem_nil, or_false] at hr
    rcases hr with rfl | rfl | rfl | rfl | rfl
    · exact h.gm
    · exact (h.gy y0 m0).1
    · exact (h.gy y0 m0).2
    · exact (h.gy y1 m1).1
    · exact (h.gy y1 m1).2
  · have h5 := hX k hx
    simp only [Hc.reads, List.mem_cons, List.not_mem_nil, or_false] at hr
    rcases hr with rfl | rfl | rfl | rfl | rfl
    · have := (h.om.lt k hk).1; omega
    · have := ((h.rd y0 m0).1.lt k hk).1; omega
    · have := ((h.rd y0 m0).2.lt k hk).1; omega
    · have := ((h.rd y1 m1).1.lt k hk).1; omega
    · have := ((h.rd y1 m1).2.lt k hk).1; omega
end
end Go.Proofs.YtjljcifpcljlaaaDoor
/- A copy of a heap comes into another box. No program in sight. -/
namespace Go.Proofs.YtjljcifpcljlaaaDoor
open Go.RowKit
set_option linter.unusedVariables false
/-- five words are written -/
def put5 (W : World) (b : Nat) (u0 u1 u2 u3 u4 : Value) : World := ((((W.setCell ⟨b, 0, none⟩ u0).setCell ⟨b, 1, none⟩ u1).setCell ⟨b, 2, none⟩ u2).setCell ⟨b, 3, none⟩ u3).setCell ⟨b, 4, none⟩ u4
theorem HS.move {W : World} {g B : Nat} {X : Nat → Prop} {h : Hp} {c : Hc} (hs : HS W g X h c) (hB : X B) {a0 a1 a2 a3 a4 : Value} (hk : ∀ o, W.cell? ⟨B, o, none⟩ = (#[a0, a1, a2, a3, a4] : Array Value)[o]?) (hf : ∀ o, W.frozen? ⟨B, o, none⟩ = false) :
    HS (put5 W B (.slice c.az 2 c.cz) (.slice c.am 2 c.cm) (.int .i64 (h.cpus : Int)) (.slice c.al c.lc.length c.cl) (.slice c.av h.live.length c.cv)) B (fun k => X k ∧ k ≠ B) h c := by
  have h1 := ((((hs.far hB 0 (.slice c.az 2 c.cz)).far hB 1 (.slice c.am 2 c.cm)).far hB 2 (.int .i64 (h.cpus : Int))).far hB 3 (.slice c.al c.lc.length c.cl)).far hB 4 (.slice c.av h.live.length c.cv)
  have h2 := box_set (box_set (box_set (box_set (box_set hk 0 (.slice c.az 2 c.cz)) 1 (.slice c.am 2 c.cm)) 2 (.int .i64 (h.cpus : Int))) 3 (.slice c.al c.lc.length c.cl)) 4 (.slice c.av h.live.length c.cv)
  refine ⟨⟨h1.r.own, h1.r.ro, h1.r.ds, fun r hr k hk' => ⟨fun e => (h1.r.og r hr k hk').2 (by rw [e]; exact hB), fun e => (h1.r.og r hr k hk').2 e.1⟩, fun r hr e => h1.r.rx r hr B e hB, fun r hr k hk' e => h1.r.rx r hr k hk' e.1, h1.r.xs B hB, fun e => e.2 rfl, fun k hk' => h1.r.xs k hk'.1, h1.r.e0, h1.r.e1, h1.r.ll⟩, h2, frz_set (frz_set (frz_set (frz_set (frz_set hf _ _) _ _) _ _) _ _) _ _⟩
end Go.Proofs.YtjljcifpcljlaaaDoor
/- The end of a call that answers a heap: its five words go into the result's box. No program in sight. -/
namespace Go.Proofs.YtjljcifpcljlaaaDoor
open Go.RowKit
set_option linter.unusedVariables false
/-- a heap whose parts all lie in memory from B on, and not in B itself -/
def HNew (W : World) (B : Nat) (h : Hp) (c : Hc) : Prop := HR W B (fun k => k < B) h c
theorem HNew.at {W : World} {B : Nat} {h : Hp} {c : Hc} (hs : HNew W B h c) : HAt W c.az c.am c.al c.av c.lc.length h.live.length c.y0 c.y1 c.lc h := HR.at hs
theorem ret5 {W0 W4 W : World} {B b G : Nat} {X : Nat → Prop} {h : Hp} {c : Hc} {a0 a1 a2 a3 a4 : Value} (hb : Below B W0 W4) (sf : Safe X W4 W) (hs : HS W G X h c) (K2 : ∀ o, W4.cell? ⟨b, o, none⟩ = (#[a0, a1, a2, a3, a4] : Array Value)[o]?) (F2 : ∀ o, W4.frozen? ⟨b, o, none⟩ = false) (hsz : b < W4.heap.size) (hX : X b) (hXB : ∀ k, k < B → X k) (hB : B ≤ W4.heap.size) (hbB : B ≤ b) (u0 u1 u2 u3 u4 : Value) :
    (W.cell? ⟨b, 0, none⟩ = some a0 ∧ W.cell? ⟨b, 1, none⟩ = some a1 ∧ W.cell? ⟨b, 2, none⟩ = some a2 ∧ W.cell? ⟨b, 3, none⟩ = some a3 ∧ W.cell? ⟨b, 4, none⟩ = some a4) ∧
    (W.frozen? ⟨b, 0, none⟩ = false ∧ W.frozen? ⟨b, 1, none⟩ = false ∧ W.frozen? ⟨b, 2, none⟩ = false ∧ W.frozen? ⟨b, 3, none⟩ = false ∧ W.frozen? ⟨b, 4, none⟩ = false) ∧
    HS (put5 W b u0 u1 u2 u3 u4) G X h c ∧ Below B W0 (put5 W b u0 u1 u2 u3 u4) ∧ ∀ o, (put5 W b u0 u1 u2 u3 u4).cell? ⟨b, o, none⟩ = (#[u0, u1, u2, u3, u4] : Array Value)[o]? := by
  have K := sf.box K2 hsz hX
  have F := sf.frz F2 hsz hX
  exact ⟨⟨K 0, K 1, K 2, K 3, K 4⟩, ⟨F 0, F 1, F 2, F 3, F 4⟩, ((((hs.far hX 0 u0).far hX 1 u1).far hX 2 u2).far hX 3 u3).far hX 4 u4, Below.setCell (Below.setCell (Below.setCell (Below.setCell (Below.setCell (Safe.after hb sf hXB hB) hbB u0) hbB u1) hbB u2) hbB u3) hbB u4, box_set (box_set (box_set (box_set (box_set K 0 u0) 1 u1) 2 u2) 3 u3) 4 u4⟩
end Go.Proofs.YtjljcifpcljlaaaDoor
/- The state of paged: a heap in a box, and a row of blocks that are away. No program in sight. -/
namespace Go.Proofs.YtjljcifpcljlaaaDoor
open Go.RowKit
set_option linter.unusedVariables false
section
variable {W W' : World} {G : Nat} {X : Nat → Prop} {h : Hp} {c : Hc}
theorem HR.far (hs : HR W G X h c) {g : Nat} (hx : X g) (i : Nat) (u : Value) : HR (W.setCell ⟨g, i, none⟩ u) G X h c :=
  ⟨hs.own.far (fun r hr e => (hs.og r hr g e).2 hx) i u, fun r hr => own_set (hs.ro r hr) (fun e => hs.rx r hr g e hx) u, hs.ds, hs.og, hs.rg, hs.rx, by simpa using hs.gs, hs.xg, fun k hk => by simpa using hs.xs k hk, hs.e0, hs.e1, hs.ll⟩
/-- a block that is held fast is written, or grows -/
theorem HR.grown (hs : HR W G X h c) {row : Option Nat} (hg : W.grownBy W' row) (hx : ∀ k, row = some k → X k) : HR W' G X h c :=
  ⟨⟨fun r hr => own_grown (hs.own.each r hr) hg (fun k hk e => (hs.og r hr k hk).2 (hx k e)), hs.own.dis⟩, fun r hr => own_grown (hs.ro r hr) hg (fun k hk e => hs.rx r hr k hk (hx k e)), hs.ds, hs.og, hs.rg, hs.rx, Nat.lt_of_lt_of_le hs.gs hg.size, hs.xg, fun k hk => Nat.lt_of_lt_of_le (hs.xs k hk) hg.size, hs.e0, hs.e1, hs.ll⟩
theorem HS.grown (hs : HS W G X h c) {row : Option Nat} (hg : W.grownBy W' row) (hx : ∀ k, row = some k → X k) : HS W' G X h c :=
  ⟨hs.r.grown hg hx, box_grown hs.k hs.r.gs hg (fun e => hs.r.xg (hx _ e.symm)), frz_grown hs.fz hs.r.gs hg (fun e => hs.r.xg (hx _ e.symm))⟩
theorem HR.move {B : Nat} (hs : HR W G X h c) (hB : X B) {a0 a1 a2 a3 a4 : Value} (hk : ∀ o, W.cell? ⟨B, o, none⟩ = (#[a0, a1, a2, a3, a4] : Array Value)[o]?) (hf : ∀ o, W.frozen? ⟨B, o, none⟩ = false) :
    HS (put5 W B (.slice c.az 2 c.cz) (.slice c.am 2 c.cm) (.int .i64 (h.cpus : Int)) (.slice c.al c.lc.length c.cl) (.slice c.av h.live.length c.cv)) B (fun k => X k ∧ k ≠ B) h c := by
  have h1 := ((((hs.far hB 0 (.slice c.az 2 c.cz)).far hB 1 (.slice c.am 2 c.cm)).far hB 2 (.int .i64 (h.cpus : Int))).far hB 3 (.slice c.al c.lc.length c.cl)).far hB 4 (.slice c.av h.live.length c.cv)
  have h2 := box_set (box_set (box_set (box_set (box_set hk 0 (.slice c.az 2 c.cz)) 1 (.slice c.am 2 c.cm)) 2 (.int .i64 (h.cpus : Int))) 3 (.slice c.al c.lc.length c.cl)) 4 (.slice c.av h.live.length c.cv)
  exact ⟨⟨h1.own, h1.ro, h1.ds, fun r hr k hk' => ⟨fun e => (h1.og r hr k hk').2 (by rw [e]; exact hB), fun e => (h1.og r hr k hk').2 e.1⟩, fun r hr e => h1.rx r hr B e hB, fun r hr k hk' e => h1.rx r hr k hk' e.1, h1.xs B hB, fun e => e.2 rfl, fun k hk' => h1.xs k hk'.1, h1.e0, h1.e1, h1.ll⟩, h2, frz_set (frz_set (frz_set (frz_set (frz_set hf _ _) _ _) _ _) _ _) _ _⟩
end

structure PS (w2 W : World) (N B : Nat) (h : Hp) (c : Hc) (aw : Option Addr) (na ca : Nat) (away : List Bk) : Prop where
  hs : HS W B (fun k => k < N ∨ (Value.slice aw na ca).ownBlock = some k) h c
  oa : W.ownsRow (B + 1) 40 3 (.slice aw na ca) na (flat encBk away)
  bw : Below N w2 W
  lo : N ≤ B
  bs : B < w2.heap.size
section
variable {w2 W W' : World} {N B : Nat} {h : Hp} {c : Hc} {aw : Option Addr} {na ca : Nat} {away : List Bk}
theorem PS.size (hp : PS w2 W N B h c aw na ca away) : B < W.heap.size := Nat.lt_of_lt_of_le hp.bs hp.bw.size
theorem PS.below (hp : PS w2 W N B h c aw na ca away) (hb : Below W.heap.size W W') : PS w2 W' N B h c aw na ca away :=
  ⟨hp.hs.below hb, own_below hp.oa hb (Nat.le_refl _), hp.bw.trans (hb.mono (Nat.le_of_lt (Nat.lt_of_le_of_lt hp.lo hp.size))), hp.lo, hp.bs⟩
/-- another row of blocks that are away -/
theorem PS.grown (hp : PS w2 W N B h c aw na ca away) (hg : W.grownBy W' (Value.slice aw na ca).ownBlock) {aw' : Option Addr} {na' ca' : Nat} {away' : List Bk} (ho : W'.ownsRow (B + 1) 40 3 (.slice aw' na' ca') na' (flat encBk away'))
    (hn : ∀ k, (Value.slice aw' na' ca').ownBlock = some k → (Value.slice aw na ca).ownBlock = some k ∨ W.heap.size ≤ k) : PS w2 W' N B h c aw' na' ca' away' := by
  have h1 := hp.hs.grown hg (fun k hk => .inr hk)
  have hlt := fun k hk => ho.lt k hk
  have hB := hp.size
  have hlo := hp.lo
  refine ⟨⟨⟨h1.r.own, h1.r.ro, h1.r.ds, fun r hr g hgr => ⟨(h1.r.og r hr g hgr).1, fun e => ?_⟩, h1.r.rg, fun r hr g hgr e => ?_, h1.r.gs, fun e => ?_, fun k hk => ?_, h1.r.e0, h1.r.e1, h1.r.ll⟩, h1.k, h1.fz⟩, ho, ?_, hlo, hp.bs⟩
  · rcases e with e | e
    · exact (h1.r.og r hr g hgr).2 (.inl e)
    · rcases hn g e with q | q
      · exact (h1.r.og r hr g hgr).2 (.inr q)
      · have := ((hp.hs.r.own.each r hr).lt g hgr).2; omega
  · rcases e with e | e
    · exact h1.r.rx r hr g hgr (.inl e)
    · rcases hn g e with q | q
      · exact h1.r.rx r hr g hgr (.inr q)
      · have := ((hp.hs.r.ro r hr).lt g hgr).2; omega
  · rcases e with e | e
    · omega
    · have := (hlt B e).1; omega
  · rcases hk with e | e
    · have := hg.size; omega
    · exact (hlt k e).2
  · exact hp.bw.grown hg (by omega) (fun k hk => by have := (hp.oa.lt k hk).1; omega)
/-- another heap, in new memory, comes into the box -/
theorem PS.put {h' : Hp} {c' : Hc} {M : Nat} (hp : PS w2 W N B h c aw na ca away) (hn : HNew W M h' c') (hN : B < M) (ha : ∀ k, (Value.slice aw na ca).ownBlock = some k → k < M) :
    PS w2 (put5 W B (.slice c'.az 2 c'.cz) (.slice c'.am 2 c'.cm) (.int .i64 (h'.cpus : Int)) (.slice c'.al c'.lc.length c'.cl) (.slice c'.av h'.live.length c'.cv)) N B h' c' aw na ca away := by
  have h1 := HR.move (B := B) hn hN hp.hs.k hp.hs.fz
  have nB := own_ne hp.oa (b := B) (.inl (by omega))
  have hlo := hp.lo
  refine ⟨h1.sub (fun k hk => ?_), own_set (own_set (own_set (own_set (own_set hp.oa nB _) nB _) nB _) nB _) nB _, Below.setCell (Below.setCell (Below.setCell (Below.setCell (Below.setCell hp.bw hlo _) hlo _) hlo _) hlo _) hlo _, hlo, hp.bs⟩
  rcases hk with e | e
  · exact ⟨by show k < M; omega, by omega⟩
  · exact ⟨ha k e, fun q => by subst q; exact nB e⟩
/-- the first heap -/
theorem PS.first {h' : Hp} {c' : Hc} {M : Nat} (hn : HNew W M h' c') (hM : N ≤ M) :
    PS (W.alloc (.cells #[.slice c'.az 2 c'.cz, .slice c'.am 2 c'.cm, .int .i64 (h'.cpus : Int), .slice c'.al c'.lc.length c'.cl, .slice c'.av h'.live.length c'.cv] 34)) (W.alloc (.cells #[.slice c'.az 2 c'.cz, .slice c'.am 2 c'.cm, .int .i64 (h'.cpus : Int), .slice c'.al c'.lc.length c'.cl, .slice c'.av h'.live.length c'.cv] 34)) N W.heap.size h' c' none 0 0 [] := by
  have h1 := HR.below hn (below_alloc W (.cells #[.slice c'.az 2 c'.cz, .slice c'.am 2 c'.cm, .int .i64 (h'.cpus : Int), .slice c'.al c'.lc.length c'.cl, .slice c'.av h'.live.length c'.cv] 34))
  have hMs : M < W.heap.size := hn.gs
  refine ⟨⟨⟨h1.own, h1.ro, h1.ds, fun r hr g hg => ⟨fun e => ?_, fun e => ?_⟩, fun r hr e => ?_, fun r hr g hg e => ?_, by simp, fun e => ?_, fun k hk => ?_, h1.e0, h1.e1, h1.ll⟩, box_new W _ _, box_frz W _ _⟩, ⟨rfl, .inl ⟨rfl, rfl⟩⟩, Below.refl _ _, by omega, by simp⟩
  · have := ((hn.own.each r hr).lt g hg).2; omega
  · rcases e with e | e
    · exact (hn.og r hr g hg).2 (Nat.lt_of_lt_of_le e hM)
    · cases e
  · have := ((hn.ro r hr).lt _ e).2; omega
  · rcases e with e | e
    · exact hn.rx r hr g hg (Nat.lt_of_lt_of_le e hM)
    · cases e
  · rcases e with e | e
    · omega
    · cases e
  · rcases hk with e | e
    · simp; omega
    · cases e
end
end Go.Proofs.YtjljcifpcljlaaaDoor
/- The heap, pure: what filling leaves, step by step; what is held back stays. -/
namespace Go.Proofs.YtjljcifpcljlaaaDoor
set_option linter.unusedVariables false
theorem held_same {h g : Hp} (hk : HOk h) (hg : HOk g) (hs : Same h g) (i : Nat) (u lo : Bool) : g.held i u lo = h.held i u lo := by
  have e1 : g.z1.f = h.z1.f := by rw [← hg.e0, ← hk.e0, hs.split]
  have e2 : g.z1.e = h.z1.e := by rw [hg.e1, hk.e1]
  unfold Hp.held Hp.min
  rw [e1, e2, hs.m0, hs.m1]
theorem HOk.fill_step {h h' : Hp} (hk : HOk h) {l : Ls} {hd a n : Nat} (hl : l.c < h.cpus ∧ l.z < 2 ∧ l.t < 3) (h8 : ∀ x ∈ h.ls, x.key = l.key → x.p.length + (n + 1) ≤ 8) (hn : n + 1 ≤ 8) (he : h.takeZ l.z 0 l.t hd = some (h', a)) :
    HOk h' ∧ HOk { h' with ls := pushL h'.ls l a } ∧ (∀ x ∈ pushL h'.ls l a, x.key = l.key → x.p.length + n ≤ 8) ∧ Same h { h' with ls := pushL h'.ls l a } := by
  obtain ⟨hT, hls, hz⟩ := hk.takeZ (by omega) hl.2.2 hl.2.1 he
  have hl' : l.c < h'.cpus ∧ l.z < 2 ∧ l.t < 3 := by rw [hT.same.cpus]; exact hl
  obtain ⟨g1, g2⟩ := hT.ok.push (l := l) (p := a) hl' ⟨hT.fit.2.2.1, by rw [hT.same.split]; exact hz⟩ (fun x hx hk => by rw [hls] at hx; have := h8 x hx hk; omega) (fun q => by rw [hT.c 0 q]; exact hk.one q)
  refine ⟨hT.ok, g1, fun x hx hkey => ?_, Same.trans hT.same ⟨rfl, rfl, rfl, rfl⟩⟩
  have := push_mem hT.ok.lk x hx hkey
  have h2 : lenL h'.ls l.key + (n + 1) ≤ 8 := by
    unfold lenL
    cases hf : h'.ls.find? fun x => decide (x.key = l.key) with
    | none => simp only; omega
    | some y =>
      have hy := List.mem_of_find?_eq_some hf
      have hyk := List.find?_some hf
      rw [hls] at hy
      exact h8 y hy (of_decide_eq_true hyk)
  omega
theorem hasL_true {ls : List Ls} {k : Nat} (h : hasL ls k = true) : ∃ hi : lbL ls k < ls.length, ls[lbL ls k].key = k := by
  unfold hasL at h
  cases he : ls[lbL ls k]? with
  | none => rw [he] at h; cases h
  | some x =>
    rw [he] at h
    obtain ⟨hi, hx⟩ := List.getElem?_eq_some_iff.1 he
    exact ⟨hi, by rw [hx]; simpa using h⟩
theorem hasL_false {ls : List Ls} {k : Nat} (h : hasL ls k = false) : ∀ y, ls[lbL ls k]? = some y → y.key ≠ k := fun y hy => by
  unfold hasL at h
  rw [hy] at h
  simpa using h
theorem single_there {h : Hp} {l : Ls} {hd : Nat} (hh : hasL h.ls l.key = true) (hi : lbL h.ls l.key < h.ls.length) : h.single l hd = some ({ h with ls := if h.ls[lbL h.ls l.key].p.length = 1 then h.ls.eraseIdx (lbL h.ls l.key) else h.ls.set (lbL h.ls l.key) { h.ls[lbL h.ls l.key] with p := h.ls[lbL h.ls l.key].p.dropLast } }, h.ls[lbL h.ls l.key].p.getLastD 0) := by
  obtain ⟨_, hx⟩ := hasL_true hh
  unfold Hp.single
  rw [List.getElem?_eq_getElem hi]
  simp only [hx, if_true]
theorem single_new {h : Hp} {l : Ls} {hd : Nat} (hh : hasL h.ls l.key = false) : h.single l hd = (h.takeZ l.z 0 l.t hd).map fun r => (r.1.fill l hd 3, r.2) := by
  have h1 := hasL_false hh
  unfold Hp.single
  cases he : h.ls[lbL h.ls l.key]? with
  | none => rfl
  | some x => simp only [h1 x he, if_false]
end Go.Proofs.YtjljcifpcljlaaaDoor
/- The heap, pure: draining, step by step. -/
namespace Go.Proofs.YtjljcifpcljlaaaDoor
set_option linter.unusedVariables false
theorem backAll_append : ∀ (a b : List Nat) (h : Hp), backAll h (a ++ b) = backAll (backAll h a) b
  | [], _, _ => rfl
  | p :: a, b, h => by rw [List.cons_append, backAll, backAll, backAll_append a b]
theorem drainL_append : ∀ (a b : List Ls) (h : Hp), drainL h (a ++ b) = drainL (drainL h a) b
  | [], _, _ => rfl
  | l :: a, b, h => by rw [List.cons_append, drainL, drainL, drainL_append a b]
theorem backAll_next (h : Hp) (l : List Nat) {j : Nat} (hj : j < l.length) : backAll h (l.take (j + 1)) = (backAll h (l.take j)).backB l[j] 0 := by
  rw [List.take_succ_eq_append_getElem hj, backAll_append]
  rfl
theorem drainL_next (h : Hp) (l : List Ls) {i : Nat} (hi : i < l.length) : drainL h (l.take (i + 1)) = backAll (drainL h (l.take i)) l[i].p := by
  rw [List.take_succ_eq_append_getElem hi, drainL_append]
  rfl
theorem back_ready {h : Hp} (hk : HOk h) {a o : Nat} (hb : fitsB 0 256 a o) (hd : ∀ p, cnt h.all p + hit ⟨a, o, 0⟩ p ≤ 1) : (h.zone (h.zof a)).ok ∧ fitsB (h.zone (h.zof a)).f (h.zone (h.zof a)).e a o ∧ ∀ x ∈ (h.zone (h.zof a)).l, apartB a o x :=
  ⟨hk.zone _, hk.fits hb, fun x hx => apart_of_disj fun p h1 h2 => by
    have g1 := hd p
    have g2 := zone_cnt h (h.zof a) p
    have g3 := cnt_pos.2 (show covL (h.zone (h.zof a)).l p from ⟨x, hx, h2⟩)
    have g4 : hit ⟨a, o, 0⟩ p = 1 := hit_one.2 h1
    omega⟩
theorem back_ready_ls {h : Hp} (hk : HOk h) {a o : Nat} (m : List Ls) (hb : fitsB 0 256 a o) (hd : ∀ p, cnt h.all p + hit ⟨a, o, 0⟩ p ≤ 1) : (({ h with ls := m } : Hp).zone (({ h with ls := m } : Hp).zof a)).ok ∧ fitsB (({ h with ls := m } : Hp).zone (({ h with ls := m } : Hp).zof a)).f (({ h with ls := m } : Hp).zone (({ h with ls := m } : Hp).zof a)).e a o ∧ ∀ x ∈ (({ h with ls := m } : Hp).zone (({ h with ls := m } : Hp).zof a)).l, apartB a o x := back_ready hk hb hd
theorem drain_ready {h : Hp} (hk : HOk h) {i : Nat} (hi : i < h.ls.length) {j : Nat} (hj : j < h.ls[i].p.length) :
    ((backAll (drainL h (h.ls.take i)) (h.ls[i].p.take j)).zone ((backAll (drainL h (h.ls.take i)) (h.ls[i].p.take j)).zof h.ls[i].p[j])).ok ∧ fitsB ((backAll (drainL h (h.ls.take i)) (h.ls[i].p.take j)).zone ((backAll (drainL h (h.ls.take i)) (h.ls[i].p.take j)).zof h.ls[i].p[j])).f ((backAll (drainL h (h.ls.take i)) (h.ls[i].p.take j)).zone ((backAll (drainL h (h.ls.take i)) (h.ls[i].p.take j)).zof h.ls[i].p[j])).e h.ls[i].p[j] 0 ∧ ∀ x ∈ ((backAll (drainL h (h.ls.take i)) (h.ls[i].p.take j)).zone ((backAll (drainL h (h.ls.take i)) (h.ls[i].p.take j)).zof h.ls[i].p[j])).l, apartB h.ls[i].p[j] 0 x := by
  have hp : ∀ l ∈ h.ls, ∀ p ∈ l.p, p < 256 := fun l hl p hp => ((hk.lr l hl).2.2.2.2.2 p hp).1
  have hc : ∀ q, cnt ({ h with ls := [] } : Hp).all q + cnt (lsB h.ls) q = cnt h.all q := fun q => by
    rw [cnt_all, cnt_all]
    simp only [lsB, cnt]
    omega
  have hsp : ∀ q, cnt (lsB h.ls) q = cnt (lsB (h.ls.take i)) q + cnt (pgs h.ls[i].p) q + cnt (lsB (h.ls.drop (i + 1))) q := fun q => by
    have h1 := split_at hi
    have h2 : cnt (lsB h.ls) q = cnt (lsB (h.ls.take i ++ h.ls[i] :: h.ls.drop (i + 1))) q := congrArg (fun l => cnt (lsB l) q) h1
    rw [cnt_lsB_app, cnt_lsB_cons] at h2
    omega
  have hpp : ∀ q, cnt (pgs h.ls[i].p) q = cnt (pgs (h.ls[i].p.take j)) q + hit ⟨h.ls[i].p[j], 0, 0⟩ q + cnt (pgs (h.ls[i].p.drop (j + 1))) q := fun q => by
    have h1 : h.ls[i].p = h.ls[i].p.take j ++ ([h.ls[i].p[j]] ++ h.ls[i].p.drop (j + 1)) := by
      rw [List.singleton_append, List.getElem_cons_drop, List.take_append_drop]
    have h2 : cnt (pgs h.ls[i].p) q = cnt (pgs (h.ls[i].p.take j ++ ([h.ls[i].p[j]] ++ h.ls[i].p.drop (j + 1)))) q := congrArg (fun l => cnt (pgs l) q) h1
    rw [cnt_pgs_append, cnt_pgs_append, cnt_pgs_one] at h2
    omega
  obtain ⟨a1, a2, a3, a4, a5⟩ := hk.noLists.drainL (h.ls.take i) (fun l hl p hx => hp l (List.mem_of_mem_take hl) p hx) (fun q => by have h1 := hc q; have h2 := hsp q; have h3 := hk.one q; omega)
  obtain ⟨b1, b2, b3, b4, b5⟩ := a1.backAll (h.ls[i].p.take j) (fun p hx => hp _ (List.getElem_mem hi) p (List.mem_of_mem_take hx)) (fun q => by rw [a2]; have h1 := hc q; have h2 := hsp q; have h3 := hk.one q; have h4 := hpp q; omega)
  have e : backAll (drainL h (h.ls.take i)) (h.ls[i].p.take j) = { backAll (drainL { h with ls := [] } (h.ls.take i)) (h.ls[i].p.take j) with ls := h.ls } := by
    rw [← backAll_ls, ← drainL_ls]
  rw [e]
  exact back_ready_ls b1 h.ls (fits_page (hp _ (List.getElem_mem hi) _ (List.getElem_mem hj))) (fun q => by rw [b2, a2]; have h1 := hc q; have h2 := hsp q; have h3 := hk.one q; have h4 := hpp q; omega)
theorem drainL_all (h : Hp) (l : List Ls) : (drainL h l).ls = h.ls ∧ (drainL h l).live = h.live := by
  have hB : ∀ (g : Hp) (a o : Nat), (g.backB a o).ls = g.ls ∧ (g.backB a o).live = g.live := fun g a o => by
    unfold Hp.backB Hp.setZ
    split <;> exact ⟨rfl, rfl⟩
  have hA : ∀ (ps : List Nat) (g : Hp), (backAll g ps).ls = g.ls ∧ (backAll g ps).live = g.live := by
    intro ps
    induction ps with
    | nil => intro g; exact ⟨rfl, rfl⟩
    | cons p ps ih => intro g; rw [backAll]; exact ⟨(ih _).1.trans (hB g p 0).1, (ih _).2.trans (hB g p 0).2⟩
  induction l generalizing h with
  | nil => exact ⟨rfl, rfl⟩
  | cons x l ih => rw [drainL]; exact ⟨(ih _).1.trans (hA _ _).1, (ih _).2.trans (hA _ _).2⟩
end Go.Proofs.YtjljcifpcljlaaaDoor
/- What is held back of a zone stays free. No program in sight. -/
namespace Go.Proofs.YtjljcifpcljlaaaDoor
set_option linter.unusedVariables false
theorem sumTo_le {f g : Nat → Nat} : ∀ {n : Nat}, (∀ p, p < n → f p ≤ g p) → sumTo f n ≤ sumTo g n
  | 0, _ => Nat.le_refl _
  | n + 1, h => by
    have h1 := sumTo_le (n := n) (fun p hp => h p (by omega))
    have h2 := h n (by omega)
    simp only [sumTo]
    omega
theorem szB_sum {z : Zn} (hz : z.ok) : szB z.l = sumTo (cnt z.l) 256 := by
  refine (sumTo_cnt fun b hb => ?_).symm
  have h2 := (hz.2.fit b hb).1
  have h3 := fits_end hz.1.e16 h2
  have h4 := hz.1.e2
  unfold Bk.fin
  omega
theorem szB_back {z : Zn} (hz : z.ok) {a o : Nat} (hb : fitsB z.f z.e a o) (hd : ∀ x ∈ z.l, apartB a o x) : szB z.l ≤ szB (z.back a o).l := by
  rw [szB_sum hz, szB_sum (Zn.back_ok hz hb hd).1]
  exact sumTo_le fun p _ => by rw [cnt_back hz hb hd 0 p]; omega
theorem szB_take {z z' : Zn} {order a : Nat} (hz : z.ok) (ht : Taken z order z' a) : szB z'.l + 2 ^ order = szB z.l := by
  have h1 := szB_sum hz
  have h2 := szB_sum ht.ok
  have h3 := sumTo_add (cnt z'.l) (hit ⟨a, order, 0⟩) 256
  have h4 := sumTo_hit ⟨a, order, 0⟩ 256
  have h5 : sumTo (fun p => cnt z'.l p + hit ⟨a, order, 0⟩ p) 256 = sumTo (cnt z.l) 256 := sumTo_congr fun p _ => cnt_take hz ht 0 p
  have h6 := fits_end hz.1.e16 ht.fit
  have h7 := hz.1.e2
  have h8 := pow_pos' order
  unfold Bk.fin at h4
  simp only at h4
  generalize 2 ^ order = P at *
  omega
def ZK (h : Hp) : Prop := ∀ i, i < 2 → (h.zone i).ok
def HeldAt (m : Nat → Nat) (h : Hp) : Prop := ∀ i, i < 2 → m i ≤ szB (h.zone i).l
theorem HOk.zk {h : Hp} (hk : HOk h) : ZK h := fun i _ => hk.zone i
theorem zone_setZ (h : Hp) (i k : Nat) (z : Zn) (hi : i < 2) (hk : k < 2) : (h.setZ i z).zone k = if k = i then z else h.zone k := by
  unfold Hp.setZ Hp.zone
  rcases (show i = 0 ∨ i = 1 by omega) with rfl | rfl
  · rcases (show k = 0 ∨ k = 1 by omega) with rfl | rfl <;> simp
  · rcases (show k = 0 ∨ k = 1 by omega) with rfl | rfl <;> simp
theorem takeZ_held {m : Nat → Nat} {h h' : Hp} {i order t hd a : Nat} (hz : ZK h) (hh : HeldAt m h) (ho : order ≤ 4) (ht : t < 3) (hi : i < 2) (hm : m i ≤ hd) (he : h.takeZ i order t hd = some (h', a)) : ZK h' ∧ HeldAt m h' := by
  unfold Hp.takeZ at he
  split at he
  · cases he
  · rename_i hsz
    cases hq : (h.zone i).take order t with
    | none => rw [hq] at he; cases he
    | some r =>
      obtain ⟨z', a'⟩ := r
      rw [hq] at he
      simp only [Option.some.injEq, Prod.mk.injEq] at he
      obtain ⟨rfl, rfl⟩ := he
      have hex : ∃ b ∈ (h.zone i).l, order ≤ b.o := Classical.byContradiction fun hn => by
        rw [Zn.take_none hn] at hq; cases hq
      obtain ⟨z2, a2, h1, hT⟩ := Zn.take_some (hz i hi) ho ht hex
      rw [hq] at h1
      simp only [Option.some.injEq, Prod.mk.injEq] at h1
      obtain ⟨rfl, rfl⟩ := h1
      have hs := szB_take (hz i hi) hT
      refine ⟨fun k hk => ?_, fun k hk => ?_⟩
      · rw [zone_setZ h i k _ hi hk]
        split
        · exact hT.ok
        · exact hz k hk
      · rw [zone_setZ h i k _ hi hk]
        split
        · rename_i e
          subst e
          omega
        · exact hh k hk
theorem fill_held {m : Nat → Nat} {l : Ls} {hd : Nat} (hl : l.z < 2 ∧ l.t < 3) (hm : m l.z ≤ hd) : ∀ (n : Nat) {h : Hp}, ZK h → HeldAt m h → ZK (h.fill l hd n) ∧ HeldAt m (h.fill l hd n)
  | 0, h, hz, hh => ⟨hz, hh⟩
  | n + 1, h, hz, hh => by
    unfold Hp.fill
    cases he : h.takeZ l.z 0 l.t hd with
    | none => exact ⟨hz, hh⟩
    | some r =>
      obtain ⟨h', q⟩ := r
      obtain ⟨g1, g2⟩ := takeZ_held hz hh (by omega) hl.2 hl.1 hm he
      exact fill_held hl hm n (h := { h' with ls := pushL h'.ls l q }) g1 g2
theorem single_held {m : Nat → Nat} {h h' : Hp} {l : Ls} {hd a : Nat} (hz : ZK h) (hh : HeldAt m h) (hl : l.z < 2 ∧ l.t < 3) (hm : m l.z ≤ hd) (he : h.single l hd = some (h', a)) : ZK h' ∧ HeldAt m h' := by
  have hf : ∀ {r : Option (Hp × Nat)}, ((h.takeZ l.z 0 l.t hd).map fun r => (r.1.fill l hd 3, r.2)) = r → r = some (h', a) → ZK h' ∧ HeldAt m h' := by
    rintro r e rfl
    cases ht : h.takeZ l.z 0 l.t hd with
    | none => rw [ht] at e; cases e
    | some x =>
      rw [ht] at e
      simp only [Option.map_some, Option.some.injEq, Prod.mk.injEq] at e
      obtain ⟨rfl, rfl⟩ := e
      obtain ⟨g1, g2⟩ := takeZ_held hz hh (by omega) hl.2 hl.1 hm ht
      exact fill_held hl hm 3 g1 g2
  unfold Hp.single at he
  cases hx : h.ls[lbL h.ls l.key]? with
  | none => rw [hx] at he; exact hf rfl he
  | some x =>
    rw [hx] at he
    simp only at he
    split at he
    · simp only [Option.some.injEq, Prod.mk.injEq] at he
      obtain ⟨rfl, rfl⟩ := he
      exact ⟨hz, hh⟩
    · exact hf rfl he
theorem ask_held {m : Nat → Nat} {h h' : Hp} {cpu i order t a : Nat} {low : Bool} (hz : ZK h) (hh : HeldAt m h) (hi : i < 2) (ho : order ≤ 4) (ht : t < 3) (hm : ∀ i, m i ≤ h.min i) (he : h.ask cpu i order t false low = some (h', a)) : ZK h' ∧ HeldAt m h' := by
  have hmh : m i ≤ h.held i false low := by
    have := hm i
    unfold Hp.held
    simp
    omega
  unfold Hp.ask at he
  split at he
  · exact single_held (l := ⟨cpu, i, t, []⟩) hz hh ⟨hi, ht⟩ hmh he
  · exact takeZ_held hz hh ho ht hi hmh he
theorem attempt_held {m : Nat → Nat} {h h' : Hp} {cpu order t a : Nat} {low : Bool} (hz : ZK h) (hh : HeldAt m h) (ho : order ≤ 4) (ht : t < 3) (hm : ∀ i, m i ≤ h.min i) (he : h.attempt cpu order t false low = some (h', a)) : ZK h' ∧ HeldAt m h' := by
  unfold Hp.attempt at he
  split at he
  · exact ask_held hz hh (by omega) ho ht hm he
  · cases h1 : h.ask cpu 1 order t false low with
    | some r => rw [h1] at he; obtain rfl : r = (h', a) := by simpa using he
                exact ask_held hz hh (by omega) ho ht hm h1
    | none => rw [h1] at he; exact ask_held hz hh (by omega) ho ht hm he
theorem backB_held {m : Nat → Nat} {h : Hp} {a o : Nat} (hk : HOk h) (hh : HeldAt m h) (hb : fitsB 0 256 a o) (hd : ∀ p, cnt h.all p + hit ⟨a, o, 0⟩ p ≤ 1) : HeldAt m (h.backB a o) := fun i hi => by
  obtain ⟨g1, g2, g3⟩ := back_ready hk hb hd
  have hz : h.zof a < 2 := by unfold Hp.zof; split <;> omega
  unfold Hp.backB
  rw [zone_setZ h _ i _ hz hi]
  split
  · rename_i e
    subst e
    exact Nat.le_trans (hh _ hi) (szB_back g1 g2 g3)
  · exact hh i hi
theorem backAll_held {m : Nat → Nat} : ∀ (ps : List Nat) {h : Hp}, HOk h → HeldAt m h → (∀ p ∈ ps, p < 256) → (∀ q, cnt h.all q + cnt (pgs ps) q ≤ 1) → HeldAt m (backAll h ps)
  | [], h, hk, hh, _, _ => hh
  | p :: ps, h, hk, hh, hp, hd => by
    have hd1 : ∀ q, cnt h.all q + hit ⟨p, 0, 0⟩ q ≤ 1 := fun q => by have := hd q; simp only [pgs, List.map_cons, cnt] at this; omega
    obtain ⟨k1, k2, k3, k4, k5⟩ := hk.backB (fits_page (hp p (by simp))) hd1
    exact backAll_held ps k1 (backB_held hk hh (fits_page (hp p (by simp))) hd1) (fun q hq => hp q (by simp [hq])) (fun q => by rw [k2]; have := hd q; simp only [pgs, List.map_cons, cnt] at this ⊢; omega)
theorem drainL_held {m : Nat → Nat} : ∀ (ls : List Ls) {h : Hp}, HOk h → HeldAt m h → (∀ l ∈ ls, ∀ p ∈ l.p, p < 256) → (∀ q, cnt h.all q + cnt (lsB ls) q ≤ 1) → HeldAt m (drainL h ls)
  | [], h, hk, hh, _, _ => hh
  | l :: ls, h, hk, hh, hp, hd => by
    have hd1 : ∀ q, cnt h.all q + cnt (pgs l.p) q ≤ 1 := fun q => by have := hd q; rw [cnt_lsB_cons] at this; omega
    obtain ⟨k1, k2, k3, k4, k5⟩ := hk.backAll l.p (hp l (by simp)) hd1
    exact drainL_held ls k1 (backAll_held l.p hk hh (hp l (by simp)) hd1) (fun x hx => hp x (by simp [hx])) (fun q => by rw [k2]; have := hd q; rw [cnt_lsB_cons] at this; omega)
theorem drain_held {m : Nat → Nat} {h : Hp} (hk : HOk h) (hh : HeldAt m h) : HeldAt m h.drain := by
  have h1 := drainL_held h.ls (h := { h with ls := [] }) hk.noLists hh (fun l hl p hp => ((hk.lr l hl).2.2.2.2.2 p hp).1) (fun q => by
    have := hk.one q
    rw [cnt_all] at this ⊢
    simp only [lsB, cnt]
    omega)
  rw [drainL_ls h.ls h []] at h1
  exact h1
theorem alloc_held {m : Nat → Nat} {h h' : Hp} {cpu order t a : Nat} {low : Bool} (hk : HOk h) (hh : HeldAt m h) (ho : order ≤ 4) (ht : t < 3) (hm : ∀ i, m i ≤ h.min i) (he : h.alloc cpu order t false low = some (h', a)) : HeldAt m h' := by
  unfold Hp.alloc at he
  cases h1 : h.attempt cpu order t false low with
  | some r =>
    rw [h1] at he
    simp only [Option.some.injEq, Prod.mk.injEq] at he
    obtain ⟨rfl, rfl⟩ := he
    exact (attempt_held hk.zk hh ho ht hm h1).2
  | none =>
    rw [h1] at he
    simp only at he
    cases h2 : h.drain.attempt cpu order t false low with
    | none => rw [h2] at he; cases he
    | some r =>
      rw [h2] at he
      simp only [Option.some.injEq, Prod.mk.injEq] at he
      obtain ⟨rfl, rfl⟩ := he
      obtain ⟨d1, d2, d3, d4, d5⟩ := hk.drain
      have hmd : ∀ i, m i ≤ h.drain.min i := fun i => by
        have := hm i
        unfold Hp.min at this ⊢
        rw [d3.m0, d3.m1]
        exact this
      exact (attempt_held d1.zk (drain_held hk hh) ho ht hmd h2).2
end Go.Proofs.YtjljcifpcljlaaaDoor
/- Contracts of package pages: held. -/
namespace Go.Proofs.YtjljcifpcljlaaaDoor
open Go.RowKit
set_option linter.unusedVariables false

theorem and_bits : ∀ f : Nat, f ≤ 15 → (bits .and .i64 (f : Int) 8 = if f / 8 % 2 = 1 then 8 else 0) ∧ (bits .and .i64 (f : Int) 1 = if f % 2 = 1 then 1 else 0) := by decide +kernel

set_option maxHeartbeats 2000000 in
set_option maxRecDepth 100000 in
theorem held_pg (az am al av : Option Addr) (cz cm cl cv nl nv : Nat) (y0 y1 : Zc) (lc : List Lc) (h : Hp) (i flags : Nat) (w : World) (hh : HAt w az am al av nl nv y0 y1 lc h) (hk : HOk h) (hi : i < 2) (hf : flags ≤ 15) :
    Calls Tryd.prog 75 #[.agg #[.slice az 2 cz, .slice am 2 cm, .int .i64 h.cpus, .slice al nl cl, .slice av nv cv], .int .i64 i, .int .i64 flags] w fun ev w' => ev = .returned (.int .i64 (h.held i (decide (flags / 8 % 2 = 1)) (decide (flags % 2 = 1)) : Nat)) ∧ Below w.heap.size w w' := by
  have hb := below_alloc w (.cells #[.slice az 2 cz, .slice am 2 cm, .int .i64 (h.cpus : Int), .slice al nl cl, .slice av nv cv] 34)
  obtain ⟨bb, off, ha1, hbb, hc⟩ := row_elem encZc_length (by decide) (hh.zr.below hb) (j := 1) (by simp)
  obtain rfl := ha1
  obtain ⟨hc0, hc1, hc2, hc3⟩ := encZc_cells hc
  obtain ⟨mb, moff, ha2, hmb, hmc⟩ := row_elem encT_length (by decide) (hh.mr.below hb) (j := i) (by simpa using hi)
  obtain rfl := ha2
  have hm0 := encT_cells hmc
  rw [Nat.mul_one] at hm0
  have hmin : ([h.m0, h.m1] : List Nat)[i]'(by simpa using hi) = h.min i := by
    unfold Hp.min
    obtain rfl | rfl : i = 0 ∨ i = 1 := by omega
    · rfl
    · rfl
  rw [hmin] at hm0
  have he := hh.e1
  simp only [List.getElem_cons_zero, List.getElem_cons_succ] at hc0 hc1 hc2 hc3
  rw [he] at hc0 hc1
  have hm256 : h.min i ≤ 256 := by unfold Hp.min; have := hk.m0; have := hk.m1; split <;> omega
  have hz1 := hk.e1
  have hz2 := hk.o1.1.fe
  have hz3 : h.z1.f ≤ 256 := by omega
  obtain ⟨hb8, hb1⟩ := and_bits flags hf
  have HHD : Hid (∀ u lo : Bool, h.held i u lo = (if u then h.min i / 2 else h.min i) + (if i = 0 ∧ lo = false then (h.z1.e - h.z1.f) / 32 else 0)) := fun _ _ => rfl
  clear hh hc hmc hmin he
  generalize h.min i = m at *
  have hi2 : (i : Int) < 2 := by omega
  have hdx : ((h.z1.e : Int) - h.z1.f) / 32 = (((h.z1.e - h.z1.f) / 32 : Nat) : Int) := by omega
  have hdn : (0 : Int) ≤ (h.z1.e : Int) - h.z1.f := by omega
  have hd8 : (h.z1.e - h.z1.f) / 32 ≤ 8 := by omega
  have hdc : (((h.z1.e - h.z1.f) / 32 : Nat) : Int) = ((h.z1.e : Int) - h.z1.f) / 32 := hdx.symm
  clear hdx
  obtain ⟨D, hD⟩ : ∃ D, (h.z1.e - h.z1.f) / 32 = D := ⟨_, rfl⟩
  rw [hD] at hdc hd8
  have HD := Hid.mk hD
  clear hD
  -- the four ways: urgent or not, the first zone without the flag or else
  obtain ⟨n, hn⟩ : ∃ n, (if flags / 8 % 2 = 1 then m / 2 else m) = n := ⟨_, rfl⟩
  have hn256 : n ≤ 256 := by rw [← hn]; split <;> omega
  have hmain : Calls Tryd.prog 75 #[.agg #[.slice (some ⟨bb, off, none⟩) 2 cz, .slice (some ⟨mb, moff, none⟩) 2 cm, .int .i64 h.cpus, .slice al nl cl, .slice av nv cv], .int .i64 i, .int .i64 flags] w fun ev w' => ev = .returned (.int .i64 ((n + if i = 0 ∧ ¬ flags % 2 = 1 then D else 0 : Nat) : Int)) ∧ Below w.heap.size w w' := by
    have hq : (if flags / 8 % 2 = 1 then (m : Int) / 2 else (m : Int)) = (n : Int) := by rw [← hn]; split <;> omega
    by_cases h8 : flags / 8 % 2 = 1
    · rw [if_pos h8] at hb8 hq
      by_cases hi0 : i = 0
      · subst hi0
        rw [Nat.add_zero] at hm0
        by_cases h1 : flags % 2 = 1
        · rw [if_pos h1] at hb1
          rw [if_neg (by simp [h1])]
          go_enter Tryd.func75, Tryd.ntmps75
          go_wp2
          go_ret
          exact ⟨ret_int (by simp), hb⟩
        · rw [if_neg h1] at hb1
          rw [if_pos ⟨rfl, h1⟩]
          go_enter Tryd.func75, Tryd.ntmps75
          go_wp2_with fail
          go_quiet (fail)
          go_wp2
          go_ret
          exact ⟨ret_int (by have h9 := hdc; rw [hz1] at h9; omega), below_drewN hb _⟩
      · have hi0' : ((i : Int) == 0) = false := by rw [beq_eq_false_iff_ne]; omega
        rw [if_neg (fun h => hi0 h.1)]
        go_enter Tryd.func75, Tryd.ntmps75
        go_wp2
        go_ret
        exact ⟨ret_int (by simp), hb⟩
    · rw [if_neg h8] at hb8 hq
      by_cases hi0 : i = 0
      · subst hi0
        rw [Nat.add_zero] at hm0
        by_cases h1 : flags % 2 = 1
        · rw [if_pos h1] at hb1
          rw [if_neg (by simp [h1])]
          go_enter Tryd.func75, Tryd.ntmps75
          go_wp2
          go_ret
          exact ⟨ret_int (by simp), hb⟩
        · rw [if_neg h1] at hb1
          rw [if_pos ⟨rfl, h1⟩]
          go_enter Tryd.func75, Tryd.ntmps75
          go_wp2_with fail
          go_quiet (fail)
          go_wp2
          go_ret
          exact ⟨ret_int (by have h9 := hdc; rw [hz1] at h9; omega), below_drewN hb _⟩
      · have hi0' : ((i : Int) == 0) = false := by rw [beq_eq_false_iff_ne]; omega
        rw [if_neg (fun h => hi0 h.1)]
        go_enter Tryd.func75, Tryd.ntmps75
        go_wp2
        go_ret
        exact ⟨ret_int (by simp), hb⟩
  have hfin := HHD.out (decide (flags / 8 % 2 = 1)) (decide (flags % 2 = 1))
  rw [hfin]
  have e : (if decide (flags / 8 % 2 = 1) = true then m / 2 else m) + (if i = 0 ∧ decide (flags % 2 = 1) = false then (h.z1.e - h.z1.f) / 32 else 0) = n + (if i = 0 ∧ ¬ flags % 2 = 1 then D else 0) := by
    rw [HD.out, ← hn]
    congr 1
    · simp only [decide_eq_true_eq]
    · simp only [decide_eq_false_iff_not]
  rw [e]
  exact hmain
end Go.Proofs.YtjljcifpcljlaaaDoor
/- Contracts of package pages: live. -/
namespace Go.Proofs.YtjljcifpcljlaaaDoor
open Go.RowKit
set_option linter.unusedVariables false

theorem cmp_live (b : Bk) (p : Nat) (w : World) (ha : b.a ≤ 1000) (hp : p ≤ 1000) :
    Calls Tryd.prog 67 #[.agg #[.int .i64 b.a, .int .i64 b.o, .int .i64 b.t], .int .i64 p] w fun e w' => e = .returned (.int .i64 ((b.a : Int) - p)) ∧ Below w.heap.size w w' := by
  go_enter Tryd.func67, Tryd.ntmps67
  go_wp2
  go_ret
  exact ⟨rfl, below_alloc _ _⟩

set_option maxRecDepth 100000 in
theorem search_live (a : Option Addr) (n cap : Nat) (l : List Bk) (p : Nat) (w : World) (hn : l.length = n) (hl : n ≤ 1000) (hr : Row w a (flat encBk l)) (hrise : Rise l) (ha : ∀ b ∈ l, b.a ≤ 1000) (hp : p ≤ 1000) :
    Calls Tryd.prog 66 #[.slice a n cap, .int .i64 p, .func (.func 67) #[] #[]] w fun e w' => e = .returned (.tuple #[.int .i64 (lb l p : Int), .bool (hasB l p)]) ∧ Below w.heap.size w w' := by
  subst hn
  have hle := lb_le l p
  have eg : ∀ args w, (callFunc 67 args).run Tryd.prog w = .ok (.enter 67 args) w := enters_of Tryd.func67 (by kernel_rfl) rfl
  go_enter Tryd.func66, Tryd.ntmps66
  go_wp2
  go_loopw [9, 10, 11] (fun s9 s10 _ wr => ∃ i j : Nat, i ≤ lb l p ∧ lb l p ≤ j ∧ j ≤ l.length ∧ s9 = .int .i64 i ∧ s10 = .int .i64 j ∧ Below w.heap.size w wr) (fun s9 s10 _ _ => (intOf s10).toNat - (intOf s9).toNat)
  case atStart => exact ⟨0, l.length, Nat.zero_le _, hle, Nat.le_refl _, rfl, rfl, Below.refl _ _⟩
  case round =>
    obtain ⟨i, j, h1, h2, h3, rfl, rfl, hb3⟩ := hrel
    by_cases hlt : i < j
    · have hhl : (i + j) / 2 < l.length := by omega
      have hiff := Hid.mk (lb_iff hrise (a := p) hhl)
      obtain ⟨b, off, rfl, hb, hc⟩ := row_elem encBk_length (by decide) (hr.below hb3) hhl
      obtain ⟨hc0, hc1, hc2⟩ := encBk_cells hc
      have hal := ha _ (List.getElem_mem hhl)
      clear hr hc
      generalize l[(i + j) / 2] = y at *
      go_wp2_with fail
      refine (cmp_live y p _ hal hp).mono ?_
      rintro e w1 ⟨rfl, hb1⟩
      have hb4 := Below.step hb3 hb1
      clear hc0 hc1 hc2
      by_cases hlt2 : y.a < p
      · have h4 := hiff.out.2 hlt2
        have h5 : (y.a : Int) - p < 0 := by omega
        go_wp2
        go_roundw
        case rel => exact ⟨(i + j) / 2 + 1, j, by omega, h2, h3, by go_num, rfl, hb4⟩
        case measure => simp [intOf]; omega
      · have h4 : ¬ (i + j) / 2 < lb l p := fun h => hlt2 (hiff.out.1 h)
        have h5 : ¬ (y.a : Int) - p < 0 := by omega
        go_wp2
        go_roundw
        case rel => exact ⟨i, (i + j) / 2, h1, by omega, by omega, rfl, by go_num, hb4⟩
        case measure => simp [intOf]; omega
    · obtain rfl : i = lb l p := by omega
      have hkk : (lb l p : Int) ≤ l.length := by omega
      by_cases hk : lb l p < l.length
      · obtain ⟨b, off, rfl, hb, hc⟩ := row_elem encBk_length (by decide) (hr.below hb3) hk
        obtain ⟨hc0, hc1, hc2⟩ := encBk_cells hc
        have hal := ha _ (List.getElem_mem hk)
        have hat := Hid.mk (hasB_at hrise (a := p) hk)
        have hk2 : (lb l p : Int) < l.length := by omega
        clear hr hc
        generalize l[lb l p] = y at *
        generalize hK0 : lb l p = K at *
        have HK := Hid.mk hK0
        clear hK0
        go_wp2_with fail
        refine (cmp_live y p _ hal hp).mono ?_
        rintro e w1 ⟨rfl, hb1⟩
        have hb4 := Below.step hb3 hb1
        clear hc0 hc1 hc2
        by_cases hy : y.a = p
        · have h5 : ((y.a : Int) - p == 0) = true := by rw [beq_iff_eq]; omega
          go_wp2
          go_ret2
          refine ⟨?_, hb4⟩
          rw [hat.out, HK.out, decide_eq_true hy]; rfl
        · have h5 : ((y.a : Int) - p == 0) = false := by rw [beq_eq_false_iff_ne]; omega
          go_wp2
          go_ret2
          refine ⟨?_, hb4⟩
          rw [hat.out, HK.out, decide_eq_false hy]; rfl
      · have hat := Hid.mk (hasB_end hrise (a := p) (by omega))
        have hk2 : ¬ (lb l p : Int) < l.length := by omega
        clear hr
        generalize hK0 : lb l p = K at *
        have HK := Hid.mk hK0
        clear hK0
        go_wp2
        go_ret2
        refine ⟨?_, hb3⟩
        rw [hat.out, HK.out]; rfl

theorem live_pg (az am al av : Option Addr) (cz cm cl cv nl nv : Nat) (y0 y1 : Zc) (lc : List Lc) (h : Hp) (p : Nat) (w : World) (hh : HAt w az am al av nl nv y0 y1 lc h) (hk : HOk h) (hnv : nv ≤ 1000) (hp : p ≤ 1000) :
    Calls Tryd.prog 43 #[.agg #[.slice az 2 cz, .slice am 2 cm, .int .i64 h.cpus, .slice al nl cl, .slice av nv cv], .int .i64 p] w fun ev w' => ev = .returned (.tuple #[.int .i64 (lb h.live p : Nat), .bool (hasB h.live p)]) ∧ Below w.heap.size w w' := by
  have hb := below_alloc w (.cells #[.slice az 2 cz, .slice am 2 cm, .int .i64 (h.cpus : Int), .slice al nl cl, .slice av nv cv] 34)
  have hr := (hh.below hb).vr
  have hn := hh.nv
  have hal : ∀ b ∈ h.live, b.a ≤ 1000 := fun b hb => by have := (hk.lv b hb).1.2.2.1; omega
  clear hh
  go_enter Tryd.func43, Tryd.ntmps43
  go_wp2_with fail
  refine (search_live _ _ _ h.live p _ hn hnv hr hk.vs hal hp).mono ?_
  rintro ev w' ⟨rfl, hb'⟩
  go_wp2
  go_ret2
  exact ⟨rfl, Below.step hb hb'⟩
end Go.Proofs.YtjljcifpcljlaaaDoor
/- Contracts of package pages: list. -/
namespace Go.Proofs.YtjljcifpcljlaaaDoor
open Go.RowKit
set_option linter.unusedVariables false

theorem lbL_iff {l : List Ls} (h : RiseL l) {a k : Nat} (hk : k < l.length) : k < lbL l a ↔ l[k].key < a := by
  constructor
  · intro hlt
    exact lbL_below _ (List.mem_take_iff_getElem.2 ⟨k, by omega, rfl⟩)
  · intro hlt
    rcases Nat.lt_or_ge k (lbL l a) with h1 | h1
    · exact h1
    · have := lbL_above h (k := a) l[k] (List.mem_drop_iff_getElem.2 ⟨k - lbL l a, by omega, by congr 1; omega⟩)
      omega

set_option maxHeartbeats 4000000 in
set_option maxRecDepth 100000 in
theorem list_gen (az am al av : Option Addr) (cz cm cl cv nl nv : Nat) (y0 y1 : Zc) (lc : List Lc) (h : Hp) (l : Ls) (x : Option Addr) (kx dx : Nat) (w : World) (hh : HAt w az am al av nl nv y0 y1 lc h) (hrs : RiseL h.ls) (hzt0 : ∀ y ∈ h.ls, y.z < 2 ∧ y.t < 3) (hl : l.z < 2 ∧ l.t < 3) (hnl : nl ≤ 1000) :
    Calls Tryd.prog 50 #[.agg #[.slice az 2 cz, .slice am 2 cm, .int .i64 h.cpus, .slice al nl cl, .slice av nv cv], .agg #[.int .i64 l.c, .int .i64 l.z, .int .i64 l.t, .slice x kx dx]] w fun ev w' => ev = .returned (.tuple #[.int .i64 (lbL h.ls l.key : Nat), .bool (hasL h.ls l.key)]) ∧ Below w.heap.size w w' := by
  obtain ⟨K2, K3, F2, F3, hsz, hbw⟩ := boxes2 w #[.slice az 2 cz, .slice am 2 cm, .int .i64 (h.cpus : Int), .slice al nl cl, .slice av nv cv] 34 #[.int .i64 (l.c : Int), .int .i64 (l.z : Int), .int .i64 (l.t : Int), .slice x kx dx] 66
  have HR := Hid.mk (hh.below hbw).lr
  have hlen : lc.length = nl := hh.nl
  have hll := hh.ll
  have hlsl : h.ls.length = nl := by rw [← hll, List.length_map, hlen]
  have hle := lbL_le h.ls l.key
  have HRISE : Hid (RiseL h.ls) := hrs
  have HLR := Hid.mk hzt0
  have HLL := Hid.mk hll
  clear hh hrs hzt0 hll
  go_enter Tryd.func50, Tryd.ntmps50
  go_wp2
  generalize (w.alloc (.cells #[.slice az 2 cz, .slice am 2 cm, .int .i64 (h.cpus : Int), .slice al nl cl, .slice av nv cv] 34)).alloc (.cells #[.int .i64 (l.c : Int), .int .i64 (l.z : Int), .int .i64 (l.t : Int), .slice x kx dx] 66) = w0 at *
  go_loopw [6] (fun s6 wr => ∃ i : Nat, i ≤ lbL h.ls l.key ∧ s6 = .int .i64 (i : Int) ∧ Hid (Below w0.heap.size w0 wr)) (fun s6 _ => nl - (intOf s6).toNat)
  case atStart => exact ⟨0, Nat.zero_le _, rfl, Below.refl _ _⟩
  case round =>
    obtain ⟨i, hi, rfl, hb⟩ := hrel
    have K2r := box_step K2 (by omega) hb.out
    have K3r := box_step K3 (by omega) hb.out
    have hszr := hb.out.size
    have k23 := K2r 3
    have k30 := K3r 0
    have k31 := K3r 1
    have k32 := K3r 2
    have k33 := K3r 3
    simp only [List.getElem?_toArray, List.getElem?_cons_zero, List.getElem?_cons_succ] at k23 k30 k31 k32 k33
    clear K2r K3r
    have hw1 : w.heap.size < wr.heap.size := by omega
    have hw2 : w.heap.size + 1 < wr.heap.size := by omega
    by_cases hlt : i < nl
    · have hi2 : i < lc.length := by omega
      have hi3 : i < h.ls.length := by omega
      obtain ⟨bb, off, ha1, hbb, hc⟩ := row_elem encLc_length (by decide) (HR.out.below hb.out) hi2
      obtain rfl := ha1
      obtain ⟨hc0, hc1, hc2, hc3⟩ := encLc_cells hc
      have hel : lc[i].l = h.ls[i] := by
        have h1 := congrArg (·[i]?) HLL.out
        simp [hi2, hi3] at h1
        exact h1
      have hiff := Hid.mk (lbL_iff HRISE.out (a := l.key) hi3)
      have hok := HLR.out _ (List.getElem_mem hi3)
      have hhas : Hid (i = lbL h.ls l.key → hasL h.ls l.key = decide (h.ls[i].key = l.key)) := fun e => by
        unfold hasL
        rw [← e, List.getElem?_eq_getElem hi3]
      rw [hel] at hc0 hc1 hc2
      clear hc hel
      generalize h.ls[i] = y at *
      generalize lc[i] = r at *
      have hlti : decide ((i : Int) < nl) = true := decide_eq_true (by omega)
      have hlti2 : (i : Int) < nl := by omega
      have hzt : y.z < 2 ∧ y.t < 3 := hok
      go_wp2_with fail
      refine wp_region_ext_lit (by kernel_rfl) (by kernel_rfl) ?_
      repeat (first | go_big_quiet_step ((go_at_call 61; exact Calls.ext_of (less_ok y l _ _ _ _ _ _ _ hzt hl))) | quiet_step ((go_at_call 61; exact Calls.ext_of (less_ok y l _ _ _ _ _ _ _ hzt hl))))
      refine wpQuiet_nil ?_
      rintro _ ⟨wx, rfl⟩
      have hbx := ext_below wr wx
      have hb5 := Hid.mk (Below.step hb.out hbx)
      by_cases hky : y.key < l.key
      · rw [decide_eq_true hky]
        have h3 := hiff.out.2 hky
        generalize ext wr wx = w5 at *
        go_wp2
        go_roundw
        case rel => exact ⟨i + 1, h3, by go_num, hb5⟩
        case measure => simp [intOf]; omega
      · rw [decide_eq_false hky]
        have hie : i = lbL h.ls l.key := by
          rcases Nat.lt_or_ge i (lbL h.ls l.key) with h1 | h1
          · exact absurd (hiff.out.1 h1) hky
          · omega
        have hres := Hid.mk (hhas.out hie)
        have HIE := Hid.mk hie
        clear hie
        have m23 := (hbx.cell (p := ⟨w.heap.size, 3, none⟩) hw1).trans k23
        have m30 := (hbx.cell (p := ⟨w.heap.size + 1, 0, none⟩) hw2).trans k30
        have m31 := (hbx.cell (p := ⟨w.heap.size + 1, 1, none⟩) hw2).trans k31
        have m32 := (hbx.cell (p := ⟨w.heap.size + 1, 2, none⟩) hw2).trans k32
        have m33 := (hbx.cell (p := ⟨w.heap.size + 1, 3, none⟩) hw2).trans k33
        have n0 := (hbx.cell (p := ⟨bb, off + i * 4, none⟩) hbb).trans hc0
        have n1 := (hbx.cell (p := ⟨bb, off + i * 4 + 1, none⟩) hbb).trans hc1
        have n2 := (hbx.cell (p := ⟨bb, off + i * 4 + 2, none⟩) hbb).trans hc2
        have n3 := (hbx.cell (p := ⟨bb, off + i * 4 + 3, none⟩) hbb).trans hc3
        have hw15 := Nat.lt_of_lt_of_le hw1 hbx.size
        have hw25 := Nat.lt_of_lt_of_le hw2 hbx.size
        have hbb5 := Nat.lt_of_lt_of_le hbb hbx.size
        clear k23 k30 k31 k32 k33 hc0 hc1 hc2 hc3 hbx hw1 hw2 hbb
        generalize ext wr wx = w5 at *
        go_wp2_with fail
        refine wp_region_ext_lit (by kernel_rfl) (by kernel_rfl) ?_
        repeat (first | go_big_quiet_step ((go_at_call 61; exact Calls.ext_of (less_ok l y _ _ _ _ _ _ _ hl hzt))) | quiet_step ((go_at_call 61; exact Calls.ext_of (less_ok l y _ _ _ _ _ _ _ hl hzt))))
        refine wpQuiet_nil ?_
        rintro _ ⟨wy, rfl⟩
        have hb6 := Hid.mk (Below.step hb5.out (ext_below w5 wy))
        generalize ext w5 wy = w6 at *
        go_wp2
        go_ret2
        refine ⟨?_, Below.step hbw hb6.out⟩
        rw [hres.out, ← HIE.out]
        have e : (!decide (l.key < y.key)) = decide (y.key = l.key) := by
          by_cases h9 : l.key < y.key
          · rw [decide_eq_true h9, decide_eq_false (by omega)]; rfl
          · rw [decide_eq_false h9, decide_eq_true (by omega)]; rfl
        rw [e]
        rfl
    · have hie : i = nl := by omega
      have hie2 : i = lbL h.ls l.key := by omega
      have hres : Hid (hasL h.ls l.key = false) := by
        unfold Hid hasL
        rw [← hie2, List.getElem?_eq_none (by omega)]
      have hlti : decide ((i : Int) < nl) = false := decide_eq_false (by omega)
      have HIE := Hid.mk hie2
      clear hie hie2
      go_wp2_with fail
      go_quiet (fail)
      have hb6 := Hid.mk (below_drewN hb.out nq)
      have m23 := ((below_drewN (Below.refl wr.heap.size wr) nq).cell (p := ⟨w.heap.size, 3, none⟩) hw1).trans k23
      have hw15 : w.heap.size < (wr.drewN nq).heap.size := Nat.lt_of_lt_of_le hw1 (below_drewN (Below.refl wr.heap.size wr) nq).size
      clear k23
      generalize wr.drewN nq = w5 at *
      go_wp2_with fail
      go_quiet (fail)
      have hb7 := Hid.mk (below_drewN hb6.out nq)
      go_wp2
      go_ret2
      refine ⟨?_, Below.step hbw hb7.out⟩
      rw [hres.out, ← HIE.out]
      rfl
theorem list_pg (az am al av : Option Addr) (cz cm cl cv nl nv : Nat) (y0 y1 : Zc) (lc : List Lc) (h : Hp) (l : Ls) (x : Option Addr) (kx dx : Nat) (w : World) (hh : HAt w az am al av nl nv y0 y1 lc h) (hk : HOk h) (hl : l.z < 2 ∧ l.t < 3) (hnl : nl ≤ 1000) :
    Calls Tryd.prog 50 #[.agg #[.slice az 2 cz, .slice am 2 cm, .int .i64 h.cpus, .slice al nl cl, .slice av nv cv], .agg #[.int .i64 l.c, .int .i64 l.z, .int .i64 l.t, .slice x kx dx]] w fun ev w' => ev = .returned (.tuple #[.int .i64 (lbL h.ls l.key : Nat), .bool (hasL h.ls l.key)]) ∧ Below w.heap.size w w' :=
  list_gen az am al av cz cm cl cv nl nv y0 y1 lc h l x kx dx w hh hk.lk (fun y hy => ⟨(hk.lr y hy).2.1, (hk.lr y hy).2.2.1⟩) hl hnl
end Go.Proofs.YtjljcifpcljlaaaDoor
/- Contracts of package pages: flags that may not be; Check of a heap without zones. -/
namespace Go.Proofs.YtjljcifpcljlaaaDoor
open Go.RowKit
set_option linter.unusedVariables false

theorem typeOf_bad (flags : Int) (w : World) (h : flags = 16 ∨ flags = -1 ∨ flags = 6 ∨ flags = 7 ∨ flags = 14) :
    Calls Tryd.prog 39 #[.int .i64 flags] w fun ev w' => ev = .returned (.tuple #[.int .i64 0, .bool false]) ∧ w = w' := by
  have b2 : bits .and .i64 6 2 = 2 ∧ bits .and .i64 6 4 = 4 ∧ bits .and .i64 7 2 = 2 ∧ bits .and .i64 7 4 = 4 ∧ bits .and .i64 14 2 = 2 ∧ bits .and .i64 14 4 = 4 := by decide +kernel
  obtain ⟨b1, b2, b3, b4, b5, b6⟩ := b2
  rcases h with rfl | rfl | rfl | rfl | rfl
  all_goals
    go_enter Tryd.func39, Tryd.ntmps39
    go_wp2
    go_ret2
    exact ⟨rfl, rfl⟩

set_option maxRecDepth 100000 in
theorem checkH_none (w : World) :
    Calls Tryd.prog 13 #[.agg #[.slice none 0 0, .slice none 0 0, .int .i64 0, .slice none 0 0, .slice none 0 0]] w fun ev w' => ev = .returned (.int .i64 8) ∧ Below w.heap.size w w' := by
  have hb := below_alloc w (.cells #[.slice none 0 0, .slice none 0 0, .int .i64 0, .slice none 0 0, .slice none 0 0] 34)
  go_enter Tryd.func13, Tryd.ntmps13
  go_wp2
  go_ret
  exact ⟨rfl, hb⟩
end Go.Proofs.YtjljcifpcljlaaaDoor
/- Marks of pages: the array [256]bool and the word 'bad' in one block; contract of mark. -/
namespace Go.Proofs.YtjljcifpcljlaaaDoor
open Go.RowKit
set_option linter.unusedVariables false

def arrB (f : Nat → Bool) (b : Bool) : Array Value := (((List.range 256).map fun p => Value.bool (f p)) ++ [Value.bool b]).toArray
theorem arrB_size (f : Nat → Bool) (b : Bool) : (arrB f b).size = 257 := by simp [arrB]
theorem arrB_get (f : Nat → Bool) (b : Bool) (p : Nat) (h : p < 256) : (arrB f b)[p]? = some (.bool (f p)) := by
  unfold arrB
  rw [List.getElem?_toArray, List.getElem?_append_left (by simpa using h), List.getElem?_map, List.getElem?_range h]
  rfl
theorem arrB_bad (f : Nat → Bool) (b : Bool) : (arrB f b)[256]? = some (.bool b) := by
  unfold arrB
  rw [List.getElem?_toArray, List.getElem?_append_right (by simp)]
  simp
theorem arrB_set (f g : Nat → Bool) (b : Bool) (q : Nat) (hq : q < 256) (v : Bool) (hv : g q = v) (h : ∀ p, p < 256 → p ≠ q → g p = f p) : (arrB f b).setIfInBounds q (.bool v) = arrB g b := by
  apply Array.ext_getElem?
  intro i
  rw [Array.getElem?_setIfInBounds]
  by_cases hi : i < 256
  · rw [arrB_get g b i hi]
    by_cases hiq : q = i
    · subst hiq
      rw [if_pos rfl, if_pos (by rw [arrB_size]; omega), hv]
    · rw [if_neg hiq, arrB_get f b i hi, h i hi (fun e => hiq e.symm)]
  · by_cases hi6 : i = 256
    · subst hi6
      rw [if_neg (by omega), arrB_bad, arrB_bad]
    · rw [Array.getElem?_eq_none (show (arrB g b).size ≤ i by rw [arrB_size]; omega), if_neg (by omega), Array.getElem?_eq_none (show (arrB f b).size ≤ i by rw [arrB_size]; omega)]
theorem arrB_congr {f g : Nat → Bool} {b : Bool} (h : ∀ p, p < 256 → f p = g p) : arrB f b = arrB g b := by
  unfold arrB
  congr 1
  congr 1
  exact List.map_congr_left fun p hp => by rw [h p (List.mem_range.1 hp)]
/-- pages from a to q are marked, too -/
def marked (f : Nat → Bool) (a q p : Nat) : Bool := f p || decide (a ≤ p ∧ p < q)
theorem marked_nil (f : Nat → Bool) (a p : Nat) : marked f a a p = f p := by unfold marked; rw [decide_eq_false (by omega), Bool.or_false]
theorem marked_at (f : Nat → Bool) (a q : Nat) : marked f a q q = f q := by unfold marked; rw [decide_eq_false (by omega), Bool.or_false]
theorem marked_next (f : Nat → Bool) (a q : Nat) (h : a ≤ q) (hq : q < 256) (b : Bool) : (arrB (marked f a q) b).setIfInBounds q (.bool true) = arrB (marked f a (q + 1)) b := by
  refine arrB_set _ _ b q hq true ?_ fun p hp hne => ?_
  · unfold marked; rw [decide_eq_true (by omega), Bool.or_true]
  · unfold marked
    congr 1
    exact decide_eq_decide.2 (by omega)

/-- the marks in memory -/
structure MkS (W : World) (G : Nat) (f : Nat → Bool) (b : Bool) : Prop where
  k : ∀ o, W.cell? ⟨G, o, none⟩ = (arrB f b)[o]?
  fz : ∀ o, W.frozen? ⟨G, o, none⟩ = false
  hi : G < W.heap.size
theorem MkS.below {W W' : World} {G : Nat} {f : Nat → Bool} {b : Bool} (h : MkS W G f b) (hb : Below W.heap.size W W') : MkS W' G f b := ⟨box_step h.k h.hi hb, frz_step h.fz h.hi hb, Nat.lt_of_lt_of_le h.hi hb.size⟩
theorem MkS.mark {W : World} {G : Nat} {f g : Nat → Bool} {b : Bool} (h : MkS W G f b) (q : Nat) (v : Bool) (he : (arrB f b).setIfInBounds q (.bool v) = arrB g b) : MkS (W.setCell ⟨G, q, none⟩ (.bool v)) G g b := ⟨he ▸ box_set h.k q _, frz_set h.fz _ _, by simpa using h.hi⟩
theorem MkS.congr {W : World} {G : Nat} {f g : Nat → Bool} {b : Bool} (h : MkS W G f b) (hfg : ∀ p, p < 256 → f p = g p) : MkS W G g b := ⟨by rw [← arrB_congr hfg]; exact h.k, h.fz, h.hi⟩

set_option maxHeartbeats 4000000 in
set_option maxRecDepth 100000 in
/-- pages that no one has marked are marked -/
theorem mark_pg (G a n : Nat) (f : Nat → Bool) (b : Bool) (w : World) (hm : MkS w G f b) (hn : a + n ≤ 256) (h1 : a < 256) (hf : ∀ p, a ≤ p → p < a + n → f p = false) :
    Calls Tryd.prog 36 #[.pointer (some ⟨G, 0, none⟩), .int .i64 a, .int .i64 n] w fun ev w' => ev = .returned (.tuple #[]) ∧ MkS w' G (marked f a (a + n)) b ∧ Safe (fun k => k ≠ G) w w' := by
  have d1 : decide ((256 : Int) ≤ a) = false := decide_eq_false (by omega)
  have d2 : decide (256 ≤ a) = false := decide_eq_false (by omega)
  have d3 : decide ((256 : Int) - a < n) = false := decide_eq_false (by omega)
  have HM := Hid.mk hm
  clear hm
  go_enter Tryd.func36, Tryd.ntmps36
  go_wp2
  go_loopw [6] (fun s6 wr => ∃ q : Nat, a ≤ q ∧ q ≤ a + n ∧ s6 = .int .i64 (q : Int) ∧ Hid (MkS wr G (marked f a q) b) ∧ Hid (Safe (fun k => k ≠ G) w wr)) (fun s6 _ => a + n - (intOf s6).toNat)
  case atStart => exact ⟨a, Nat.le_refl _, by omega, rfl, HM.out.congr (fun p _ => (marked_nil f a p).symm), Safe.refl _ _⟩
  case round =>
    obtain ⟨q, hq1, hq2, rfl, HK, HB⟩ := hrel
    clear HM
    have hHi := HK.out.hi
    by_cases hlt : q < a + n
    · have hlt2 : (q : Int) < a + n := by omega
      have hq256 : (q : Int) < 256 := by omega
      have hq256' : q < 256 := by omega
      have hcell := (HK.out.k q).trans (arrB_get _ b q hq256')
      rw [marked_at, hf q hq1 hlt] at hcell
      have hfz := HK.out.fz q
      have HK2 := Hid.mk (HK.out.mark q true (marked_next f a q hq1 hq256' b))
      have HB2 := Hid.mk (HB.out.set (g := G) (fun e => e rfl) q (.bool true))
      go_wp2
      go_roundw
      case rel => exact ⟨q + 1, by omega, by omega, by go_num, HK2, HB2⟩
      case measure => simp [intOf]; omega
    · obtain rfl : q = a + n := by omega
      have d4 : ¬ ((a : Int) + n < a + n) := by omega
      go_wp2
      refine bodyPost_end (v := .tuple #[]) (by simp [results, Tryd.results36, go_sem]) rfl ⟨rfl, HK.out, HB.out⟩
end Go.Proofs.YtjljcifpcljlaaaDoor
/- Marks of blocks: what is marked is what lies in a list of blocks. -/
namespace Go.Proofs.YtjljcifpcljlaaaDoor
open Go.RowKit
set_option linter.unusedVariables false

/-- the pages of a list of blocks -/
def inL (done : List Bk) (p : Nat) : Bool := decide (0 < cnt done p)
theorem inL_next (done : List Bk) (b : Bk) (p : Nat) : marked (inL done) b.a b.fin p = inL (done ++ [b]) p := by
  unfold marked inL
  rw [cnt_append]
  have h1 : cnt [b] p = hit b p := by simp [cnt]
  rw [h1]
  unfold hit
  by_cases h : b.a ≤ p ∧ p < b.fin
  · rw [if_pos h, decide_eq_true h, Bool.or_true, decide_eq_true (by omega)]
  · rw [if_neg h, decide_eq_false h, Bool.or_false, Nat.add_zero]
theorem mark_blk (G : Nat) (b : Bk) (done : List Bk) (w : World) (hm : MkS w G (inL done) false) (h1 : ∀ p, cnt (done ++ [b]) p ≤ 1) (hb : b.fin ≤ 256) (v : Int) (hv : v = ((2 ^ b.o : Nat) : Int)) :
    Calls Tryd.prog 36 #[.pointer (some ⟨G, 0, none⟩), .int .i64 b.a, .int .i64 v] w fun ev w' => ev = .returned (.tuple #[]) ∧ MkS w' G (inL (done ++ [b])) false ∧ Safe (fun k => k ≠ G) w w' := by
  subst hv
  have hpo := pow_pos' b.o
  have hfin : b.fin = b.a + 2 ^ b.o := rfl
  refine (mark_pg G b.a (2 ^ b.o) (inL done) false w hm (by omega) (by omega) (fun p h2 h3 => ?_)).mono fun ev w' h => ⟨h.1, h.2.1.congr fun p _ => by rw [← hfin]; exact inL_next done b p, h.2.2⟩
  have h4 := h1 p
  rw [cnt_append] at h4
  have h5 : cnt [b] p = 1 := by
    simp only [cnt, Nat.add_zero]
    exact hit_one.2 ⟨h2, h3⟩
  unfold inL
  exact decide_eq_false (by omega)
/-- blocks that were marked, one after the other, are the first so many of a list -/
theorem cnt_pre {l : List Bk} (h : ∀ p, cnt l p ≤ 1) {i : Nat} (hi : i < l.length) (p : Nat) : cnt (l.take i ++ [l[i]]) p ≤ 1 := by
  have h1 : l = l.take (i + 1) ++ l.drop (i + 1) := (List.take_append_drop _ _).symm
  have h2 := h p
  rw [h1, cnt_append, List.take_succ_eq_append_getElem hi] at h2
  omega
end Go.Proofs.YtjljcifpcljlaaaDoor
/- Contract of package pages: lists. -/
namespace Go.Proofs.YtjljcifpcljlaaaDoor
open Go.RowKit
set_option linter.unusedVariables false

theorem lsB_take {l : List Ls} {i : Nat} (h : i < l.length) : lsB (l.take (i + 1)) = lsB (l.take i) ++ pgs l[i].p := by
  have happ : ∀ a b : List Ls, lsB (a ++ b) = lsB a ++ lsB b := fun a b => by
    induction a with
    | nil => rfl
    | cons x a ih => simp only [List.cons_append, lsB, ih, List.append_assoc]
  rw [List.take_succ_eq_append_getElem h, happ]
  simp [lsB]
theorem lsB_pre (l : List Ls) (i : Nat) : ∃ r, lsB l = lsB (l.take i) ++ r := by
  have happ : ∀ a b : List Ls, lsB (a ++ b) = lsB a ++ lsB b := fun a b => by
    induction a with
    | nil => rfl
    | cons x a ih => simp only [List.cons_append, lsB, ih, List.append_assoc]
  exact ⟨lsB (l.drop i), by rw [← happ, List.take_append_drop]⟩

theorem lsB_split (l : List Ls) (i : Nat) : lsB l = lsB (l.take i) ++ lsB (l.drop i) := by
  have happ : ∀ a b : List Ls, lsB (a ++ b) = lsB a ++ lsB b := fun a b => by
    induction a with
    | nil => rfl
    | cons x a ih => simp only [List.cons_append, lsB, ih, List.append_assoc]
  rw [← happ, List.take_append_drop]
theorem inL_pgs (done : List Bk) (l : List Nat) (j : Nat) (hj : j < l.length) : done ++ pgs (l.take (j + 1)) = (done ++ pgs (l.take j)) ++ [⟨l[j], 0, 0⟩] := by
  rw [List.take_succ_eq_append_getElem hj, List.append_assoc]
  unfold pgs
  rw [List.map_append]
  rfl
/-- the first so many pages of what is to be marked are in at most one place -/
theorem cnt_pgs {done r : List Bk} {l : List Nat} (h : ∀ p, cnt (done ++ (pgs l ++ r)) p ≤ 1) {j : Nat} (hj : j < l.length) (p : Nat) : cnt ((done ++ pgs (l.take j)) ++ [⟨l[j], 0, 0⟩]) p ≤ 1 := by
  rw [← inL_pgs done l j hj]
  have h1 : pgs l = pgs (l.take (j + 1)) ++ pgs (l.drop (j + 1)) := by unfold pgs; rw [← List.map_append, List.take_append_drop]
  have h2 := h p
  rw [h1, cnt_append, cnt_append, cnt_append] at h2
  rw [cnt_append]
  omega

set_option maxHeartbeats 4000000 in
set_option maxRecDepth 100000 in
theorem lists_pg (az am al av : Option Addr) (cz cm cl cv nl nv G : Nat) (y0 y1 : Zc) (lc : List Lc) (h : Hp) (done : List Bk) (w0 w : World) (hh : HAt w0 az am al av nl nv y0 y1 lc h) (hw0 : w0.heap.size ≤ G) (hb0 : Below w0.heap.size w0 w) (hk : HOk h) (hnl : nl ≤ 1000) (hm : MkS w G (inL done) false) (hone : ∀ p, cnt (done ++ lsB h.ls) p ≤ 1) :
    Calls Tryd.prog 37 #[.agg #[.slice az 2 cz, .slice am 2 cm, .int .i64 h.cpus, .slice al nl cl, .slice av nv cv], .pointer (some ⟨G, 0, none⟩)] w fun ev w' => ev = .returned (.bool true) ∧ MkS w' G (inL (done ++ lsB h.ls)) false ∧ Safe (fun k => k ≠ G) w w' := by
  obtain ⟨K2, F2, hsz, hbw⟩ := boxes1 w #[.slice az 2 cz, .slice am 2 cm, .int .i64 (h.cpus : Int), .slice al nl cl, .slice av nv cv] 34
  have hGw := hm.hi
  have HM := Hid.mk (hm.below hbw)
  have HH := Hid.mk hh
  have hbx := Hid.mk (hb0.trans (hbw.mono hb0.size))
  have hlen : lc.length = nl := hh.nl
  have hlsl : h.ls.length = nl := by rw [← hh.ll, List.length_map, hlen]
  have HLL := Hid.mk hh.ll
  have HRISE : Hid (RiseL h.ls) := hk.lk
  have HLR := Hid.mk hk.lr
  have HONE := Hid.mk hone
  have HSF := Hid.mk (Safe.ofBelow (X := fun k => k ≠ G) hbw)
  clear hh hm hb0 hone hbw
  go_enter Tryd.func37, Tryd.ntmps37
  go_wp2
  generalize w.alloc (.cells #[.slice az 2 cz, .slice am 2 cm, .int .i64 (h.cpus : Int), .slice al nl cl, .slice av nv cv] 34) = w1 at *
  go_loopw [12] (fun s12 wr => ∃ i : Nat, i ≤ nl ∧ s12 = .int .i64 (i : Int) ∧ Hid (MkS wr G (inL (done ++ lsB (h.ls.take i))) false) ∧ Hid (Safe (fun k => k ≠ G) w1 wr)) (fun s12 _ => nl - (intOf s12).toNat)
  case atStart => exact ⟨0, Nat.zero_le _, rfl, by simpa [Hid, lsB] using HM.out, Safe.refl _ _⟩
  case round =>
    obtain ⟨i, hi, rfl, HK, HS⟩ := hrel
    have hne : w.heap.size ≠ G := by omega
    have K2r := HS.out.box K2 hsz hne
    have hszr := HS.out.size
    have hw1 : w.heap.size < wr.heap.size := by omega
    have hB := Hid.mk (HS.out.after hbx.out (B := w0.heap.size) (fun k hk => by omega) (by have := hbx.out.size; omega))
    have k20 := K2r 0
    have k21 := K2r 1
    have k22 := K2r 2
    have k23 := K2r 3
    have k24 := K2r 4
    simp only [List.getElem?_toArray, List.getElem?_cons_zero, List.getElem?_cons_succ] at k20 k21 k22 k23 k24
    clear K2r
    by_cases hlt : i < nl
    · have hlt2 : (i : Int) < nl := by omega
      have hi2 : i < lc.length := by omega
      have hi3 : i < h.ls.length := by omega
      have hel : ∀ j (h1 : j < lc.length) (h2 : j < h.ls.length), lc[j].l = h.ls[j] := fun j h1 h2 => by
        have h3 := congrArg (·[j]?) HLL.out
        simp [h1, h2] at h3
        exact h3
      have HAr := Hid.mk (HH.out.below hB.out)
      obtain ⟨bb, off, ha1, hbb, hc⟩ := row_elem encLc_length (by decide) HAr.out.lr hi2
      obtain rfl := ha1
      obtain ⟨hc0, hc1, hc2, hc3⟩ := encLc_cells hc
      have hpr := HAr.out.pr _ (List.getElem_mem hi2)
      have hok := HLR.out _ (List.getElem_mem hi3)
      have hpre : Hid (0 < i → ∃ k, k + 1 = i ∧ ∃ y : Lc, (∀ j v, (encLc y)[j]? = some v → wr.cell? ⟨bb, off + k * 4 + j, none⟩ = some v) ∧ y.l.key < h.ls[i].key ∧ y.l.z < 2 ∧ y.l.t < 3) := fun h0 => by
        obtain ⟨bb', off', ha2, hbb2, hc'⟩ := row_elem encLc_length (by decide) HAr.out.lr (j := i - 1) (by omega)
        obtain ⟨rfl, rfl⟩ : bb = bb' ∧ off = off' := by simpa using ha2
        have h5 := hel (i - 1) (by omega) (by omega)
        have h6 := HLR.out _ (List.getElem_mem (show i - 1 < h.ls.length by omega))
        refine ⟨i - 1, by omega, lc[i - 1], hc', ?_, ?_⟩
        · rw [h5]
          exact List.pairwise_iff_getElem.1 HRISE.out (i - 1) i (by omega) (by omega) (by omega)
        · rw [h5]; exact ⟨h6.2.1, h6.2.2.1⟩
      have hel1 := hel i hi2 hi3
      rw [hel1] at hc0 hc1 hc2 hpr
      have hnext := Hid.mk (lsB_take hi3)
      have hpz : Hid (∀ p ∈ h.ls[i].p, p < 256 ∧ h.zof p = h.ls[i].z) := fun p hp => by
        have h7 := hok.2.2.2.2.2 p hp
        have h8 := hok.2.1
        refine ⟨h7.1, ?_⟩
        unfold Hp.zof
        by_cases h9 : p < h.z0.e
        · rw [if_pos h9]; exact (h7.2.1 h9).symm
        · rw [if_neg h9]; have := fun e => h9 (h7.2.2 e); omega
      have HC1 : Hid (∀ p, cnt ((done ++ lsB (h.ls.take i)) ++ (pgs h.ls[i].p ++ lsB (h.ls.drop (i + 1)))) p ≤ 1) := fun p => by
        have h1 := HONE.out p
        have h2 : lsB h.ls = lsB (h.ls.take i) ++ (pgs h.ls[i].p ++ lsB (h.ls.drop (i + 1))) := by
          rw [← List.append_assoc, ← lsB_take hi3]
          exact lsB_split h.ls (i + 1)
        rw [h2, ← List.append_assoc] at h1
        exact h1
      have hcpu := hok.1
      have hzz := hok.2.1
      have htt := hok.2.2.1
      have hp1 := hok.2.2.2.1
      have hp8 := hok.2.2.2.2.1
      obtain ⟨hpn, hprow⟩ := hpr
      have hpr0 := HH.out.pr _ (List.getElem_mem hi2)
      have HPR : Hid (Row w0 lc[i].a (flat encT lc[i].l.p)) := hpr0.2
      clear hpr0
      rw [hel1] at HPR
      generalize h.ls[i] = y at *
      clear hc hel hok
      generalize lc[i] = r at *
      obtain ⟨pb, poff, hp9, _, _⟩ := row_elem encT_length (by decide) HPR.out (j := 0) (show 0 < y.p.length by omega)
      generalize r.a = ra at *
      obtain rfl := hp9
      rw [hpn] at hp1 hp8
      have g1 : decide ((y.c : Int) < 0) = false := decide_eq_false (by omega)
      have g3 : decide ((y.z : Int) < 0) = false := decide_eq_false (by omega)
      have g5 : decide ((y.t : Int) < 0) = false := decide_eq_false (by omega)
      have g4 : decide ((1 : Int) < y.z) = false := decide_eq_false (by omega)
      have g6 : decide ((3 : Int) ≤ y.t) = false := decide_eq_false (by omega)
      have g8 : decide ((8 : Int) < r.n) = false := decide_eq_false (by omega)
      have gg2 : decide (h.cpus ≤ y.c) = false := decide_eq_false (by omega)
      have gg4 : decide (1 < y.z) = false := decide_eq_false (by omega)
      have gg6 : decide (3 ≤ y.t) = false := decide_eq_false (by omega)
      have gg7 : ((r.n : Int) == 0) = false := by rw [beq_eq_false_iff_ne]; omega
      have gg8 : decide (8 < r.n) = false := decide_eq_false (by omega)
      go_wp2_with fail
      obtain ⟨E2, EF2, esz, ebw⟩ := boxes1 wr #[.int .i64 (y.c : Int), .int .i64 (y.z : Int), .int .i64 (y.t : Int), .slice (some ⟨pb, poff, none⟩) r.n r.c] 66
      have e0 := E2 0
      have e1 := E2 1
      have e2 := E2 2
      have e3 := E2 3
      simp only [List.getElem?_toArray, List.getElem?_cons_zero, List.getElem?_cons_succ] at e0 e1 e2 e3
      have q0 := (ebw.cell (p := ⟨w.heap.size, 0, none⟩) hw1).trans k20
      have q2 := (ebw.cell (p := ⟨w.heap.size, 2, none⟩) hw1).trans k22
      have q3 := (ebw.cell (p := ⟨w.heap.size, 3, none⟩) hw1).trans k23
      have hw15 : w.heap.size < (wr.alloc (.cells #[.int .i64 (y.c : Int), .int .i64 (y.z : Int), .int .i64 (y.t : Int), .slice (some ⟨pb, poff, none⟩) r.n r.c] 66)).heap.size := by omega
      have hpx : Hid (0 < i → ∃ k : Nat, (i : Int) - 1 = k ∧ (k : Int) < nl ∧ k < nl ∧ bb < (wr.alloc (.cells #[.int .i64 (y.c : Int), .int .i64 (y.z : Int), .int .i64 (y.t : Int), .slice (some ⟨pb, poff, none⟩) r.n r.c] 66)).heap.size ∧ ∃ x : Lc, x.l.key < y.key ∧ (x.l.z < 2 ∧ x.l.t < 3) ∧ (wr.alloc (.cells #[.int .i64 (y.c : Int), .int .i64 (y.z : Int), .int .i64 (y.t : Int), .slice (some ⟨pb, poff, none⟩) r.n r.c] 66)).cell? ⟨bb, off + k * 4, none⟩ = some (.int .i64 x.l.c) ∧ (wr.alloc (.cells #[.int .i64 (y.c : Int), .int .i64 (y.z : Int), .int .i64 (y.t : Int), .slice (some ⟨pb, poff, none⟩) r.n r.c] 66)).cell? ⟨bb, off + k * 4 + 1, none⟩ = some (.int .i64 x.l.z) ∧ (wr.alloc (.cells #[.int .i64 (y.c : Int), .int .i64 (y.z : Int), .int .i64 (y.t : Int), .slice (some ⟨pb, poff, none⟩) r.n r.c] 66)).cell? ⟨bb, off + k * 4 + 2, none⟩ = some (.int .i64 x.l.t) ∧ (wr.alloc (.cells #[.int .i64 (y.c : Int), .int .i64 (y.z : Int), .int .i64 (y.t : Int), .slice (some ⟨pb, poff, none⟩) r.n r.c] 66)).cell? ⟨bb, off + k * 4 + 3, none⟩ = some (.slice x.a x.n x.c)) := fun h0 => by
        obtain ⟨k, hki, x, hxc, hxk, hxz⟩ := hpre.out h0
        obtain ⟨x0, x1, x2, x3⟩ := encLc_cells hxc
        exact ⟨k, by omega, by omega, by omega, Nat.lt_of_lt_of_le hbb ebw.size, x, hxk, hxz, (ebw.cell (p := ⟨bb, off + k * 4, none⟩) hbb).trans x0, (ebw.cell (p := ⟨bb, off + k * 4 + 1, none⟩) hbb).trans x1, (ebw.cell (p := ⟨bb, off + k * 4 + 2, none⟩) hbb).trans x2, (ebw.cell (p := ⟨bb, off + k * 4 + 3, none⟩) hbb).trans x3⟩
      have HE2 := Hid.mk E2
      have HK5 := Hid.mk (HK.out.below ebw)
      have HS5 := Hid.mk (HS.out.then ebw)
      have HB5 := Hid.mk (keepB ebw hB.out (by have := hbx.out.size; have := hB.out.size; omega))
      clear E2 EF2 hpre HK HS hB HAr hc0 hc1 hc2 hc3 ebw k20 k21 k22 k23 k24 hprow
      generalize wr.alloc (.cells #[.int .i64 (y.c : Int), .int .i64 (y.z : Int), .int .i64 (y.t : Int), .slice (some ⟨pb, poff, none⟩) r.n r.c] 66) = w5 at *
      by_cases h0 : 0 < i
      all_goals first
        | (obtain ⟨k, hik, hkn, hkn2, hbb5, x, hxk, hxz, x0, x1, x2, x3⟩ := hpx.out h0
           have g9 : decide ((0 : Int) < i) = true := decide_eq_true (by omega)
           have gg9 : decide (0 < i) = true := decide_eq_true h0
           have gl : decide (x.l.key < y.key) = true := decide_eq_true hxk
           have hyz : y.z < 2 ∧ y.t < 3 := ⟨hzz, htt⟩
           refine wp_region_ext_lit (by kernel_rfl) (by kernel_rfl) ?_
           repeat (go_big_quiet_step ((go_at_call 61; exact Calls.ext_of (less_ok x.l y _ _ _ _ _ _ _ hxz hyz)))))
        | (have g9 : decide ((0 : Int) < i) = false := decide_eq_false (by omega)
           have gg9 : decide (0 < i) = false := decide_eq_false (by omega)
           refine wp_region_ext_lit (by kernel_rfl) (by kernel_rfl) ?_
           repeat (go_big_quiet_step (fail)))
      all_goals
        refine wpQuiet_nil ?_
        rintro _ ⟨wx, rfl⟩
        try clear gl hxk
        have hbx6 := ext_below w5 wx
        have K6 := box_step HE2.out esz hbx6
        have HK6 := Hid.mk (HK5.out.below hbx6)
        have HS6 := Hid.mk (HS5.out.then hbx6)
        have HB6 := Hid.mk (keepB hbx6 HB5.out (by have := HB5.out.size; omega))
        have hsz6 : wr.heap.size < (ext w5 wx).heap.size := Nat.lt_of_lt_of_le esz hbx6.size
        have hGr : G < wr.heap.size := by omega
        have f3 := K6 3
        simp only [List.getElem?_toArray, List.getElem?_cons_zero, List.getElem?_cons_succ] at f3
        generalize ext w5 wx = w6 at *
        clear hbx6
        go_wp2_with fail
        obtain ⟨we, rfl⟩ : ∃ we, we = wr := ⟨_, rfl⟩
        go_loopw [77] (fun s77 wq => ∃ j : Nat, j ≤ r.n ∧ s77 = .int .i64 (j : Int) ∧ Hid (MkS wq G (inL ((done ++ lsB (h.ls.take i)) ++ pgs (y.p.take j))) false) ∧ Hid (Safe (fun k => k ≠ G) w6 wq)) (fun s77 _ => r.n - (intOf s77).toNat)
        case atStart => exact ⟨0, Nat.zero_le _, rfl, by simpa [Hid, pgs] using HK6.out, Safe.refl _ _⟩
        case round =>
          obtain ⟨j, hj, rfl, HQ, HSq⟩ := hrel
          have hszq := HSq.out.size
          have hneE : we.heap.size ≠ G := by omega
          by_cases hjl : j < r.n
          · have hjl2 : (j : Int) < r.n := by omega
            have hjp : j < y.p.length := by omega
            have HBq := Hid.mk (HSq.out.after HB6.out (B := w0.heap.size) (fun k hk => by omega) (by have := HB6.out.size; omega))
            obtain ⟨pb', poff', hp9, hpb, hpc⟩ := row_elem encT_length (by decide) (HPR.out.below (HBq.out)) (j := j) hjp
            obtain ⟨rfl, rfl⟩ : pb = pb' ∧ poff = poff' := by simpa using hp9
            have hpc0 := encT_cells hpc
            have hpp := hpz.out _ (List.getElem_mem hjp)
            have hcn := Hid.mk (cnt_pgs HC1.out hjp)
            have hnx := Hid.mk (inL_pgs (done ++ lsB (h.ls.take i)) y.p j hjp)
            obtain ⟨P, hP⟩ : ∃ P, y.p[j] = P := ⟨_, rfl⟩
            rw [hP] at hpc0 hpp
            have HP := Hid.mk hP
            clear hpc hP
            rw [Nat.mul_one] at hpc0
            go_wp2_with fail
            refine (mark_blk G ⟨P, 0, 0⟩ _ _ HQ.out (fun p => by have h1 := hcn.out p; rw [HP.out] at h1; exact h1) (by show P + 1 ≤ 256; omega) 1 rfl).mono ?_
            rintro ev w7 ⟨rfl, hm7, hs7⟩
            have HM7 : Hid (MkS w7 G (inL ((done ++ lsB (h.ls.take i)) ++ pgs (y.p.take (j + 1)))) false) := by
              unfold Hid
              rw [hnx.out, HP.out]
              exact hm7
            have HS7 := Hid.mk (HSq.out.trans hs7)
            have hB7 := HS7.out.after HB6.out (B := w0.heap.size) (fun k hk => by omega) (by have := HB6.out.size; omega)
            have HAT7 := Hid.mk (HH.out.below hB7)
            have b7 := (hm7.k 256).trans (arrB_bad _ _)
            have hG7 := hm7.hi
            have hw7 : w.heap.size < w7.heap.size := by have := HS7.out.size; omega
            have hwe7 : we.heap.size < w7.heap.size := by have := HS7.out.size; omega
            have H7 := HS7.out.box K6 hsz6 hneE
            have L7 := (HS6.out.trans HS7.out).box K2 hsz hne
            have l70 := L7 0
            have l71 := L7 1
            have l72 := L7 2
            have l73 := L7 3
            have l74 := L7 4
            have r71 := H7 1
            simp only [List.getElem?_toArray, List.getElem?_cons_zero, List.getElem?_cons_succ] at l70 l71 l72 l73 l74 r71
            clear H7 L7 hm7 hs7 hB7 hpc0
            have gz : (((h.zof P : Nat) : Int) != (y.z : Int)) = false := by simp [hpp.2]
            go_wp2_with fail
            refine wp_region_ext_lit (by kernel_rfl) (by kernel_rfl) ?_
            repeat (go_big_quiet_step ((go_at_call 47; exact Calls.ext_of (zone_pg _ _ _ _ _ _ _ _ _ _ _ _ _ h P _ (HAT7.out.below (ext_below w7 _))))))
            refine wpQuiet_nil ?_
            rintro _ ⟨wy, rfl⟩
            have HS8 := Hid.mk (HS7.out.then (ext_below w7 wy))
            have HM8 := Hid.mk (HM7.out.below (ext_below w7 wy))
            generalize ext w7 wy = w8 at *
            go_wp2
            go_roundw
            case rel => exact ⟨j + 1, by omega, by go_num, HM8, HS8⟩
            case measure => simp [intOf]; omega
          · obtain rfl : j = r.n := by omega
            have hend : Hid (MkS wr G (inL (done ++ lsB (h.ls.take (i + 1)))) false) := by
              unfold Hid
              rw [hnext.out, ← List.append_assoc]
              have h1 := HQ.out
              rw [List.take_of_length_le (show y.p.length ≤ r.n by omega)] at h1
              exact h1
            have hsend := Hid.mk (HS6.out.trans HSq.out)
            go_wp2_with fail
            go_roundw
            case rel => exact ⟨i + 1, by omega, by go_num, hend, hsend⟩
            case measure => simp [intOf]; omega
    · obtain rfl : i = nl := by omega
      have hend : Hid (MkS wr G (inL (done ++ lsB h.ls)) false) := by
        have h1 := HK.out
        rw [List.take_of_length_le (by omega)] at h1
        exact h1
      go_wp2
      go_ret
      exact ⟨rfl, hend.out, HSF.out.trans HS.out⟩
end Go.Proofs.YtjljcifpcljlaaaDoor
