/- Sy1, Hs, Mk, Mk2, Sy2, Sy3, Boot2: texts of this claim, joined. -/
import Derived.Test.YtkcaheebaicinaaGreatDoorSN10
import Derived.Test.YtkcaheebaicinaaGreatDoorSN11
import Derived.Test.YtkcaheebaicinaaGreatDoorSN18
import Derived.Test.YtkcaheebaicinaaGreatDoorSN4
/- Systems in plain words: words, a heap, caches of objects; what package slab computes. No program in sight. -/
namespace Go.Proofs.YtkcaheebaicinaaGreatDoor
set_option linter.unusedVariables false

/-- a slab: its first page, how many objects are free, the first one's address (-1: none) -/
structure Sl where
  p : Nat
  n : Nat
  h : Int
deriving DecidableEq
/-- a cache: names, words of an object, objects of a slab, its order; slabs; each processor's own slab -/
structure Ca where
  ns : List (List UInt8)
  z : Nat
  r : Nat
  o : Nat
  sl : List Sl
  ac : List Int
deriving DecidableEq
structure Sy where
  w : List Int
  h : Hp
  cs : List Ca
deriving DecidableEq

/-! ## Numbers -/
def layO (k : Nat) : Nat := if 4 ≤ 16 / k then 0 else if 4 ≤ 32 / k then 1 else 2
def layN (k : Nat) : Nat := 16 * 2 ^ layO k / k
def nameB (s : List UInt8) : Bool := decide (0 < s.length ∧ s.length ≤ 8) && s.all fun c => decide ((97 ≤ c ∧ c ≤ 122) ∨ (48 ≤ c ∧ c ≤ 57))
/-- is it where an object of the slab at page p begins? -/
def objB (c : Ca) (p : Nat) (a : Int) : Bool := decide (0 ≤ a - 16 * p ∧ a - 16 * p < c.r * c.z ∧ (a - 16 * p) % c.z = 0)

/-! ## What may be -/
structure SlOk (s : Sy) (c : Ca) (x : Sl) : Prop where
  live : ∃ b ∈ s.h.live, b.a = x.p ∧ b.o = c.o
  chain : ∃ l, follow s.w x.h c.r = some l ∧ l.length = x.n ∧ ∀ a ∈ l, objB c x.p a = true
structure CaOk (s : Sy) (c : Ca) : Prop where
  z : 1 ≤ c.z ∧ c.z ≤ 64
  o : c.o = layO c.z
  r : c.r = layN c.z
  ns : c.ns ≠ []
  nm : ∀ n ∈ c.ns, nameB n = true
  nr : c.ns.Pairwise fun a b => Go.Op.bytesLess a b = true
  ac : c.ac.length = s.h.cpus
  sr : c.sl.Pairwise fun a b => a.p < b.p
  sk : ∀ x ∈ c.sl, SlOk s c x
  aw : ∀ a ∈ c.ac, a = -1 ∨ ∃ x ∈ c.sl, (x.p : Int) = a
  ad : c.ac.Pairwise fun a b => a = b → a = -1
structure SOk (s : Sy) : Prop where
  wl : s.w.length = 4096
  hk : HOk s.h
  cl : s.cs.length ≤ 20
  ck : ∀ c ∈ s.cs, CaOk s c
  zd : s.cs.Pairwise fun c d => c.z ≠ d.z
  nd : s.cs.Pairwise fun c d => ∀ n ∈ c.ns, n ∉ d.ns
  pd : s.cs.Pairwise fun c d => ∀ x ∈ c.sl, ∀ y ∈ d.sl, x.p ≠ y.p

/-! ## What is computed -/
/-- a cache by one of its names -/
def Sy.named (s : Sy) (n : List UInt8) : Option Nat := s.cs.findIdx? fun c => c.ns.contains n
def Sy.setC (s : Sy) (i : Nat) (c : Ca) : Sy := { s with cs := s.cs.set i c }
def Ca.find (c : Ca) (p : Int) : Option Nat := c.sl.findIdx? fun x => decide ((x.p : Int) = p)
/-- where a slab stands, or would stand -/
def lbS (l : List Sl) (p : Nat) : Nat := (l.takeWhile fun x => decide (x.p < p)).length
def putS (l : List Sl) (x : Sl) : List Sl := l.take (lbS l x.p) ++ x :: l.drop (lbS l x.p)
/-- a slab more -/
def Sy.grow (s : Sy) (i cpu : Nat) (c : Ca) : Option (Sy × Nat) := match s.h.alloc cpu c.o 0 false false with
  | some (h', a) => some ({ w := chainTo s.w (16 * a) c.z c.r c.r, h := h', cs := s.cs.set i { c with sl := putS c.sl ⟨a, c.r, ((16 * a : Nat) : Int)⟩ } }, lbS c.sl a)
  | none => none
/-- its own slab, if that has a free object -/
def Ca.own (c : Ca) (cpu : Nat) : Option Nat := match c.find (c.ac.getD cpu (-1)) with
  | some k => match c.sl[k]? with
    | some x => if 0 < x.n then some k else none
    | none => none
  | none => none
/-- the lowest one that has a free object and is nobody's -/
def Ca.nobody (c : Ca) : Option Nat := c.sl.findIdx? fun x => decide (0 < x.n) && !c.ac.contains (x.p : Int)
def Sy.mine (s : Sy) (i cpu k : Nat) : Sy := match s.cs[i]? with
  | some c => match c.sl[k]? with
    | some x => s.setC i { c with ac := c.ac.set cpu (x.p : Int) }
    | none => s
  | none => s
def Sy.choose (s : Sy) (i cpu : Nat) : Option (Sy × Nat) := match s.cs[i]? with
  | some c => match c.own cpu with
    | some k => some (s, k)
    | none => match c.nobody with
      | some k => some (s.mine i cpu k, k)
      | none => match s.grow i cpu c with
        | some (s', k) => some (s'.mine i cpu k, k)
        | none => none
  | none => none
/-- the first free object of a slab goes -/
def Sy.pop (s : Sy) (i k : Nat) : Option (Sy × Int) := match s.cs[i]? with
  | some c => match c.sl[k]? with
    | some x => some (s.setC i { c with sl := c.sl.set k ⟨x.p, x.n - 1, s.w.getD x.h.toNat 0⟩ }, x.h)
    | none => none
  | none => none
def Sy.one (s : Sy) (i cpu : Nat) : Option (Sy × Int) := match s.choose i cpu with
  | some (s', k) => s'.pop i k
  | none => none
def Sy.bulk (s : Sy) (i cpu : Nat) : Nat → Option (Sy × List Int)
  | 0 => some (s, [])
  | n + 1 => match s.bulk i cpu n with
    | some (s', l) => match s'.one i cpu with
      | some (t, a) => some (t, l ++ [a])
      | none => none
    | none => none
/-- a cache more, or another name of one -/
def lbN (l : List (List UInt8)) (n : List UInt8) : Nat := (l.takeWhile fun x => Go.Op.bytesLess x n).length
def Sy.create (s : Sy) (n : List UInt8) (z : Nat) : Option Sy := match s.cs.findIdx? fun c => decide (c.z = z) with
  | some i => match s.cs[i]? with
    | some c => some (s.setC i { c with ns := c.ns.take (lbN c.ns n) ++ n :: c.ns.drop (lbN c.ns n) })
    | none => none
  | none => if s.cs.length = 20 then none else some { s with cs := s.cs ++ [⟨[n], z, layN z, layO z, [], List.replicate s.h.cpus (-1)⟩] }
end Go.Proofs.YtkcaheebaicinaaGreatDoor
/- The heap behind a pointer: its rows are its own. No program in sight. -/
namespace Go.Proofs.YtkcaheebaicinaaGreatDoor
open Go.RowKit
set_option linter.unusedVariables false

/-- where the parts of a heap lie -/
structure Hc where
  az : Option Addr
  cz : Nat
  am : Option Addr
  cm : Nat
  al : Option Addr
  cl : Nat
  av : Option Addr
  cv : Nat
  y0 : Zc
  y1 : Zc
  lc : List Lc
def zsR (c : Hc) : Rs := ⟨110, 4, .slice c.az 2 c.cz, 2, flat encZc [c.y0, c.y1]⟩
def lsR (c : Hc) : Rs := ⟨157, 4, .slice c.al c.lc.length c.cl, c.lc.length, flat encLc c.lc⟩
def lvR (c : Hc) (h : Hp) : Rs := ⟨95, 3, .slice c.av h.live.length c.cv, h.live.length, flat encBk h.live⟩
def pgR (r : Lc) : Rs := ⟨3, 1, .slice r.a r.n r.c, r.n, flat encT r.l.p⟩
def mnR (c : Hc) (h : Hp) : Rs := ⟨3, 1, .slice c.am 2 c.cm, 2, flat encT [h.m0, h.m1]⟩
def zlR (y : Zc) : Rs := ⟨95, 3, .slice y.a1 y.n1 y.c1, y.n1, flat encBk y.z.l⟩
def zyR (y : Zc) : Rs := ⟨3, 1, .slice y.a2 y.n2 y.c2, y.n2, flat encT y.z.y⟩
/-- rows that are written -/
def Hc.rows (c : Hc) (h : Hp) : List Rs := zsR c :: lsR c :: lvR c h :: c.lc.map pgR
/-- rows that are only read -/
def Hc.reads (c : Hc) (h : Hp) : List Rs := [mnR c h, zlR c.y0, zyR c.y0, zlR c.y1, zyR c.y1]
def Hc.vals (c : Hc) (h : Hp) : Array Value := #[.slice c.az 2 c.cz, .slice c.am 2 c.cm, .int .i64 (h.cpus : Int), .slice c.al c.lc.length c.cl, .slice c.av h.live.length c.cv]

/-- the rows -/
structure HR (W : World) (G : Nat) (X : Nat → Prop) (h : Hp) (c : Hc) : Prop where
  own : OwnL W 0 (c.rows h)
  ro : ∀ r ∈ c.reads h, r.on W 0
  ds : ∀ r ∈ c.reads h, ∀ s ∈ c.rows h, r.off s
  og : ∀ r ∈ c.rows h, ∀ g, r.v.ownBlock = some g → g ≠ G ∧ ¬ X g
  rg : ∀ r ∈ c.reads h, r.v.ownBlock ≠ some G
  rx : ∀ r ∈ c.reads h, ∀ g, r.v.ownBlock = some g → ¬ X g
  gs : G < W.heap.size
  xg : ¬ X G
  xs : ∀ k, X k → k < W.heap.size
  e0 : c.y0.z = h.z0
  e1 : c.y1.z = h.z1
  ll : c.lc.map Lc.l = h.ls
/-- and the five words -/
structure HS (W : World) (G : Nat) (X : Nat → Prop) (h : Hp) (c : Hc) : Prop where
  r : HR W G X h c
  k : ∀ o, W.cell? ⟨G, o, none⟩ = (c.vals h)[o]?
  fz : ∀ o, W.frozen? ⟨G, o, none⟩ = false

theorem zl_len {W : World} {b : Nat} {y : Zc} (h : (zlR y).on W b) : y.z.l.length = y.n1 := by
  have h1 := h.1
  unfold zlR at h1
  simp only at h1
  rw [flat_length encBk_length] at h1
  omega
theorem zy_len {W : World} {b : Nat} {y : Zc} (h : (zyR y).on W b) : y.z.y.length = y.n2 := by
  have h1 := h.1
  unfold zyR at h1
  simp only at h1
  rw [flat_length encT_length] at h1
  omega
theorem pg_len {W : World} {b : Nat} {y : Lc} (h : (pgR y).on W b) : y.l.p.length = y.n := by
  have h1 := h.1
  unfold pgR at h1
  simp only at h1
  rw [flat_length encT_length] at h1
  omega
section
variable {W W' : World} {G : Nat} {X Y : Nat → Prop} {h : Hp} {c : Hc}
theorem HR.pgs (hs : HR W G X h c) : ∀ r ∈ c.lc, (pgR r).on W 0 := fun r hr => hs.own.each _ (by
  unfold Hc.rows
  exact List.mem_cons_of_mem _ (List.mem_cons_of_mem _ (List.mem_cons_of_mem _ (List.mem_map_of_mem hr))))
theorem HR.zs (hs : HR W G X h c) : (zsR c).on W 0 := hs.own.each _ (by simp [Hc.rows])
theorem HR.lsr (hs : HR W G X h c) : (lsR c).on W 0 := hs.own.each _ (by simp [Hc.rows])
theorem HR.lv (hs : HR W G X h c) : (lvR c h).on W 0 := hs.own.each _ (by simp [Hc.rows])
theorem HR.mn (hs : HR W G X h c) : (mnR c h).on W 0 := hs.ro _ (by simp [Hc.reads])
theorem HR.l0 (hs : HR W G X h c) : (zlR c.y0).on W 0 := hs.ro _ (by simp [Hc.reads])
theorem HR.t0 (hs : HR W G X h c) : (zyR c.y0).on W 0 := hs.ro _ (by simp [Hc.reads])
theorem HR.l1 (hs : HR W G X h c) : (zlR c.y1).on W 0 := hs.ro _ (by simp [Hc.reads])
theorem HR.t1 (hs : HR W G X h c) : (zyR c.y1).on W 0 := hs.ro _ (by simp [Hc.reads])
theorem HR.z0 (hs : HR W G X h c) : ZAt W c.y0.a1 c.y0.a2 c.y0.n1 c.y0.n2 h.z0 := by
  rw [← hs.e0]
  exact ⟨zl_len hs.l0, zy_len hs.t0, own_row hs.l0, own_row hs.t0⟩
theorem HR.z1 (hs : HR W G X h c) : ZAt W c.y1.a1 c.y1.a2 c.y1.n1 c.y1.n2 h.z1 := by
  rw [← hs.e1]
  exact ⟨zl_len hs.l1, zy_len hs.t1, own_row hs.l1, own_row hs.t1⟩
/-- the heap as a value -/
theorem HR.at (hs : HR W G X h c) : HAt W c.az c.am c.al c.av c.lc.length h.live.length c.y0 c.y1 c.lc h :=
  ⟨own_row hs.zs, own_row hs.mn, own_row hs.lsr, own_row hs.lv, hs.e0, hs.e1, hs.z0, hs.z1, hs.ll, rfl, rfl, fun r hr => ⟨pg_len (hs.pgs r hr), own_row (hs.pgs r hr)⟩⟩
theorem HR.below (hs : HR W G X h c) (hb : Below W.heap.size W W') : HR W' G X h c :=
  ⟨hs.own.below hb, fun r hr => own_below (hs.ro r hr) hb (Nat.le_refl _), hs.ds, hs.og, hs.rg, hs.rx, Nat.lt_of_lt_of_le hs.gs hb.size, hs.xg, fun k hk => Nat.lt_of_lt_of_le (hs.xs k hk) hb.size, hs.e0, hs.e1, hs.ll⟩
theorem HS.below (hs : HS W G X h c) (hb : Below W.heap.size W W') : HS W' G X h c :=
  ⟨hs.r.below hb, box_step hs.k hs.r.gs hb, frz_step hs.fz hs.r.gs hb⟩
theorem HR.sub (hs : HR W G X h c) (hy : ∀ k, Y k → X k) : HR W G Y h c :=
  ⟨hs.own, hs.ro, hs.ds, fun r hr g hg => ⟨(hs.og r hr g hg).1, fun e => (hs.og r hr g hg).2 (hy g e)⟩, hs.rg, fun r hr g hg e => hs.rx r hr g hg (hy g e), hs.gs, fun e => hs.xg (hy _ e), fun k hk => hs.xs k (hy k hk), hs.e0, hs.e1, hs.ll⟩
theorem HS.sub (hs : HS W G X h c) (hy : ∀ k, Y k → X k) : HS W G Y h c := ⟨hs.r.sub hy, hs.k, hs.fz⟩
/-- every block that is not the heap's may be held fast -/
theorem HR.more (hs : HR W G X h c) (hy : ∀ k, Y k → k < W.heap.size ∧ k ≠ G ∧ (∀ r ∈ c.rows h, r.v.ownBlock ≠ some k) ∧ ∀ r ∈ c.reads h, r.v.ownBlock ≠ some k) : HR W G Y h c :=
  ⟨hs.own, hs.ro, hs.ds, fun r hr g hg => ⟨(hs.og r hr g hg).1, fun e => (hy g e).2.2.1 r hr hg⟩, hs.rg, fun r hr g hg e => (hy g e).2.2.2 r hr hg, hs.gs, fun e => (hy _ e).2.1 rfl, fun k hk => (hy k hk).1, hs.e0, hs.e1, hs.ll⟩
theorem HS.more (hs : HS W G X h c) (hy : ∀ k, Y k → k < W.heap.size ∧ k ≠ G ∧ (∀ r ∈ c.rows h, r.v.ownBlock ≠ some k) ∧ ∀ r ∈ c.reads h, r.v.ownBlock ≠ some k) : HS W G Y h c := ⟨hs.r.more hy, hs.k, hs.fz⟩
/-- what was laid anew is held fast, too -/
theorem HS.new (hs : HS W G X h c) (hb : Below W.heap.size W W') : HS W' G (fun k => X k ∨ (W.heap.size ≤ k ∧ k < W'.heap.size)) h c :=
  (hs.below hb).more fun k hk => by
    rcases hk with hk | ⟨h1, h2⟩
    · have h3 := hs.r.xs k hk
      exact ⟨Nat.lt_of_lt_of_le h3 hb.size, fun e => hs.r.xg (e ▸ hk), fun r hr e => (hs.r.og r hr k e).2 hk, fun r hr e => hs.r.rx r hr k e hk⟩
    · exact ⟨h2, fun e => by have := hs.r.gs; omega, fun r hr e => by have := (hs.r.own.lt r hr k e).2; omega, fun r hr e => by have := ((hs.r.ro r hr).lt k e).2; omega⟩
/-- a word of the heap is written -/
theorem HR.setG (hs : HR W G X h c) (i : Nat) (u : Value) : HR (W.setCell ⟨G, i, none⟩ u) G X h c :=
  ⟨hs.own.far (fun r hr e => (hs.og r hr G e).1 rfl) i u, fun r hr => own_set (hs.ro r hr) (hs.rg r hr) u, hs.ds, hs.og, hs.rg, hs.rx, by simpa using hs.gs, hs.xg, fun k hk => by simpa using hs.xs k hk, hs.e0, hs.e1, hs.ll⟩
/-- a block that is held fast is written -/
theorem HS.far (hs : HS W G X h c) {g : Nat} (hx : X g) (i : Nat) (u : Value) : HS (W.setCell ⟨g, i, none⟩ u) G X h c := by
  have hne : G ≠ g := fun e => hs.r.xg (e ▸ hx)
  exact ⟨⟨hs.r.own.far (fun r hr e => (hs.r.og r hr g e).2 hx) i u, fun r hr => own_set (hs.r.ro r hr) (fun e => hs.r.rx r hr g e hx) u, hs.r.ds, hs.r.og, hs.r.rg, hs.r.rx, by simpa using hs.r.gs, hs.r.xg, fun k hk => by simpa using hs.r.xs k hk, hs.r.e0, hs.r.e1, hs.r.ll⟩, box_set_other hs.k hne i u, frz_set hs.fz _ _⟩
end
end Go.Proofs.YtkcaheebaicinaaGreatDoor
/- Marks of pages: the array [256]bool and the word 'bad' in one block; contract of mark. -/
namespace Go.Proofs.YtkcaheebaicinaaGreatDoor
open Go.RowKit
set_option linter.unusedVariables false

def arrB (f : Nat → Bool) (b : Bool) : Array Value := (((List.range 256).map fun p => Value.bool (f p)) ++ [Value.bool b]).toArray
theorem arrB_size (f : Nat → Bool) (b : Bool) : (arrB f b).size = 257 := by simp [arrB]
theorem arrB_get (f : Nat → Bool) (b : Bool) (p : Nat) (h : p < 256) : (arrB f b)[p]? = some (.bool (f p)) := by
  unfold arrB
  rw [List.getElem?_toArray, List.getElem?_append_left (by simpa using h), List.getElem?_map, List.getElem?_range h]
  rfl
theorem arrB_bad (f : Nat → Bool) (b : Bool) : (arrB f b)[256]? = some (.bool b) := by
  unfold arrB
  rw [List.getElem?_toArray, List.getElem?_append_right (by simp)]
  simp
theorem arrB_set (f g : Nat → Bool) (b : Bool) (q : Nat) (hq : q < 256) (v : Bool) (hv : g q = v) (h : ∀ p, p < 256 → p ≠ q → g p = f p) : (arrB f b).setIfInBounds q (.bool v) = arrB g b := by
  apply Array.ext_getElem?
  intro i
  rw [Array.getElem?_setIfInBounds]
  by_cases hi : i < 256
  · rw [arrB_get g b i hi]
    by_cases hiq : q = i
    · subst hiq
      rw [if_pos rfl, if_pos (by rw [arrB_size]; omega), hv]
    · rw [if_neg hiq, arrB_get f b i hi, h i hi (fun e => hiq e.symm)]
  · by_cases hi6 : i = 256
    · subst hi6
      rw [if_neg (by omega), arrB_bad, arrB_bad]
    · rw [Array.getElem?_eq_none (show (arrB g b).size ≤ i by rw [arrB_size]; omega), if_neg (by omega), Array.getElem?_eq_none (show (arrB f b).size ≤ i by rw [arrB_size]; omega)]
theorem arrB_congr {f g : Nat → Bool} {b : Bool} (h : ∀ p, p < 256 → f p = g p) : arrB f b = arrB g b := by
  unfold arrB
  congr 1
  congr 1
  exact List.map_congr_left fun p hp => by rw [h p (List.mem_range.1 hp)]
/-- pages from a to q are marked, too -/
def marked (f : Nat → Bool) (a q p : Nat) : Bool := f p || decide (a ≤ p ∧ p < q)
theorem marked_nil (f : Nat → Bool) (a p : Nat) : marked f a a p = f p := by unfold marked; rw [decide_eq_false (by omega), Bool.or_false]
theorem marked_at (f : Nat → Bool) (a q : Nat) : marked f a q q = f q := by unfold marked; rw [decide_eq_false (by omega), Bool.or_false]
theorem marked_next (f : Nat → Bool) (a q : Nat) (h : a ≤ q) (hq : q < 256) (b : Bool) : (arrB (marked f a q) b).setIfInBounds q (.bool true) = arrB (marked f a (q + 1)) b := by
  refine arrB_set _ _ b q hq true ?_ fun p hp hne => ?_
  · unfold marked; rw [decide_eq_true (by omega), Bool.or_true]
  · unfold marked
    congr 1
    exact decide_eq_decide.2 (by omega)

/-- the marks in memory -/
structure MkS (W : World) (G : Nat) (f : Nat → Bool) (b : Bool) : Prop where
  k : ∀ o, W.cell? ⟨G, o, none⟩ = (arrB f b)[o]?
  fz : ∀ o, W.frozen? ⟨G, o, none⟩ = false
  hi : G < W.heap.size
theorem MkS.below {W W' : World} {G : Nat} {f : Nat → Bool} {b : Bool} (h : MkS W G f b) (hb : Below W.heap.size W W') : MkS W' G f b := ⟨box_step h.k h.hi hb, frz_step h.fz h.hi hb, Nat.lt_of_lt_of_le h.hi hb.size⟩
theorem MkS.mark {W : World} {G : Nat} {f g : Nat → Bool} {b : Bool} (h : MkS W G f b) (q : Nat) (v : Bool) (he : (arrB f b).setIfInBounds q (.bool v) = arrB g b) : MkS (W.setCell ⟨G, q, none⟩ (.bool v)) G g b := ⟨he ▸ box_set h.k q _, frz_set h.fz _ _, by simpa using h.hi⟩
theorem MkS.congr {W : World} {G : Nat} {f g : Nat → Bool} {b : Bool} (h : MkS W G f b) (hfg : ∀ p, p < 256 → f p = g p) : MkS W G g b := ⟨by rw [← arrB_congr hfg]; exact h.k, h.fz, h.hi⟩

set_option maxHeartbeats 4000000 in
set_option maxRecDepth 100000 in
/-- pages that no one has marked are marked -/
theorem mark_pg (G a n : Nat) (f : Nat → Bool) (b : Bool) (w : World) (hm : MkS w G f b) (hn : a + n ≤ 256) (h1 : a < 256) (hf : ∀ p, a ≤ p → p < a + n → f p = false) :
    Calls Tryz.prog 72 #[.pointer (some ⟨G, 0, none⟩), .int .i64 a, .int .i64 n] w fun ev w' => ev = .returned (.tuple #[]) ∧ MkS w' G (marked f a (a + n)) b ∧ Safe (fun k => k ≠ G) w w' := by
  have d1 : decide ((256 : Int) ≤ a) = false := decide_eq_false (by omega)
  have d2 : decide (256 ≤ a) = false := decide_eq_false (by omega)
  have d3 : decide ((256 : Int) - a < n) = false := decide_eq_false (by omega)
  have HM := Hid.mk hm
  clear hm
  go_enter Tryz.func72, Tryz.ntmps72
  go_wp2
  go_loopw [6] (fun s6 wr => ∃ q : Nat, a ≤ q ∧ q ≤ a + n ∧ s6 = .int .i64 (q : Int) ∧ Hid (MkS wr G (marked f a q) b) ∧ Hid (Safe (fun k => k ≠ G) w wr)) (fun s6 _ => a + n - (intOf s6).toNat)
  case atStart => exact ⟨a, Nat.le_refl _, by omega, rfl, HM.out.congr (fun p _ => (marked_nil f a p).symm), Safe.refl _ _⟩
  case round =>
    obtain ⟨q, hq1, hq2, rfl, HK, HB⟩ := hrel
    clear HM
    have hHi := HK.out.hi
    by_cases hlt : q < a + n
    · have hlt2 : (q : Int) < a + n := by omega
      have hq256 : (q : Int) < 256 := by omega
      have hq256' : q < 256 := by omega
      have hcell := (HK.out.k q).trans (arrB_get _ b q hq256')
      rw [marked_at, hf q hq1 hlt] at hcell
      have hfz := HK.out.fz q
      have HK2 := Hid.mk (HK.out.mark q true (marked_next f a q hq1 hq256' b))
      have HB2 := Hid.mk (HB.out.set (g := G) (fun e => e rfl) q (.bool true))
      go_wp2
      go_roundw
      case rel => exact ⟨q + 1, by omega, by omega, by go_num, HK2, HB2⟩
      case measure => simp [intOf]; omega
    · obtain rfl : q = a + n := by omega
      have d4 : ¬ ((a : Int) + n < a + n) := by omega
      go_wp2
      refine bodyPost_end (v := .tuple #[]) (by simp [results, Tryz.results72, go_sem]) rfl ⟨rfl, HK.out, HB.out⟩
end Go.Proofs.YtkcaheebaicinaaGreatDoor
/- Marks of blocks: what is marked is what lies in a list of blocks. -/
namespace Go.Proofs.YtkcaheebaicinaaGreatDoor
open Go.RowKit
set_option linter.unusedVariables false

/-- the pages of a list of blocks -/
def inL (done : List Bk) (p : Nat) : Bool := decide (0 < cnt done p)
theorem inL_next (done : List Bk) (b : Bk) (p : Nat) : marked (inL done) b.a b.fin p = inL (done ++ [b]) p := by
  unfold marked inL
  rw [cnt_append]
  have h1 : cnt [b] p = hit b p := by simp [cnt]
  rw [h1]
  unfold hit
  by_cases h : b.a ≤ p ∧ p < b.fin
  · rw [if_pos h, decide_eq_true h, Bool.or_true, decide_eq_true (by omega)]
  · rw [if_neg h, decide_eq_false h, Bool.or_false, Nat.add_zero]
theorem mark_blk (G : Nat) (b : Bk) (done : List Bk) (w : World) (hm : MkS w G (inL done) false) (h1 : ∀ p, cnt (done ++ [b]) p ≤ 1) (hb : b.fin ≤ 256) (v : Int) (hv : v = ((2 ^ b.o : Nat) : Int)) :
    Calls Tryz.prog 72 #[.pointer (some ⟨G, 0, none⟩), .int .i64 b.a, .int .i64 v] w fun ev w' => ev = .returned (.tuple #[]) ∧ MkS w' G (inL (done ++ [b])) false ∧ Safe (fun k => k ≠ G) w w' := by
  subst hv
  have hpo := pow_pos' b.o
  have hfin : b.fin = b.a + 2 ^ b.o := rfl
  refine (mark_pg G b.a (2 ^ b.o) (inL done) false w hm (by omega) (by omega) (fun p h2 h3 => ?_)).mono fun ev w' h => ⟨h.1, h.2.1.congr fun p _ => by rw [← hfin]; exact inL_next done b p, h.2.2⟩
  have h4 := h1 p
  rw [cnt_append] at h4
  have h5 : cnt [b] p = 1 := by
    simp only [cnt, Nat.add_zero]
    exact hit_one.2 ⟨h2, h3⟩
  unfold inL
  exact decide_eq_false (by omega)
/-- blocks that were marked, one after the other, are the first so many of a list -/
theorem cnt_pre {l : List Bk} (h : ∀ p, cnt l p ≤ 1) {i : Nat} (hi : i < l.length) (p : Nat) : cnt (l.take i ++ [l[i]]) p ≤ 1 := by
  have h1 : l = l.take (i + 1) ++ l.drop (i + 1) := (List.take_append_drop _ _).symm
  have h2 := h p
  rw [h1, cnt_append, List.take_succ_eq_append_getElem hi] at h2
  omega
end Go.Proofs.YtkcaheebaicinaaGreatDoor
/- Bounds of systems that may be. No program in sight. -/
namespace Go.Proofs.YtkcaheebaicinaaGreatDoor
set_option linter.unusedVariables false

theorem layN_le {k : Nat} : layN k * k ≤ 64 := by
  unfold layN
  refine Nat.le_trans (Nat.div_mul_le_self _ _) ?_
  have : layO k ≤ 2 := by unfold layO; split <;> (try split) <;> omega
  rcases (show layO k = 0 ∨ layO k = 1 ∨ layO k = 2 by omega) with h | h | h <;> rw [h] <;> decide
theorem followF_len (xs : List Int) (most : Int) : ∀ (f : Nat) (p : Int) (out l : List Int), (out.length : Int) ≤ most → followF xs most f p out = some l → (l.length : Int) ≤ most
  | 0, _, _, _, _, h => by simp [followF] at h
  | f + 1, p, out, l, ho, h => by
    unfold followF at h
    split at h
    · rw [← Option.some.inj h]; exact ho
    · split at h
      · cases h
      · rename_i h2
        refine followF_len xs most f _ _ l ?_ h
        simp only [List.length_append, List.length_cons, List.length_nil]
        have : ¬ (most ≤ (out.length : Int)) := fun h3 => h2 (.inl h3)
        omega
theorem follow_len {xs : List Int} {p most : Int} {l : List Int} (hm : 0 ≤ most) (h : follow xs p most = some l) : (l.length : Int) ≤ most := followF_len xs most _ p [] l (by simpa using hm) h
theorem CaOk.rz {s : Sy} {c : Ca} (h : CaOk s c) : c.r * c.z ≤ 64 := by rw [h.r]; exact layN_le
theorem CaOk.r64 {s : Sy} {c : Ca} (h : CaOk s c) : c.r ≤ 64 := Nat.le_trans (Nat.le_mul_of_pos_right _ h.z.1) h.rz
theorem SlOk.p_lt {s : Sy} {c : Ca} {x : Sl} (h : SlOk s c x) (hk : HOk s.h) : x.p < 256 := by
  obtain ⟨b, hb, h1, _⟩ := h.live
  have := (hk.lv b hb).1.2.2.1
  omega
theorem SlOk.n_le {s : Sy} {c : Ca} {x : Sl} (h : SlOk s c x) : x.n ≤ c.r := by
  obtain ⟨l, h1, h2, _⟩ := h.chain
  have := follow_len (by omega) h1
  omega
theorem objB_in {c : Ca} {p : Nat} {a : Int} (h : objB c p a = true) : 16 * (p : Int) ≤ a ∧ a < 16 * p + c.r * c.z ∧ (a - 16 * p) % c.z = 0 := by
  have := of_decide_eq_true h
  omega
theorem riseS_len : ∀ {l : List Sl} {k N : Nat}, (l.Pairwise fun a b => a.p < b.p) → (∀ x ∈ l, k ≤ x.p ∧ x.p < N) → l.length + k ≤ N ∨ l = []
  | [], _, _, _, _ => .inr rfl
  | c :: m, k, N, q1, q2 => by
    have q3 := List.pairwise_cons.1 q1
    have q4 := q2 c (by simp)
    rcases riseS_len (k := c.p + 1) (N := N) q3.2 fun x hx => ⟨q3.1 x hx, (q2 x (by simp [hx])).2⟩ with q5 | rfl
    · simp only [List.length_cons]; exact .inl (by omega)
    · simp only [List.length_cons, List.length_nil]; exact .inl (by omega)
theorem CaOk.sl_len {s : Sy} {c : Ca} (h : CaOk s c) (hk : HOk s.h) : c.sl.length ≤ 256 := by
  rcases riseS_len (k := 0) (N := 256) h.sr fun x hx => ⟨Nat.zero_le _, (h.sk x hx).p_lt hk⟩ with h1 | h1
  · omega
  · rw [h1]; exact Nat.zero_le _
end Go.Proofs.YtkcaheebaicinaaGreatDoor
/- Systems in plain words: a slab more, an object less: what may be stays so. No program in sight. -/
namespace Go.Proofs.YtkcaheebaicinaaGreatDoor
set_option linter.unusedVariables false

/-! ## Chains -/
def Link (xs : List Int) : Int → List Int → Prop
  | p, [] => p = -1
  | p, a :: m => p = a ∧ Link xs (xs.getD a.toNat 0) m
theorem inW_iff {n : Nat} {p : Int} : inW n p 1 = true ↔ 0 ≤ p ∧ p < n := by
  unfold inW
  simp only [decide_eq_true_eq]
  omega
theorem followF_link {xs : List Int} {most : Int} : ∀ (f : Nat) (p : Int) (out l : List Int), followF xs most f p out = some l → ∃ m, l = out ++ m ∧ Link xs p m ∧ (∀ a ∈ m, 0 ≤ a ∧ a < xs.length) ∧ (m ≠ [] → (l.length : Int) ≤ most) ∧ (out.Nodup → l.Nodup)
  | 0, _, _, _, h => by simp [followF] at h
  | f + 1, p, out, l, h => by
    unfold followF at h
    split at h
    · rename_i hp
      obtain rfl := Option.some.inj h
      exact ⟨[], by simp, hp, by simp, by simp, id⟩
    · rename_i hp
      split at h
      · cases h
      · rename_i hn
        simp only [not_or, Bool.not_eq_false, Bool.not_eq_true] at hn
        obtain ⟨h1, h2, h3⟩ := hn
        obtain ⟨m, hm, hl, hr, hb, hd⟩ := followF_link f _ _ l h
        have hpr := inW_iff.1 h2
        refine ⟨p :: m, by rw [hm]; simp, ⟨rfl, hl⟩, fun a ha => ?_, fun _ => ?_, fun ho => hd ?_⟩
        · rcases List.mem_cons.1 ha with rfl | ha
          · exact hpr
          · exact hr a ha
        · by_cases hme : m = []
          · subst hme
            rw [hm]
            simp
            omega
          · exact hb hme
        · rw [List.nodup_append]
          refine ⟨ho, by simp, fun a ha b hb' e => ?_⟩
          simp only [List.mem_singleton] at hb'
          subst hb' e
          unfold hasI at h3
          rw [List.contains_iff_mem.2 ha] at h3
          cases h3
theorem link_followF {xs : List Int} {most : Int} : ∀ (m : List Int) (p : Int) (out : List Int) (f : Nat), Link xs p m → (∀ a ∈ m, 0 ≤ a ∧ a < xs.length) → (m ≠ [] → ((out ++ m).length : Int) ≤ most) → (out ++ m).Nodup → m.length + 1 ≤ f → followF xs most f p out = some (out ++ m)
  | [], p, out, f + 1, hl, _, _, _, _ => by
    unfold followF
    rw [if_pos (show p = -1 from hl), List.append_nil]
  | a :: m, p, out, f + 1, ⟨hp, hl⟩, hr, hb, hd, hf => by
    subst hp
    have hpr := hr p (by simp)
    have hb1 := hb (by simp)
    unfold followF
    rw [if_neg (by omega), if_neg, link_followF m _ (out ++ [p]) f hl (fun a ha => hr a (List.mem_cons_of_mem _ ha)) (fun _ => by simpa using hb1) (by simpa using hd) (by simpa using hf)]
    · simp
    · simp only [not_or, Bool.not_eq_false, Bool.not_eq_true]
      refine ⟨by simp at hb1; omega, inW_iff.2 hpr, ?_⟩
      unfold hasI
      rw [← Bool.not_eq_true, List.contains_iff_mem]
      intro hm
      rw [List.nodup_append] at hd
      exact hd.2.2 p hm p (by simp) rfl
  | [], _, _, 0, _, _, _, _, h => by simp at h
  | _ :: _, _, _, 0, _, _, _, _, h => by simp at h
theorem follow_iff {xs : List Int} {p most : Int} {l : List Int} : follow xs p most = some l ↔ Link xs p l ∧ (∀ a ∈ l, 0 ≤ a ∧ a < xs.length) ∧ (l ≠ [] → (l.length : Int) ≤ most) ∧ l.Nodup := by
  constructor
  · intro h
    obtain ⟨m, hm, h1, h2, h3, h4⟩ := followF_link _ _ _ _ h
    simp only [List.nil_append] at hm
    subst hm
    exact ⟨h1, h2, h3, h4 (by simp)⟩
  · rintro ⟨h1, h2, h3, h4⟩
    have h5 := nodup_le xs.length l h4 h2
    exact link_followF l p [] _ h1 h2 (by simpa using h3) (by simpa using h4) (by omega)
theorem Link.move {xs ys : List Int} : ∀ {m : List Int} {p : Int}, Link xs p m → (∀ a ∈ m, ys.getD a.toNat 0 = xs.getD a.toNat 0) → Link ys p m
  | [], _, h, _ => h
  | a :: m, _, ⟨h1, h2⟩, he => ⟨h1, by rw [he a (by simp)]; exact h2.move fun b hb => he b (List.mem_cons_of_mem _ hb)⟩

/-! ## Slabs, caches -/
theorem SlOk.move {s s' : Sy} {c c' : Ca} {x : Sl} (h : SlOk s c x) (hz : c'.z = c.z) (hr : c'.r = c.r) (ho : c'.o = c.o) (hl : ∀ b ∈ s.h.live, b ∈ s'.h.live) (hw : s'.w.length = s.w.length) (hs : ∀ a : Int, objB c x.p a = true → s'.w.getD a.toNat 0 = s.w.getD a.toNat 0) : SlOk s' c' x := by
  obtain ⟨b, hb, h1, h2⟩ := h.live
  obtain ⟨l, h3, h4, h5⟩ := h.chain
  refine ⟨⟨b, hl b hb, h1, by rw [ho]; exact h2⟩, l, ?_, h4, fun a ha => ?_⟩
  · rw [hr]
    rw [follow_iff] at h3 ⊢
    rw [hw]
    exact ⟨h3.1.move fun a ha => hs a (h5 a ha), h3.2⟩
  · have h6 := h5 a ha
    unfold objB at h6 ⊢
    rw [hz, hr]
    exact h6
theorem CaOk.move {s s' : Sy} {c : Ca} (h : CaOk s c) (hc : s'.h.cpus = s.h.cpus) (hs : ∀ x ∈ c.sl, SlOk s' c x) : CaOk s' c :=
  ⟨h.z, h.o, h.r, h.ns, h.nm, h.nr, by rw [hc]; exact h.ac, h.sr, hs, h.aw, h.ad⟩
/-- a cache has changed -/
theorem SOk.upd {s s' : Sy} (hk : SOk s) {i : Nat} {c c' : Ca} (hi : s.cs[i]? = some c) (hw : s'.w.length = 4096) (hh : HOk s'.h) (hcs : s'.cs = s.cs.set i c') (hz : c'.z = c.z) (hn : c'.ns = c.ns) (hc : CaOk s' c') (ho : ∀ d ∈ s.cs, CaOk s' d)
    (hp : ∀ x ∈ c'.sl, (∃ y ∈ c.sl, y.p = x.p) ∨ ∀ d ∈ s.cs, ∀ y ∈ d.sl, y.p ≠ x.p) : SOk s' := by
  obtain ⟨hil, hic⟩ := List.getElem?_eq_some_iff.1 hi
  have key : ∀ {R : Ca → Ca → Prop}, s.cs.Pairwise R → (∀ j (hj : j < s.cs.length), j < i → R s.cs[j] c → R s.cs[j] c') → (∀ j (hj : j < s.cs.length), i < j → R c s.cs[j] → R c' s.cs[j]) → s'.cs.Pairwise R := fun {R} h1 h2 h3 => by
    rw [hcs]
    rw [List.pairwise_iff_getElem] at h1 ⊢
    intro j k hj hk' hjk
    rw [List.length_set] at hj hk'
    have h4 := h1 j k hj hk' hjk
    rw [List.getElem_set, List.getElem_set]
    split
    · rename_i e
      subst e
      rw [if_neg (by omega)]
      exact h3 k hk' hjk (by rw [← hic]; exact h4)
    · split
      · rename_i e
        subst e
        exact h2 j hj hjk (by rw [← hic]; exact h4)
      · exact h4
  refine ⟨hw, hh, by rw [hcs, List.length_set]; exact hk.cl, fun d hd => ?_, key hk.zd (fun _ _ _ h => by rw [hz]; exact h) (fun _ _ _ h => by rw [hz]; exact h), key hk.nd (fun _ _ _ h => by rw [hn]; exact h) (fun _ _ _ h => by rw [hn]; exact h), key hk.pd (fun j hj _ h x hx y hy => ?_) (fun j hj _ h x hx y hy => ?_)⟩
  · rw [hcs] at hd
    rcases List.mem_or_eq_of_mem_set hd with h | rfl
    · exact ho d h
    · exact hc
  · rcases hp y hy with ⟨y', hy', e⟩ | h'
    · rw [← e]
      exact h x hx y' hy'
    · exact h' _ (List.getElem_mem hj) x hx
  · rcases hp x hx with ⟨x', hx', e⟩ | h'
    · rw [← e]
      exact h x' hx' y hy
    · exact fun e => h' _ (List.getElem_mem hj) y hy e.symm
end Go.Proofs.YtkcaheebaicinaaGreatDoor
/- Contracts of package boot: pages (which pages are in regions). -/
namespace Go.Proofs.YtkcaheebaicinaaGreatDoor
open Go.RowKit
set_option linter.unusedVariables false

def vB (b : Bool) : Value := .bool b
/-- 256 marks -/
def bl (f : Nat → Bool) : List Bool := (List.range 256).map f
theorem bl_length (f : Nat → Bool) : (bl f).length = 256 := by simp [bl]
theorem bl_congr {f g : Nat → Bool} (h : ∀ p, p < 256 → f p = g p) : bl f = bl g := List.map_congr_left fun p hp => h p (List.mem_range.1 hp)
theorem bl_get (f : Nat → Bool) (i : Nat) (h : i < 256) : (bl f)[i]? = some (f i) := by simp [bl, h]
theorem bl_set (f : Nat → Bool) (i : Nat) (v : Bool) : (bl f).set i v = bl (fun p => if p = i then v else f p) := by
  apply List.ext_getElem?
  intro j
  rw [List.getElem?_set]
  by_cases hj : j < 256
  · rw [bl_get _ j hj, bl_get _ j hj, bl_length]
    by_cases e : i = j
    · subst e; simp [hj]
    · rw [if_neg e, if_neg (fun h => e h.symm)]
  · have h1 : (bl f)[j]? = none := List.getElem?_eq_none (by rw [bl_length]; omega)
    have h2 : (bl (fun p => if p = i then v else f p))[j]? = none := List.getElem?_eq_none (by rw [bl_length]; omega)
    rw [h1, h2, bl_length]
    split
    · rw [if_neg (by omega)]
    · rfl

def inOne (r : Rg) (p : Nat) : Bool := decide (r.f ≤ (p : Int) ∧ (p : Int) < r.f + r.s)
def inRg (l : List Rg) (p : Nat) : Bool := l.any fun r => inOne r p

theorem ck_small {r : Rg} (h : ckRg r = true) : r.small := by
  have := ck_parts h
  unfold Rg.small
  omega

theorem rgFrom_all : ∀ (l : List Rg) (p : Option Rg), rgFrom p l = true → ∀ r ∈ l, ckRg r = true
  | [], _, _, r, hr => by simp at hr
  | x :: l, p, h, r, hr => by
    simp only [rgFrom, Bool.and_eq_true] at h
    rcases List.mem_cons.1 hr with rfl | hr
    · exact h.1.1
    · exact rgFrom_all l (some x) h.2 r hr
theorem listOk_all {l : List Rg} (h : listOk l = true) : ∀ r ∈ l, ckRg r = true := by
  simp only [listOk, Bool.and_eq_true] at h
  exact rgFrom_all l none h.2
theorem listOk_small {l : List Rg} (h : listOk l = true) : ∀ r ∈ l, r.small := fun r hr => ck_small (listOk_all h r hr)
theorem listOk_len {l : List Rg} (h : listOk l = true) : l.length ≤ 40 := by
  simp only [listOk, Bool.and_eq_true, decide_eq_true_eq] at h
  exact h.1

theorem info_bool : (Tryz.prog.info? 4).map (fun i => (i.zero, i.size, i.bytes)) = some (some (.bool false), 1, 1) := by kernel_rfl
theorem bl_zero : (List.replicate 256 (Value.bool false)) = (bl fun _ => false).map vB := by
  rw [show (bl fun _ => false) = List.replicate 256 false from by decide +kernel, List.map_replicate]
  rfl

theorem inRg_take_succ (l : List Rg) (k : Nat) (hk : k < l.length) (p : Nat) : inRg (l.take (k + 1)) p = (inRg (l.take k) p || inOne l[k] p) := by
  unfold inRg
  rw [List.take_succ_eq_append_getElem hk, List.any_append]
  simp

set_option maxRecDepth 100000 in
theorem pages_any (a : Option Addr) (n cap : Nat) (l : List Rg) (w : World) (hn : l.length = n) (hr : Row w a (flat encRg l)) (hok : ∀ r ∈ l, ckRg r = true) (hl : n ≤ 9223372036854775807) :
    Calls Tryz.prog 51 #[.slice a n cap] w fun e w' => ∃ a' c', e = .returned (.slice a' 256 c') ∧ w'.ownsRow w.heap.size 4 1 (.slice a' 256 c') 256 ((bl (inRg l)).map vB) ∧ Below w.heap.size w w' := by
  subst hn
  obtain ⟨i0, hi, hz, hsize, hby⟩ := info_parts info_bool
  go_enter Tryz.func51, Tryz.ntmps51
  go_wp2_with (at_make; refine wpList_make_full _ rfl _ _ 106 rfl w.heap.size 4 i0 (.bool false) 1 Tryz.underlying106 hi hz hsize .i64 .i64 _ _ 256 rfl rfl rfl rfl ?q1 ?q2 ?q3 ?_)
  case q1 => rw [hby]; omega
  case q2 => unfold maxLen; omega
  case q3 => exact Nat.le_refl _
  intro w1 hown hgrow
  rw [toList_madeCells_one, bl_zero] at hown
  have HO := Hid.mk hown
  have hbw := (Below.refl w.heap.size w).grown hgrow (Nat.le_refl _) (by simp)
  clear hown hgrow
  go_wp2
  go_loopw [5, 6, 10] (fun _ _ s10 wr => ∃ k : Nat, k ≤ l.length ∧ s10 = .int .i64 k ∧ Hid (wr.ownsRow w.heap.size 4 1 (.slice (some ⟨w.heap.size, 0, none⟩) 256 256) 256 ((bl (inRg (l.take k))).map vB)) ∧ Below w.heap.size w wr) (fun _ _ s10 _ => l.length - (intOf s10).toNat)
  case atStart => exact ⟨0, Nat.zero_le _, rfl, HO, hbw⟩
  case round =>
    obtain ⟨k, hk, rfl, hown, hbw⟩ := hrel
    by_cases hlt : k < l.length
    · obtain ⟨b, off, rfl, hb, hc⟩ := row_elem encRg_length (by decide) (hr.below hbw) hlt
      have hc0 := hc 0 (vI l[k].f) rfl
      have hc1 := hc 1 (vI l[k].s) rfl
      simp only [vI, Nat.add_zero] at hc0 hc1
      have hck := hok l[k] (List.getElem_mem hlt)
      obtain ⟨g1, g2, g3, g4⟩ := ck_parts hck
      have hsm := ck_small hck
      have hsucc := inRg_take_succ l k hlt
      generalize hrr : l[k] = r at *
      clear hrr hok
      obtain ⟨f, s⟩ := r
      simp only at g1 g2 g3 g4 hc0 hc1
      obtain ⟨f, rfl⟩ := Int.eq_ofNat_of_zero_le g1
      obtain ⟨s, rfl⟩ := Int.eq_ofNat_of_zero_le (show (0 : Int) ≤ s by omega)
      have HSUCC := Hid.mk hsucc
      clear hsucc
      go_wp2
      have hb2 : Below w.heap.size w (wr.alloc (.cells #[.int .i64 (f : Int), .int .i64 (s : Int)] 24)) := hbw.alloc hbw.size _
      have B2 := box_new wr #[.int .i64 (f : Int), .int .i64 (s : Int)] 24
      have hs2 : wr.heap.size < (wr.alloc (.cells #[.int .i64 (f : Int), .int .i64 (s : Int)] 24)).heap.size := by simp
      have HO2 := Hid.mk (own_below hown.out (below_alloc wr (.cells #[.int .i64 (f : Int), .int .i64 (s : Int)] 24)) (Nat.le_refl _))
      have hne : w.heap.size < wr.heap.size := by
        obtain ⟨g, v, e, _, h, _⟩ := own_cell hown.out 0 (by simp [bl_length])
        obtain rfl : w.heap.size = g := by simpa using e
        exact h
      generalize wr.alloc (.cells #[.int .i64 (f : Int), .int .i64 (s : Int)] 24) = w2 at *
      generalize wr.heap.size = bb at *
      go_loopw [6] (fun s6 wq => ∃ i : Nat, f ≤ i ∧ i ≤ f + s ∧ s6 = .int .i64 i ∧ Hid (wq.ownsRow w.heap.size 4 1 (.slice (some ⟨w.heap.size, 0, none⟩) 256 256) 256 ((bl (fun p => inRg (l.take k) p || (decide (f ≤ p) && decide (p < i)))).map vB)) ∧ Below w.heap.size w wq ∧ Hid (∀ o, wq.cell? ⟨bb, o, none⟩ = (#[.int .i64 (f : Int), .int .i64 (s : Int)] : Array Value)[o]?) ∧ bb < wq.heap.size) (fun s6 _ => 256 - (intOf s6).toNat)
      case atStart =>
        refine ⟨f, Nat.le_refl _, by omega, rfl, ?_, hb2, B2, hs2⟩
        rw [show bl (fun p => inRg (l.take k) p || (decide (f ≤ p) && decide (p < f))) = bl (inRg (l.take k)) from bl_congr fun p _ => by
          have : (decide (f ≤ p) && decide (p < f)) = false := by
            by_cases h : f ≤ p
            · rw [decide_eq_false (show ¬ p < f by omega), Bool.and_false]
            · rw [decide_eq_false h, Bool.false_and]
          rw [this, Bool.or_false]]
        exact HO2
      case round =>
        obtain ⟨i, hi1, hi2, rfl, hown3, hb3, HB3, hs3⟩ := hrel
        have B3 := HB3.out
        clear B2 HO2 HO hs2 hb2
        by_cases hlti : i < f + s
        · go_wp2_with fail
          refine (end_any ⟨(f : Int), (s : Int)⟩ _ hsm).mono ?_
          rintro e w4 ⟨rfl, hb4⟩
          have B4 := box_step B3 hs3 hb4
          have hown4 := own_below hown3.out hb4 (Nat.le_refl _)
          have hb5 := Below.step hb3 hb4
          have hs4 : bb < w4.heap.size := Nat.lt_of_lt_of_le hs3 hb4.size
          obtain ⟨g, v, e, hg, hgs, hcg, hfg⟩ := own_cell hown4 i (by rw [List.length_map, bl_length]; omega)
          obtain rfl : w.heap.size = g := by simpa using e
          have HO4 := Hid.mk hown4
          clear B3 hown4 hown3 e
          go_wp2
          go_roundw
          case rel =>
            refine ⟨i + 1, by omega, by omega, by go_num, ?_, hb5.setCell (Nat.le_refl _) _, ?_, by simpa using hs4⟩
            · have h := (World.ownsRow.stored HO4.out i (vB true)).1
              rw [← List.map_set, bl_set] at h
              rw [show bl (fun p => inRg (l.take k) p || (decide (f ≤ p) && decide (p < i + 1))) = bl (fun p => if p = i then true else inRg (l.take k) p || (decide (f ≤ p) && decide (p < i))) from bl_congr fun p _ => by
                by_cases e : p = i
                · subst e
                  rw [if_pos rfl, decide_eq_true hi1, decide_eq_true (Nat.lt_succ_self p)]; simp
                · rw [if_neg e, decide_eq_decide.2 (show p < i + 1 ↔ p < i by omega)]]
              exact h
            · intro o
              simp [go_sem, B4]
          case measure => simp [intOf]; omega
        · obtain rfl : i = f + s := by omega
          go_wp2_with fail
          refine (end_any ⟨(f : Int), (s : Int)⟩ _ hsm).mono ?_
          rintro e w4 ⟨rfl, hb4⟩
          have hb5 := Below.step hb3 hb4
          have hown4 := Hid.mk (own_below hown3.out hb4 (Nat.le_refl _))
          clear B3 hown3
          go_wp2
          go_roundw
          case rel =>
            refine ⟨k + 1, by omega, by go_num, ?_, hb5⟩
            rw [show bl (inRg (l.take (k + 1))) = bl (fun p => inRg (l.take k) p || (decide (f ≤ p) && decide (p < f + s))) from bl_congr fun p _ => by
              rw [HSUCC.out p]
              congr 1
              unfold inOne
              rw [← Bool.decide_and]
              exact decide_eq_decide.2 (by simp only; omega)]
            exact hown4.out
          case measure => simp [intOf]; omega
    · obtain rfl : k = l.length := by omega
      rw [List.take_of_length_le (Nat.le_refl _)] at hown
      go_wp2
      go_ret
      exact ⟨_, _, rfl, hown.out, hbw⟩
end Go.Proofs.YtkcaheebaicinaaGreatDoor
