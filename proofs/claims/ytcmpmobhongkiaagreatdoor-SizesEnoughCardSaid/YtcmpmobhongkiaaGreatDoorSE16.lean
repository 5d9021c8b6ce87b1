/- texts of this claim, joined. -/
import Derived.Test.YtcmpmobhongkiaaGreatDoorSE0
import Derived.Test.YtcmpmobhongkiaaGreatDoorSE10
import Derived.Test.YtcmpmobhongkiaaGreatDoorSE15
import Derived.Test.YtcmpmobhongkiaaGreatDoorSE2
import Derived.Test.YtcmpmobhongkiaaGreatDoorSE3
import Derived.Test.YtcmpmobhongkiaaGreatDoorSE5
import Derived.Test.YtcmpmobhongkiaaGreatDoorSE9
import Derived.StringKeys
import Derived.Lib.Strings
set_option linter.unusedVariables false
set_option linter.unusedSimpArgs false
namespace Go.Proofs.YtcmpmobhongkiaaGreatDoor
section
def Link (xs : List Int) : Int → List Int → Prop
 | p, [] => p = -1
 | p, a :: m => p = a ∧ Link xs (xs.getD a.toNat 0) m
theorem IY {n : Nat} {p : Int} : QA n p 1 = true ↔ 0 ≤ p ∧ p < n := by
 unfold QA
 simp only [decide_eq_true_eq]
 omega
theorem sO {xs : List Int} {most : Int} : ∀ (f : Nat) (p : Int) (out l : List Int), fK xs most f p out = some l → ∃ m, l = out ++ m ∧ Link xs p m ∧ (∀ a ∈ m, 0 ≤ a ∧ a < xs.length) ∧ (m ≠ [] → (l.length : Int) ≤ most) ∧ (out.Nodup → l.Nodup)
 | 0, _, _, _, h => by simp [fK] at h
 | f + 1, p, out, l, h => by
  unfold fK at h
  split at h
  ·rename_i hp
   obtain rfl := gP h
   exact ⟨[], by simp, hp, by simp, by simp, id⟩
  ·rename_i hp
   split at h
   ·cases h
   ·rename_i hn
    simp only [not_or, Bool.not_eq_false, Bool.not_eq_true] at hn
    obtain ⟨h1, h2, h3⟩ := hn
    obtain ⟨m, hm, hl, hr, hb, hd⟩ := sO f _ _ l h
    have hpr := IY.1 h2
    refine ⟨p :: m, by rw [hm]; simp, ⟨rfl, hl⟩, fun a ha => ?_, fun _ => ?_, fun ho => hd ?_⟩
    ·rcases List.mem_cons.1 ha with rfl | ha
     ·exact hpr
     ·exact hr a ha
    ·by_cases hme : m = []
     ·subst hme
      rw [hm]
      simp
      omega
     ·exact hb hme
    ·rw [List.nodup_append]
     refine ⟨ho, by simp, fun a ha b hb' e => ?_⟩
     simp only [List.mem_singleton] at hb'
     subst hb' e
     unfold qR at h3
     rw [List.contains_iff_mem.2 ha] at h3
     cases h3
theorem sQ {xs : List Int} {most : Int} : ∀ (m : List Int) (p : Int) (out : List Int) (f : Nat), Link xs p m → (∀ a ∈ m, 0 ≤ a ∧ a < xs.length) → (m ≠ [] → ((out ++ m).length : Int) ≤ most) → (out ++ m).Nodup → m.length + 1 ≤ f → fK xs most f p out = some (out ++ m)
 | [], p, out, f + 1, hl, _, _, _, _ => by
  unfold fK
  rw [if_pos (show p = -1 from hl), List.append_nil]
 | a :: m, p, out, f + 1, ⟨hp, hl⟩, hr, hb, hd, hf => by
  subst hp
  have hpr := hr p (by simp)
  have hb1 := hb (by simp)
  unfold fK
  rw [if_neg (by omega), if_neg, sQ m _ (out ++ [p]) f hl (fun a ha => hr a (List.mem_cons_of_mem _ ha)) (fun _ => by simpa using hb1) (by simpa using hd) (by simpa using hf)]
  ·simp
  ·simp only [not_or, Bool.not_eq_false, Bool.not_eq_true]
   refine ⟨by simp at hb1; omega, IY.2 hpr, ?_⟩
   unfold qR
   rw [← Bool.not_eq_true, List.contains_iff_mem]
   intro hm
   rw [List.nodup_append] at hd
   exact hd.2.2 p hm p (by simp) rfl
 | [], _, _, 0, _, _, _, _, h => by simp at h
 | _ :: _, _, _, 0, _, _, _, _, h => by simp at h
theorem jB {xs : List Int} {p most : Int} {l : List Int} : follow xs p most = some l ↔ Link xs p l ∧ (∀ a ∈ l, 0 ≤ a ∧ a < xs.length) ∧ (l ≠ [] → (l.length : Int) ≤ most) ∧ l.Nodup := by
 constructor
 ·intro h
  obtain ⟨m, hm, h1, h2, h3, h4⟩ := sO _ _ _ _ h
  simp only [List.nil_append] at hm
  subst hm
  exact ⟨h1, h2, h3, h4 (by simp)⟩
 ·rintro ⟨h1, h2, h3, h4⟩
  have h5 := xP xs.length l h4 h2
  exact sQ l p [] _ h1 h2 (by simpa using h3) (by simpa using h4) (by omega)
theorem Link.move {xs ys : List Int} : ∀ {m : List Int} {p : Int}, Link xs p m → (∀ a ∈ m, ys.getD a.toNat 0 = xs.getD a.toNat 0) → Link ys p m
 | [], _, h, _ => h
 | a :: m, _, ⟨h1, h2⟩, he => ⟨h1, by rw [he a (by simp)]; exact h2.move fun b hb => he b (List.mem_cons_of_mem _ hb)⟩

theorem pF.move {s s' : Sy} {c c' : Ca} {x : Sl} (h : pF s c x) (hz : c'.z = c.z) (hr : c'.r = c.r) (ho : c'.o = c.o) (hl : ∀ b ∈ s.h.live, b ∈ s'.h.live) (hw : s'.w.length = s.w.length) (hs : ∀ a : Int, gZ c x.p a = true → s'.w.getD a.toNat 0 = s.w.getD a.toNat 0) : pF s' c' x := by
 obtain ⟨b, hb, h1, h2⟩ := h.live
 obtain ⟨l, h3, h4, h5⟩ := h.chain
 refine ⟨⟨b, hl b hb, h1, by rw [ho]; exact h2⟩, l, ?_, h4, fun a ha => ?_⟩
 ·rw [hr]
  rw [jB] at h3 ⊢
  rw [hw]
  exact ⟨h3.1.move fun a ha => hs a (h5 a ha), h3.2⟩
 ·have h6 := h5 a ha
  unfold gZ at h6 ⊢
  rw [hz, hr]
  exact h6
theorem nP.move {s s' : Sy} {c : Ca} (h : nP s c) (hc : s'.h.aF = s.h.aF) (hs : ∀ x ∈ c.sl, pF s' c x) : nP s' c :=
 ⟨h.z, h.o, h.r, h.ns, h.nm, h.nr, by rw [hc]; exact h.ac, h.sr, hs, h.aw, h.ad⟩
theorem fH.upd {s s' : Sy} (hk : fH s) {i : Nat} {c c' : Ca} (hi : s.cs[i]? = some c) (hw : s'.w.length = 4096) (hh : eY s'.h) (hcs : s'.cs = s.cs.set i c') (hz : c'.z = c.z) (hn : c'.ns = c.ns) (hc : nP s' c') (ho : ∀ d ∈ s.cs, nP s' d)
  (hp : ∀ x ∈ c'.sl, (∃ y ∈ c.sl, y.p = x.p) ∨ ∀ d ∈ s.cs, ∀ y ∈ d.sl, y.p ≠ x.p) : fH s' := by
 obtain ⟨hil, hic⟩ := List.getElem?_eq_some_iff.1 hi
 have key : ∀ {R : Ca → Ca → Prop}, s.cs.Pairwise R → (∀ j (hj : j < s.cs.length), j < i → R s.cs[j] c → R s.cs[j] c') → (∀ j (hj : j < s.cs.length), i < j → R c s.cs[j] → R c' s.cs[j]) → s'.cs.Pairwise R := fun {R} h1 h2 h3 => by
  rw [hcs]
  rw [gN] at h1 ⊢
  intro j k hj hk' hjk
  rw [List.length_set] at hj hk'
  have h4 := h1 j k hj hk' hjk
  rw [List.getElem_set, List.getElem_set]
  split
  ·rename_i e
   subst e
   rw [if_neg (by omega)]
   exact h3 k hk' hjk (by rw [← hic]; exact h4)
  ·split
   ·rename_i e
    subst e
    exact h2 j hj hjk (by rw [← hic]; exact h4)
   ·exact h4
 refine ⟨hw, hh, by rw [hcs, List.length_set]; exact hk.cl, fun d hd => ?_, key hk.zd (fun _ _ _ h => by rw [hz]; exact h) (fun _ _ _ h => by rw [hz]; exact h), key hk.nd (fun _ _ _ h => by rw [hn]; exact h) (fun _ _ _ h => by rw [hn]; exact h), key hk.pd (fun j hj _ h x hx y hy => ?_) (fun j hj _ h x hx y hy => ?_)⟩
 ·rw [hcs] at hd
  rcases List.mem_or_eq_of_mem_set hd with h | rfl
  ·exact ho d h
  ·exact hc
 ·rcases hp y hy with ⟨y', hy', e⟩ | h'
  ·rw [← e]
   exact h x hx y' hy'
  ·exact h' _ (gL hj) x hx
 ·rcases hp x hx with ⟨x', hx', e⟩ | h'
  ·rw [← e]
   exact h x' hx' y hy
  ·exact fun e => h' _ (gL hj) y hy e.symm
end
section
open Go.RowKit

theorem Oe : ∀ x : List UInt8, Go.Op.bytesLess x x = false
 | [] => rfl
 | a :: x => by
  rw [Go.Op.bytesLess, Oe x]
  simp
theorem yA : ∀ {x y z : List UInt8}, Go.Op.bytesLess x y = true → Go.Op.bytesLess y z = true → Go.Op.bytesLess x z = true
 | [], [], _, h, _ => by simp [Go.Op.bytesLess] at h
 | [], _ :: _, [], _, h => by simp [Go.Op.bytesLess] at h
 | [], _ :: _, _ :: _, _, _ => rfl
 | _ :: _, [], _, h, _ => by simp [Go.Op.bytesLess] at h
 | _ :: _, _ :: _, [], _, h => by simp [Go.Op.bytesLess] at h
 | a :: x, b :: y, c :: z, h, k => by
  simp only [Go.Op.bytesLess, Bool.or_eq_true, Bool.and_eq_true, decide_eq_true_eq, beq_iff_eq, UInt8.lt_iff_toNat_lt] at h k ⊢
  rcases h with h | ⟨rfl, h⟩
  ·rcases k with k | ⟨rfl, k⟩
   ·exact .inl (by omega)
   ·exact .inl h
  ·rcases k with k | ⟨rfl, k⟩
   ·exact .inl k
   ·exact .inr ⟨rfl, yA h k⟩
theorem QV {x y : List UInt8} {b : Bool} (h : Go.Op.bytesLess x y = b) : Go.Op.bytesLess (ByteArray.mk x.toArray).toList (ByteArray.mk y.toArray).toList = b := by
 rw [Go.Lib.toList_data, Go.Lib.toList_data]
 exact h
theorem Kw {x y : List UInt8} (w : World) {b : Bool} (h : Go.Op.bytesLess x y = b) : (binOp .geq 9 (.string ⟨x.toArray⟩) (.string ⟨y.toArray⟩)).run Tryz.prog w = .ok (.bool (!b)) w := by
 simp [binOp, Go.Op.stringOp]
 exact h

theorem Gz : (Tryz.prog.info? 4).map (fun i => (i.zero, i.size, i.bytes)) = some (some (.bool false), 1, 1) := by kernel_rfl
theorem yB (w : World) : (zeroValue 4).run Tryz.prog w = .ok (.bool false) w := by
 obtain ⟨i, hi, hz, hs, hb⟩ := info_parts Gz
 simp [zeroValue, typeInfo, hi, hz]
theorem uX {w w' : World} {B n : Nat} (hg : w.grownBy w' (some B)) (h1 : n ≤ B) (h2 : n ≤ w.heap.size) : Below n w w' :=
 ⟨hg.os, hg.tape, hg.output, hg.size, fun k hk => hg.block k (by omega) (by simp; omega)⟩
theorem Jd {w w' : World} {B b : Nat} {vs : Array Value} (hk : ∀ o, w.cell? ⟨b, o, none⟩ = vs[o]?) (hg : w.grownBy w' (some B)) (hb : b < w.heap.size) (hne : b ≠ B) (o : Nat) : w'.cell? ⟨b, o, none⟩ = vs[o]? :=
 (World.cell?_of_block (w := w) (a := ⟨b, o, none⟩) (hg.block b hb (by simp; exact hne))).trans (hk o)
section
variable {w : World} {B n : Nat} {S : Lit → Prop}
theorem TD (l : List UInt8) (hl : l.length ≤ 1000) : keyOf Tryz.prog 9 (sV l) = some (.string l) := by
 have h := Go.WideMaps.keyOf_string_mk Tryz.underlying9 (s := ByteArray.mk l.toArray) (by unfold maxLen; show l.toArray.size ≤ _; simp; omega)
 simpa [sV] using h
theorem TG (p : Nat) (hp : p ≤ 1000) : keyOf Tryz.prog 3 (.int .i64 (p : Int)) = some (.int .i64 (p : Int)) :=
 Go.Maps.keyOf_int_mk Tryz.underlying3 (by
  show (decide (IntKind.i64.min ≤ (p : Int)) && decide ((p : Int) ≤ IntKind.i64.max)) = true
  rw [show IntKind.i64.min = -9223372036854775808 from rfl, show IntKind.i64.max = 9223372036854775807 from rfl]
  simp
  omega)
theorem Eh (h : dO w Tryz.prog 9 4 B n S) (l : List UInt8) (hl : l.length ≤ 1000) (hno : ¬ S (.string l)) : (Instr.lookup 147 (.map (some B)) (sV l) false).run Tryz.prog w = .ok (.bool false) w :=
 h.out (Go.Maps.string_keyed Tryz.underlying9) Tryz.underlying147 Tryz.underlying4 (yB w) (TD l hl) trivial hno
theorem Ei (h : dO w Tryz.prog 9 4 B n S) (hn : n ≤ 1000000) (l : List UInt8) (hl : l.length ≤ 1000) : ∃ w', (Instr.mapUpdate 147 (.map (some B)) (sV l) (.bool true)).run Tryz.prog w = .ok () w' ∧ dO w' Tryz.prog 9 4 B (n + 1) (fun x => x = .string l ∨ S x) ∧ w.grownBy w' (some B) :=
 h.put (Go.Maps.string_keyed Tryz.underlying9) Tryz.underlying147 Tryz.underlying4 (by unfold maxLen; omega) (TD l hl) trivial
theorem Og (h : dO w Tryz.prog 3 4 B n S) (p : Nat) (hp : p ≤ 1000) (hno : ¬ S (.int .i64 (p : Int))) : (Instr.lookup 148 (.map (some B)) (.int .i64 (p : Int)) false).run Tryz.prog w = .ok (.bool false) w :=
 h.out (Go.Maps.int_keyed Tryz.underlying3) Tryz.underlying148 Tryz.underlying4 (yB w) (TG p hp) trivial hno
theorem Oh (h : dO w Tryz.prog 3 4 B n S) (hn : n ≤ 1000000) (p : Nat) (hp : p ≤ 1000) : ∃ w', (Instr.mapUpdate 148 (.map (some B)) (.int .i64 (p : Int)) (.bool true)).run Tryz.prog w = .ok () w' ∧ dO w' Tryz.prog 3 4 B (n + 1) (fun x => x = .int .i64 (p : Int) ∨ S x) ∧ w.grownBy w' (some B) :=
 h.put (Go.Maps.int_keyed Tryz.underlying3) Tryz.underlying148 Tryz.underlying4 (by unfold maxLen; omega) (TG p hp) trivial
end
end
section
open Go.RowKit

structure Rs where
 e : TypeId
 k : Nat
 v : Value
 n : Nat
 xs : List Value
def Rs.on (r : Rs) (W : World) (base : Nat) : Prop := W.ownsRow base r.e r.k r.v r.n r.xs
def Rs.off (a b : Rs) : Prop := ∀ g, a.v.ownBlock = some g → b.v.ownBlock ≠ some g
theorem Rs.off.symm {a b : Rs} (h : a.off b) : b.off a := fun g h1 h2 => h g h2 h1

structure dA (W : World) (base : Nat) (rs : List Rs) : Prop where
 each : ∀ r ∈ rs, r.on W base
 Bl : rs.Pairwise Rs.off

section
variable {W W' : World} {iU : Nat} {rs : List Rs}
theorem dA.below (h : dA W iU rs) (hb : Below W.heap.size W W') : dA W' iU rs := ⟨fun r hr => own_below (h.each r hr) hb (Nat.le_refl _), h.Bl⟩
theorem dA.base {base' : Nat} (h : dA W iU rs) (hb : base' ≤ iU) : dA W base' rs := ⟨fun r hr => own_base (h.each r hr) hb, h.Bl⟩
theorem dA.ne (h : dA W iU rs) {g : Nat} (hg : g < iU ∨ W.heap.size ≤ g) : ∀ r ∈ rs, r.v.ownBlock ≠ some g := fun r hr => own_ne (h.each r hr) hg
theorem dA.far (h : dA W iU rs) {g : Nat} (hg : ∀ r ∈ rs, r.v.ownBlock ≠ some g) (i : Nat) (u : Value) : dA (W.setCell ⟨g, i, none⟩ u) iU rs := ⟨fun r hr => dG (h.each r hr) (hg r hr) u, h.Bl⟩
theorem dA.at (h : dA W iU rs) {i : Nat} (hi : i < rs.length) : rs[i].on W iU := h.each _ (gL hi)
theorem dA.off (h : dA W iU rs) {i j : Nat} (hi : i < rs.length) (hj : j < rs.length) (hne : i ≠ j) : rs[i].off rs[j] := by
 rcases Nat.lt_or_gt_of_ne hne with hlt | hgt
 ·exact List.pairwise_iff_getElem.1 h.Bl i j hi hj hlt
 ·exact (List.pairwise_iff_getElem.1 h.Bl j i hj hi hgt).symm
theorem CQ {rs : List Rs} {i : Nat} {r' : Rs} (hd : rs.Pairwise Rs.off) (hi : i < rs.length) (h : ∀ j (hj : j < rs.length), j ≠ i → r'.off rs[j]) : (rs.set i r').Pairwise Rs.off := by
 rw [gN]
 intro a b ha hb hab
 rw [List.length_set] at ha hb
 rw [List.getElem_set, List.getElem_set]
 by_cases h1 : i = a
 ·subst h1
  rw [if_pos rfl, if_neg (by omega)]
  exact h b hb (by omega)
 ·rw [if_neg h1]
  by_cases h2 : i = b
  ·subst h2
   rw [if_pos rfl]
   exact (h a ha (by omega)).symm
  ·rw [if_neg h2]
   exact List.pairwise_iff_getElem.1 hd a b ha hb hab
theorem rV {rs : List Rs} {i : Nat} {r' r : Rs} (h : r ∈ rs.set i r') : r = r' ∨ ∃ j, ∃ (hj : j < rs.length), j ≠ i ∧ r = rs[j] := by
 obtain ⟨j, hj, rfl⟩ := List.getElem_of_mem h
 rw [List.length_set] at hj
 rw [List.getElem_set]
 by_cases h1 : i = j
 ·rw [if_pos h1]; exact .inl rfl
 ·rw [if_neg h1]; exact .inr ⟨j, hj, fun e => h1 e.symm, rfl⟩
theorem dA.grown (h : dA W iU rs) {i : Nat} (hi : i < rs.length) {r' : Rs} (hg : W.grownBy W' rs[i].v.ownBlock) (ho : r'.on W' iU) (hn : ∀ g, r'.v.ownBlock = some g → rs[i].v.ownBlock = some g ∨ W.heap.size ≤ g) : dA W' iU (rs.set i r') := by
 have hoff : ∀ j (hj : j < rs.length), j ≠ i → r'.off rs[j] := fun j hj hne g h1 h2 => by
  rcases hn g h1 with h3 | h3
  ·exact h.off hi hj (fun e => hne e.symm) g h3 h2
  ·exact own_ne (h.at hj) (.inr h3) h2
 refine ⟨fun r hr => ?_, CQ h.Bl hi hoff⟩
 rcases rV hr with rfl | ⟨j, hj, hne, rfl⟩
 ·exact ho
 ·exact fU (h.at hj) hg (fun k hk e => h.off hi hj (fun e => hne e.symm) k e hk)
theorem dA.swap (h : dA W iU rs) {i : Nat} (hi : i < rs.length) {r' : Rs} {bs : Nat} (ho : r'.on W bs) (hb : iU ≤ bs) (hbs : ∀ j (hj : j < rs.length), j ≠ i → ∀ g, rs[j].v.ownBlock = some g → g < bs) : dA W iU (rs.set i r') := by
 refine ⟨fun r hr => ?_, CQ h.Bl hi fun j hj hne g h1 h2 => ?_⟩
 ·rcases rV hr with rfl | ⟨j, hj, hne, rfl⟩
  ·exact own_base ho hb
  ·exact h.at hj
 ·have h3 := hbs j hj hne g h2
  have h4 := (ho.lt g h1).1
  omega
theorem dA.cell (h : dA W iU rs) {i : Nat} (hi : i < rs.length) {g : Nat} {c : Nat} (hv : rs[i].v = .slice (some ⟨g, 0, none⟩) rs[i].n c) (j : Nat) (u : Value) (hu : u.oneCell' = true) : dA (W.setCell ⟨g, j, none⟩ u) iU (rs.set i { rs[i] with xs := rs[i].xs.set j u }) := by
 have hb : rs[i].v.ownBlock = some g := by rw [hv]; rfl
 refine ⟨fun r hr => ?_, CQ h.Bl hi fun j' hj' hne => h.off hi hj' (fun e => hne e.symm)⟩
 rcases rV hr with rfl | ⟨j', hj', hne, rfl⟩
 ·have h0 := h.at hi
  unfold Rs.on at *
  simp only
  rw [hv] at h0
  have h1 := (World.ownsRow.stored h0 j u).1
  rw [hv]
  exact h1
 ·exact dG (h.at hj') (h.off hi hj' (fun e => hne e.symm) g hb) u
theorem dA.cons (h : dA W iU rs) {r' : Rs} {bs : Nat} (ho : r'.on W bs) (hb : iU ≤ bs) (hbs : ∀ r ∈ rs, ∀ g, r.v.ownBlock = some g → g < bs) : dA W iU (r' :: rs) :=
 ⟨fun r hr => by
  rw [List.mem_cons] at hr
  rcases hr with rfl | hr
  ·exact own_base ho hb
  ·exact h.each r hr, List.pairwise_cons.2 ⟨fun r hr g h1 h2 => by have h3 := hbs r hr g h2; have h4 := (ho.lt g h1).1; omega, h.Bl⟩⟩
theorem dA.sub {rs' : List Rs} (h : dA W iU rs) (hs : rs'.Sublist rs) : dA W iU rs' := ⟨fun r hr => h.each r (hs.subset hr), h.Bl.sublist hs⟩
theorem dA.perm {rs' : List Rs} (h : dA W iU rs) (hp : rs.Perm rs') : dA W iU rs' := ⟨fun r hr => h.each r (hp.mem_iff.2 hr), (hp.pairwise_iff (fun h => Rs.off.symm h)).1 h.Bl⟩
theorem dA.nil (W : World) (iU : Nat) : dA W iU [] := ⟨fun r hr => by simp at hr, List.Pairwise.nil⟩
theorem dA.lt (h : dA W iU rs) : ∀ r ∈ rs, ∀ g, r.v.ownBlock = some g → iU ≤ g ∧ g < W.heap.size := fun r hr g hg => (h.each r hr).lt g hg
end
end
section
theorem kT {z : Zn} {p n : Nat} (h : z.ok) (hd : ∀ q, p ≤ q → q < p + n → ¬ dX z.l q) (hp : z.f ≤ p) (hn : p + n ≤ z.e) : ∀ i, i ≤ n → (dJ z p i).ok ∧ (dJ z p i).f = z.f ∧ (dJ z p i).e = z.e ∧ ∀ q, dX (dJ z p i).l q ↔ (dX z.l q ∨ (p ≤ q ∧ q < p + i))
 | 0, _ => ⟨h, rfl, rfl, fun q => by
   show dX z.l q ↔ _
   constructor
   ·exact .inl
   ·rintro (h | h)
    ·exact h
    ·omega⟩
 | i + 1, hi => by
  obtain ⟨g1, g2, g3, g4⟩ := kT h hd hp hn i (by omega)
  have hfit : bY (dJ z p i).f (dJ z p i).e (p + i) 0 := by rw [g2, g3]; exact ⟨by omega, by omega, by omega, by simp [Nat.mod_one]⟩
  have hap : ∀ x ∈ (dJ z p i).l, apartB (p + i) 0 x := fun x hx => dI fun q hq Vz => by
   unfold inB at hq
   simp only [Nat.pow_zero] at hq
   rcases (g4 q).1 ⟨x, hx, Vz⟩ with h1 | h1
   ·exact hd q (by omega) (by omega) h1
   ·omega
  obtain ⟨k1, k2⟩ := Zn.nO g1 hfit hap
  refine ⟨k1, g2, g3, fun q => ?_⟩
  show dX ((dJ z p i).back (p + i) 0).l q ↔ _
  rw [k2, g4]
  unfold inB
  simp only [Nat.pow_zero, or_assoc]
  constructor
  ·rintro (h | h | h)
   ·exact .inl h
   ·exact .inr (by omega)
   ·exact .inr (by omega)
  ·rintro (h | h)
   ·exact .inl h
   ·exact .inr (by omega)
theorem Iw {z : Zn} {p n i : Nat} (h : z.ok) (hd : ∀ q, p ≤ q → q < p + n → ¬ dX z.l q) (hp : z.f ≤ p) (hn : p + n ≤ z.e) (hi : i < n) : bY (dJ z p i).f (dJ z p i).e (p + i) 0 ∧ ∀ x ∈ (dJ z p i).l, apartB (p + i) 0 x := by
 obtain ⟨g1, g2, g3, g4⟩ := kT h hd hp hn i (by omega)
 refine ⟨by rw [g2, g3]; exact ⟨by omega, by omega, by omega, by simp [Nat.mod_one]⟩, fun x hx => dI fun q hq Vz => ?_⟩
 unfold inB at hq
 simp only [Nat.pow_zero] at hq
 rcases (g4 q).1 ⟨x, hx, Vz⟩ with h1 | h1
 ·exact hd q (by omega) (by omega) h1
 ·omega
end
section
open Go.RowKit
theorem SN {z : Zn} (hz : z.ok) : z.l.length ≤ 256 := by
 refine gQ ?_ (Nz hz)
 generalize z.l = l
 induction l with
 | nil => simp
 | cons b l ih =>
  have := dH b.o
  simp only [szB, List.length_cons]
  omega

set_option maxHeartbeats 4000000 in
set_option maxRecDepth 100000 in
theorem FI (a1 a2 : Option Addr) (n1 n2 c1 c2 : Nat) (z : Zn) (p n : Nat) (w : World) (hat : Dy w a1 a2 n1 n2 z) (hz : z.ok) (hd0 : ∀ q, p ≤ q → q < p + n → ¬ dX z.l q) (hp : z.f ≤ p) (hn : p + n ≤ z.e) :
  Calls Tryz.prog 104 #[.agg #[.int .i64 z.f, .int .i64 z.e, .slice a1 n1 c1, .slice a2 n2 c2], .int .i64 p, .int .i64 n] w fun ev w' => ∃ a1' a2' n1' c1' c2', ev = .returned (.tuple #[.agg #[.int .i64 z.f, .int .i64 z.e, .slice a1' n1' c1', .slice a2' n2 c2'], .int .i64 0]) ∧ eU w' w.heap.size a1' a2' n1' n2 c1' c2' (dJ z p n) ∧ Below w.heap.size w w' := by
 have hee := hz.1.e2
 have l1 := hat.l1
 have l2 := hat.l2
 have hl0 : z.l.length ≤ 256 := SN hz
 have HD := gO hd0
 have hy32 : z.y.length ≤ 32 := by rw [hz.1.len]; omega
 obtain ⟨K3, K6, F3, F6, hsz, hbw⟩ := boxes2 w #[.int .i64 (z.f : Int), .int .i64 (z.e : Int), .slice a1 n1 c1, .slice a2 n2 c2] 102 #[.int .i64 0, .int .i64 0, .slice none 0 0, .slice none 0 0] 102
 have nC := hat.below hbw
 have d1 : decide (p < z.f) = false := decide_eq_false (by omega)
 have d2 : decide ((z.e : Int) < p) = false := decide_eq_false (by omega)
 have d3 : decide ((z.e : Int) - p < n) = false := decide_eq_false (by omega)
 have d4 : decide (z.e < p) = false := decide_eq_false (by omega)
 have d5 : (p : Int) ≤ z.e := by omega
 clear hat hd0
 go_enter Tryz.func104, Tryz.ntmps104
 go_wp2_with fail
 generalize (w.alloc (.cells #[.int .i64 (z.f : Int), .int .i64 (z.e : Int), .slice a1 n1 c1, .slice a2 n2 c2] 102)).alloc (.cells #[.int .i64 0, .int .i64 0, .slice none 0 0, .slice none 0 0] 102) = w0 at *
 refine (nD _ _ _ _ _ _ z _ nC hz).mono ?_
 rintro ev w1 ⟨rfl, hb1⟩
 have TK := aB K3 (by omega) hb1
 have TL := aB K6 (by omega) hb1
 have TM := aJ F3 (by omega) hb1
 have TN := aJ F6 (by omega) hb1
 have He := nC.below hb1
 have uY := Below.step hbw hb1
 have hB : w.heap.size + 2 ≤ w1.heap.size := by have := hb1.size; omega
 clear K3 K6 F3 F6 hb1 nC hbw hsz
 go_wp2_with fail
 refine (xJ _ _ _ _ _ _ z.f z.e z _ He (by omega) (by omega)).mono ?_
 rintro ev w5 ⟨a3, a4, c3, c4, rfl, hown, hb5⟩
 have TP := aB TK (by omega) hb5
 have TQ := aB TL (by omega) hb5
 have TR := aJ TM (by omega) hb5
 have TS := aJ TN (by omega) hb5
 have xE := Below.step uY hb5
 have hnn := (hown.ne (g := w.heap.size) (.inl (by omega)))
 have I1 : GInv w ((((w5.setCell ⟨w.heap.size, 0, none⟩ (.int .i64 z.f)).setCell ⟨w.heap.size, 1, none⟩ (.int .i64 z.e)).setCell ⟨w.heap.size, 2, none⟩ (.slice a3 n1 c3)).setCell ⟨w.heap.size, 3, none⟩ (.slice a4 n2 c4)) a3 a4 n1 n2 c3 c4 z := by
  have h5 := hb5.size
  exact ⟨aH (aH (aH (aH TP 0 _) 1 _) 2 _) 3 _, aG (aG (aG (aG TR _ _) _ _) _ _) _ _, aA (aA (aA (aA TQ (by omega) _ _) (by omega) _ _) (by omega) _ _) (by omega) _ _, aG (aG (aG (aG TS _ _) _ _) _ _) _ _, (((((hown.base hB).set hnn _ _).set hnn _ _).set hnn _ _).set hnn _ _), by simp only [World.size_setCell]; omega, Below.setCell (Below.setCell (Below.setCell (Below.setCell xE (by simp only; omega) _) (by simp only; omega) _) (by simp only; omega) _) (by simp only; omega) _⟩
 have HI := gO I1
 clear I1 TQ TS hown xE TK TL TM TN He uY hb5 hnn d1 d2 d3 d4 d5
 go_wp2
 clear TP TR
 generalize (((w5.setCell ⟨w.heap.size, 0, none⟩ (.int .i64 z.f)).setCell ⟨w.heap.size, 1, none⟩ (.int .i64 z.e)).setCell ⟨w.heap.size, 2, none⟩ (.slice a3 n1 c3)).setCell ⟨w.heap.size, 3, none⟩ (.slice a4 n2 c4) = w6 at *
 go_loopw [9] (fun s9 wr => ∃ (i : Nat) (b1 b2 : Option Addr) (m1 e1 e2 : Nat), i ≤ n ∧ s9 = .int .i64 ((p + i : Nat) : Int) ∧ Hid (GInv w wr b1 b2 m1 n2 e1 e2 (dJ z p i))) (fun s9 _ => p + n - (intOf s9).toNat)
 case atStart => exact ⟨0, a3, a4, n1, c3, c4, Nat.zero_le _, by simp, HI⟩
 case round =>
  obtain ⟨i, b1, b2, m1, e1, e2, hin, rfl, HK⟩ := hrel
  clear HI
  by_cases hlt : i < n
  ·obtain ⟨g1, g2, g3, g4⟩ := kT (p := p) (n := n) hz HD.out hp hn i (by omega)
   obtain ⟨s1, s2⟩ := Iw (p := p) (n := n) hz HD.out hp hn (i := i) hlt
   have I := HK.out
   have hHi := I.hi
   have k0 := I.k3 0
   have k1 := I.k3 1
   have k2 := I.k3 2
   have k3 := I.k3 3
   simp only [gB, gC, gD] at k0 k1 k2 k3
   have hwr : w.heap.size < wr.heap.size := by omega
   have dl : decide ((p : Int) + i < p + n) = true := decide_eq_true (by omega)
   have dl2 : decide (p + i < p + n) = true := decide_eq_true (by omega)
   have HGE : Hid (dJ z p (i + 1) = (dJ z p i).back (p + i) 0) := rfl
   have HS1 := gO s1
   have HS2 := gO s2
   have HG1 := gO g1
   have HG2 := gO g2
   have HG3 := gO g3
   clear g4 s1 s2 g1 g2 g3
   generalize dJ z p i = y at *
   have HK2 := gO I
   clear I HK
   go_wp2_with fail
   refine (nO _ _ _ _ _ _ y (p + i) 0 _ HK2.out.own.at HG1.out HS1.out HS2.out).mono ?_
   rintro ev w7 ⟨b3, b4, m3, e3, e4, rfl, hown, hb7⟩
   have Rh := hb7.size
   have HK4 := gO (HK2.out.below hb7)
   have wO : eU w7 (w.heap.size + 2) b3 b4 m3 n2 e3 e4 (y.back (p + i) 0) := hown.base hHi
   have HK5 : Hid (GInv w ((((w7.setCell ⟨w.heap.size, 0, none⟩ (.int .i64 y.f)).setCell ⟨w.heap.size, 1, none⟩ (.int .i64 y.e)).setCell ⟨w.heap.size, 2, none⟩ (.slice b3 m3 e3)).setCell ⟨w.heap.size, 3, none⟩ (.slice b4 n2 e4)) b3 b4 m3 n2 e3 e4 (y.back (p + i) 0)) := HK4.out.put wO
   have HK6 := gO (HK5.out.below (aC _ (.cells #[.int .i64 (y.f : Int), .int .i64 (y.e : Int), .slice b3 m3 e3, .slice b4 n2 e4] 102)))
   have ff3 := HK4.out.f3
   have k30 := HK4.out.k3 0
   have k31 := HK4.out.k3 1
   have k32 := HK4.out.k3 2
   have k33 := HK4.out.k3 3
   simp only [gB, gC, gD] at k30 k31 k32 k33
   have Ox : w.heap.size < w7.heap.size := by omega
   clear hown wO k0 k1 k2 k3 HK2 HK4 HK5 hb7
   go_wp2
   go_roundw
   case rel => exact ⟨i + 1, b3, b4, m3, e3, e4, by omega, by go_num, by rw [HGE.out]; exact HK6⟩
   case measure => simp [intOf]; omega
  ·obtain rfl : i = n := by omega
   have HG := kT (p := p) (n := i) hz HD.out hp hn i (by omega)
   have I := HK.out
   have hHi := I.hi
   have k0 := I.k3 0
   have k1 := I.k3 1
   have k2 := I.k3 2
   have k3 := I.k3 3
   rw [HG.2.1, HG.2.2.1] at *
   simp only [gB, gC, gD] at k0 k1 k2 k3
   have x6 := I.k6
   have xf6 := I.f6
   have hwr : w.heap.size < wr.heap.size := by omega
   have HK2 := gO I
   clear I HK
   go_wp2
   refine bodyPost_ret (v := .tuple #[.agg #[.int .i64 z.f, .int .i64 z.e, .slice b1 m1 e1, .slice b2 n2 e2], .int .i64 0]) (by simp [results, Tryz.results104, go_sem, x6]) rfl ⟨b1, b2, m1, e1, e2, rfl, ?_, ?_⟩
   ·have no := HK2.out.own.ne (g := w.heap.size + 1) (.inl (by omega))
    exact ((((HK2.out.own.set no _ _).set no _ _).set no _ _).set no _ _).base (base' := w.heap.size) (by omega)
   ·have hbb := HK2.out.bw
    exact Below.setCell (Below.setCell (Below.setCell (Below.setCell hbb (by simp only; omega) _) (by simp only; omega) _) (by simp only; omega) _) (by simp only; omega) _
end
end Go.Proofs.YtcmpmobhongkiaaGreatDoor
