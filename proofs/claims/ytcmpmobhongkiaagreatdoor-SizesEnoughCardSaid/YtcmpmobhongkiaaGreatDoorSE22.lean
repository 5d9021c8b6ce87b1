/- texts of this claim, joined. -/
import Derived.Test.YtcmpmobhongkiaaGreatDoorSE0
import Derived.Test.YtcmpmobhongkiaaGreatDoorSE11
import Derived.Test.YtcmpmobhongkiaaGreatDoorSE16
import Derived.Test.YtcmpmobhongkiaaGreatDoorSE19
import Derived.Test.YtcmpmobhongkiaaGreatDoorSE21
set_option linter.unusedVariables false
set_option linter.unusedSimpArgs false
namespace Go.Proofs.YtcmpmobhongkiaaGreatDoor
section
theorem xY {h : Hp} (hk : eY h) {b b' : Bk} (hb : b ∈ h.live) (hb' : b' ∈ h.live) (hne : b.a ≠ b'.a) : apartB b.a b.o b' := dI fun q h1 h2 => by
 obtain ⟨i, hi, e⟩ := List.mem_iff_getElem.1 hb
 have h3 := hk.one q
 rw [dM] at h3
 have h4 := AV hi q
 have h5 : b' ∈ h.live.eraseIdx i := by
  obtain ⟨j, hj, e'⟩ := List.mem_iff_getElem.1 hb'
  have hij : j ≠ i := fun e2 => by
   subst e2
   rw [e] at e'
   exact hne (by rw [e'])
  rw [List.mem_eraseIdx_iff_getElem]
  exact ⟨j, hj, hij, e'⟩
 have h6 : 0 < cnt (h.live.eraseIdx i) q := iE.2 ⟨b', h5, h2⟩
 have h7 : hit h.live[i] q = 1 := iQ.2 (by rw [e]; exact h1)
 omega
theorem fH.Ed {s : Sy} (hk : fH s) {c d : Ca} {x y : Sl} {a : Int} (hc : c ∈ s.cs) (hd : d ∈ s.cs) (hx : x ∈ c.sl) (hy : y ∈ d.sl) (h1 : gZ c x.p a = true) (h2 : gZ d y.p a = true) : x.p = y.p := by
 obtain ⟨b, hb, hb1, hb2⟩ := ((hk.ck c hc).sk x hx).live
 obtain ⟨b', hb', hb1', hb2'⟩ := ((hk.ck d hd).sk y hy).live
 apply Decidable.byContradiction
 intro hne
 have h3 := xY hk.hk hb hb' (by rw [hb1, hb1']; exact hne)
 unfold apartB Bk.fin at h3
 rw [hb1, hb2, hb1', hb2'] at h3
 have h4 := jH (hk.ck c hc).room h1
 have h5 := jH (hk.ck d hd).room h2
 generalize 2 ^ c.o = q at *
 generalize 2 ^ d.o = q' at *
 omega
theorem fH.only {s : Sy} (hk : fH s) {i j k l : Nat} {a : Int} (hi : i < s.cs.length) (hj : j < s.cs.length) (hki : k < s.cs[i].sl.length) (hlj : l < s.cs[j].sl.length) (h1 : gZ s.cs[i] s.cs[i].sl[k].p a = true) (h2 : gZ s.cs[j] s.cs[j].sl[l].p a = true) : i = j ∧ k = l := by
 have hp := hk.Ed (gL hi) (gL hj) (gL hki) (gL hlj) h1 h2
 have hij : i = j := by
  rcases Nat.lt_trichotomy i j with h | h | h
  ·exact absurd hp (List.pairwise_iff_getElem.1 hk.pd i j hi hj h _ (gL hki) _ (gL hlj))
  ·exact h
  ·exact absurd hp.symm (List.pairwise_iff_getElem.1 hk.pd j i hj hi h _ (gL hlj) _ (gL hki))
 subst hij
 refine ⟨rfl, ?_⟩
 have hsr := (hk.ck _ (gL hi)).sr
 rw [gN] at hsr
 rcases Nat.lt_trichotomy k l with h | h | h
 ·have := hsr k l hki hlj h
  omega
 ·exact h
 ·have := hsr l k hlj hki h
  omega
end
section
theorem qY : ∀ {l m : List Int}, l.Nodup → (∀ a ∈ l, a ∈ m) → l.length ≤ m.length
 | [], _, _, _ => Nat.zero_le _
 | a :: l, m, hd, hs => by
  rw [List.nodup_cons] at hd
  have h1 := hs a (by simp)
  have h2 := qY (l := l) (m := m.erase a) hd.2 fun b hb => (List.mem_erase_of_ne (fun e => hd.1 (by rw [← e]; exact hb))).2 (hs b (List.mem_cons_of_mem _ hb))
  rw [List.length_erase_of_mem h1] at h2
  have h3 := List.length_pos_of_mem h1
  simp only [List.length_cons]
  omega
theorem NP {p z r : Nat} {a : Int} : a ∈ objs p z r ↔ ∃ j, j < r ∧ a = ((p + j * z : Nat) : Int) := by
 unfold objs
 simp only [List.mem_map, List.mem_range]
 constructor
 ·rintro ⟨j, hj, e⟩; exact ⟨j, hj, e.symm⟩
 ·rintro ⟨j, hj, e⟩; exact ⟨j, hj, e.symm⟩
theorem Ba {c : Ca} {p : Nat} {a : Int} (hz : 1 ≤ c.z) : gZ c p a = true ↔ a ∈ objs (16 * p) c.z c.r := by
 rw [NP]
 constructor
 ·intro h
  obtain ⟨h1, h2, h3⟩ := sN h
  obtain ⟨d, hd⟩ : ∃ d : Nat, a - 16 * p = d := ⟨(a - 16 * p).toNat, by omega⟩
  rw [hd] at h3
  have h4 : d % c.z = 0 := by exact_mod_cast h3
  have h5 : d < c.r * c.z := by
   have : ((d : Nat) : Int) < ((c.r * c.z : Nat) : Int) := by push_cast; omega
   omega
  have h6 : d / c.z * c.z = d := Nat.div_mul_cancel (Nat.dvd_of_mod_eq_zero h4)
  refine ⟨d / c.z, Nat.div_lt_of_lt_mul (by rw [Nat.mul_comm]; exact h5), ?_⟩
  rw [h6]
  push_cast
  omega
 ·rintro ⟨j, hj, rfl⟩
  unfold gZ
  simp only [decide_eq_true_eq]
  have h1 : ((16 * p + j * c.z : Nat) : Int) - 16 * (p : Int) = (j : Int) * c.z := by push_cast; omega
  rw [h1]
  have h2 : (j : Int) * c.z = ((j * c.z : Nat) : Int) := by push_cast; rfl
  have h3 : (c.r : Int) * c.z = ((c.r * c.z : Nat) : Int) := by push_cast; rfl
  have h4 : j * c.z < c.r * c.z := Nat.mul_lt_mul_of_pos_right hj hz
  exact ⟨by omega, by omega, Int.mul_emod_left _ _⟩
theorem Kt {c : Ca} {p : Nat} {l : List Int} (hz : 1 ≤ c.z) (hd : l.Nodup) (ho : ∀ a ∈ l, gZ c p a = true) : l.length ≤ c.r := by
 have h := qY hd fun a ha => (Ba hz).1 (ho a ha)
 rwa [o7] at h
def lJ (w : List Int) (c : Ca) (x : Sl) (a : Int) : Prop := gZ c x.p a = true ∧ ∀ l, follow w x.h c.r = some l → a ∉ l
def Sy.away (s : Sy) (i : Nat) (a : Int) : Prop := ∃ c, s.cs[i]? = some c ∧ ∃ x ∈ c.sl, lJ s.w c x a
theorem NQ {l : List Sl} {k : Nat} (hk : k < l.length) (x' : Sl) (P : Sl → Prop) : (∃ y ∈ l.set k x', P y) ↔ (∃ j, ∃ h : j < l.length, j ≠ k ∧ P l[j]) ∨ P x' := by
 constructor
 ·rintro ⟨y, hy, hp⟩
  obtain ⟨j, hj, e⟩ := List.mem_iff_getElem.1 hy
  rw [List.length_set] at hj
  rw [List.getElem_set] at e
  split at e
  ·exact .inr (e ▸ hp)
  ·rename_i hne
   exact .inl ⟨j, hj, fun e' => hne e'.symm, by rw [e]; exact hp⟩
 ·rintro (⟨j, hj, hne, hp⟩ | hp)
  ·refine ⟨l[j], ?_, hp⟩
   rw [List.mem_iff_getElem]
   exact ⟨j, by simpa using hj, by rw [List.getElem_set, if_neg fun e => hne e.symm]⟩
  ·exact ⟨x', List.mem_iff_getElem.2 ⟨k, by simpa using hk, by simp⟩, hp⟩
theorem NR {l : List Sl} {k : Nat} (hk : k < l.length) (P : Sl → Prop) : (∃ y ∈ l, P y) ↔ (∃ j, ∃ h : j < l.length, j ≠ k ∧ P l[j]) ∨ P l[k] := by
 constructor
 ·rintro ⟨y, hy, hp⟩
  obtain ⟨j, hj, e⟩ := List.mem_iff_getElem.1 hy
  by_cases h : j = k
  ·subst h
   exact .inr (e ▸ hp)
  ·exact .inl ⟨j, hj, h, by rw [e]; exact hp⟩
 ·rintro (⟨j, hj, hne, hp⟩ | hp)
  ·exact ⟨l[j], gL hj, hp⟩
  ·exact ⟨l[k], gL hk, hp⟩
theorem sU {s s' : Sy} {i : Nat} {c c' : Ca} (hi : s.cs[i]? = some c) (hcs : s'.cs = s.cs.set i c') (b : Int) : (s'.away i b ↔ ∃ x ∈ c'.sl, lJ s'.w c' x b) ∧ ∀ j, j ≠ i → (s'.away j b ↔ ∃ d, s.cs[j]? = some d ∧ ∃ x ∈ d.sl, lJ s'.w d x b) := by
 have hil := (List.getElem?_eq_some_iff.1 hi).1
 constructor
 ·unfold Sy.away
  rw [hcs, List.getElem?_set_self hil]
  constructor
  ·rintro ⟨d, hd, h⟩
   obtain rfl := gP hd
   exact h
  ·exact fun h => ⟨c', rfl, h⟩
 ·intro j hj
  unfold Sy.away
  rw [hcs, List.getElem?_set_ne fun e => hj e.symm]
theorem sW {s : Sy} {i : Nat} {c : Ca} (hi : s.cs[i]? = some c) (b : Int) : s.away i b ↔ ∃ x ∈ c.sl, lJ s.w c x b := by
 unfold Sy.away
 rw [hi]
 constructor
 ·rintro ⟨d, hd, h⟩
  obtain rfl := gP hd
  exact h
 ·exact fun h => ⟨c, rfl, h⟩
theorem mY {w : List Int} {c : Ca} {x : Sl} {l : List Int} (h : follow w x.h c.r = some l) (a : Int) : lJ w c x a ↔ gZ c x.p a = true ∧ a ∉ l := by
 unfold lJ
 constructor
 ·exact fun h1 => ⟨h1.1, h1.2 l h⟩
 ·rintro ⟨h1, h2⟩
  refine ⟨h1, fun m hm => ?_⟩
  rw [h] at hm
  obtain rfl := gP hm
  exact h2
theorem fH.NT {s : Sy} (hk : fH s) {i j k : Nat} {c : Ca} {a : Int} (hi : s.cs[i]? = some c) (hj : j < c.sl.length) (hkl : k < c.sl.length) (h1 : gZ c c.sl[j].p a = true) (h2 : gZ c c.sl[k].p a = true) : j = k := by
 obtain ⟨hil, e⟩ := List.getElem?_eq_some_iff.1 hi
 subst e
 exact (hk.only hil hil hj hkl h1 h2).2

theorem fH.NU {s s' : Sy} (hk : fH s) {i k : Nat} {c : Ca} {x : Sl} {a : Int} (hi : s.cs[i]? = some c) (hx : c.sl[k]? = some x) (hn : 0 < x.n) (hp : s.pop i k = some (s', a)) :
  ¬ s.away i a ∧ ∀ j b, s'.away j b ↔ s.away j b ∨ (j = i ∧ b = a) := by
 obtain ⟨_, _, hw, rfl, hs'⟩ := hk.pop hi hx hn hp
 have hxm := gM hx
 obtain ⟨hkl, hkx⟩ := List.getElem?_eq_some_iff.1 hx
 obtain ⟨m, h2, h3, h4, h5, h6, h7⟩ := hk.first (gM hi) hxm hn
 have hnd := (jB.1 h2).2.2.2
 have hob : gZ c x.p x.h = true := h4 x.h (by simp)
 have hnm : x.h ∉ m := (List.nodup_cons.1 hnd).1
 have hnot : ¬ s.away i x.h := by
  rw [sW hi, NR hkl]
  rintro (⟨j, hj, hne, h, _⟩ | h)
  ·exact hne (hk.NT hi hj hkl h (by rw [hkx]; exact hob))
  ·rw [hkx, mY h2] at h
   exact h.2 (by simp)
 refine ⟨hnot, fun j b => ?_⟩
 have hst := sU (s' := s') (c' := { c with sl := c.sl.set k ⟨x.p, x.n - 1, s.w.getD x.h.toNat 0⟩ }) hi (by rw [hs']; rfl) b
 by_cases hj : j = i
 ·subst hj
  rw [hst.1, sW hi, NQ hkl, NR hkl, hkx, mY h2, hw]
  have h8 : lJ s.w { c with sl := c.sl.set k ⟨x.p, x.n - 1, s.w.getD x.h.toNat 0⟩ } ⟨x.p, x.n - 1, s.w.getD x.h.toNat 0⟩ b ↔ gZ c x.p b = true ∧ b ∉ m := mY (x := ⟨x.p, x.n - 1, s.w.getD x.h.toNat 0⟩) (c := { c with sl := c.sl.set k ⟨x.p, x.n - 1, s.w.getD x.h.toNat 0⟩ }) h7 b
  rw [h8]
  have h9 : (∃ j, ∃ h : j < c.sl.length, j ≠ k ∧ lJ s.w { c with sl := c.sl.set k ⟨x.p, x.n - 1, s.w.getD x.h.toNat 0⟩ } c.sl[j] b) ↔ (∃ j, ∃ h : j < c.sl.length, j ≠ k ∧ lJ s.w c c.sl[j] b) := Iff.rfl
  rw [h9, List.mem_cons]
  constructor
  ·rintro (h | ⟨h, h'⟩)
   ·exact .inl (.inl h)
   ·by_cases hb : b = x.h
    ·exact .inr ⟨rfl, hb⟩
    ·exact .inl (.inr ⟨h, fun h0 => h0.elim hb h'⟩)
  ·rintro ((h | ⟨h, h'⟩) | ⟨_, rfl⟩)
   ·exact .inl h
   ·exact .inr ⟨h, fun h0 => h' (.inr h0)⟩
   ·exact .inr ⟨hob, hnm⟩
 ·rw [hst.2 j hj, hw]
  constructor
  ·exact fun h => .inl h
  ·rintro (h | ⟨h, _⟩)
   ·exact h
   ·exact absurd h hj
theorem pF.wG {s s' : Sy} {c : Ca} {x : Sl} (h : pF s c x) (hw : s'.w.length = s.w.length) (hs : ∀ a : Int, gZ c x.p a = true → s'.w.getD a.toNat 0 = s.w.getD a.toNat 0) : follow s'.w x.h c.r = follow s.w x.h c.r := by
 obtain ⟨l, h3, h4, h5⟩ := h.chain
 rw [h3]
 rw [jB] at h3 ⊢
 rw [hw]
 exact ⟨h3.1.move fun a ha => hs a (h5 a ha), h3.2⟩
theorem Bc {w w' : List Int} {c : Ca} {x : Sl} (h : follow w' x.h c.r = follow w x.h c.r) (a : Int) : lJ w' c x a ↔ lJ w c x a := by
 unfold lJ
 rw [h]
theorem fH.QT {s s' : Sy} (hk : fH s) {i cpu k : Nat} {c : Ca} (hi : s.cs[i]? = some c) (fC : cpu < s.h.aF) (hg : s.grow i cpu c = some (s', k)) :
  ∃ a, s'.w = chainTo s.w (16 * a) c.z c.r c.r ∧ s'.cs = s.cs.set i { c with sl := lV c.sl ⟨a, c.r, ((16 * a : Nat) : Int)⟩ } ∧ s'.h.live = bC s.h.live ⟨a, c.o, 0⟩ ∧ 16 * a + c.z * c.r ≤ s.w.length ∧
   ∀ d ∈ s.cs, ∀ x ∈ d.sl, x.p ≠ a ∧ ∀ o : Int, gZ d x.p o = true → s'.w.getD o.toNat 0 = s.w.getD o.toNat 0 := by
 have hck := hk.ck c (gM hi)
 have hor : c.o ≤ 4 := by rw [hck.o]; exact gQ (mX _) (by decide)
 unfold Sy.grow at hg
 cases hal : s.h.alloc cpu c.o 0 false false with
 | none => rw [hal] at hg; cases hg
 | some r =>
  obtain ⟨h', a⟩ := r
  rw [hal] at hg
  have h1 := gP hg
  rw [Prod.mk.injEq] at h1
  obtain ⟨rfl, rfl⟩ := h1
  obtain ⟨hh, hcnt, hsame, hlive, hfit⟩ := hk.hk.alloc fC hor (by decide) hal
  have hcl : h'.live = bC s.h.live ⟨a, c.o, 0⟩ := hlive
  have hap : ∀ b ∈ s.h.live, apartB a c.o b := fun b hb => dI fun q h1 h2 => by
   have h3 := hh.one q
   rw [dM, hcl, qL] at h3
   have h4 : 0 < cnt s.h.live q := iE.2 ⟨b, hb, h2⟩
   have h5 : hit (⟨a, c.o, 0⟩ : Bk) q = 1 := iQ.2 h1
   omega
  have hpp := Nat.two_pow_pos c.o
  have hin : 16 * a + c.z * c.r ≤ s.w.length := by
   have h1 := hck.room
   have h2 : a + 2 ^ c.o ≤ 256 := by
    have h3 : c.o ≤ 2 := by rw [hck.o]; exact mX _
    obtain ⟨_, _, h4, h5⟩ := hfit
    generalize c.o = o at *
    obtain rfl | rfl | rfl : o = 0 ∨ o = 1 ∨ o = 2 := by omega
    ·omega
    ·omega
    ·omega
   rw [Nat.mul_comm c.z, hk.wl]
   generalize c.r * c.z = m at *
   generalize 2 ^ c.o = q at *
   omega
  refine ⟨a, rfl, rfl, hcl, hin, fun d hd x hx => ?_⟩
  have hdk := hk.ck d hd
  obtain ⟨b, hb, hb1, hb2⟩ := (hdk.sk x hx).live
  have h1 := hap b hb
  unfold apartB Bk.fin at h1
  rw [hb1, hb2] at h1
  have hp2 := Nat.two_pow_pos d.o
  refine ⟨by omega, fun o ho => pI _ _ _ _ _ (Nat.le_refl _) _ ?_ hck.z.1⟩
  have h2 := jH hdk.room ho
  have h3 := hck.room
  rw [Nat.mul_comm c.z c.r]
  generalize c.r * c.z = m at *
  generalize 2 ^ c.o = q at *
  generalize 2 ^ d.o = q' at *
  omega
theorem fH.Ku {s s' : Sy} (hk : fH s) {i cpu k : Nat} {c : Ca} (hi : s.cs[i]? = some c) (fC : cpu < s.h.aF) (hg : s.grow i cpu c = some (s', k)) (j : Nat) (b : Int) : s'.away j b ↔ s.away j b := by
 have hck := hk.ck c (gM hi)
 obtain ⟨a, hw, hcs, _, hin, hsl⟩ := hk.QT hi fC hg
 have hwl : s'.w.length = s.w.length := by rw [hw]; exact eG _ _ _ _ _
 have hr1 : 1 ≤ c.r := by rw [hck.r]; exact Ec hck.z
 have hst := sU (s' := s') hi hcs b
 have hsame : ∀ d ∈ s.cs, ∀ x ∈ d.sl, (lJ s'.w d x b ↔ lJ s.w d x b) := fun d hd x hx => Bc (((hk.ck d hd).sk x hx).wG hwl (hsl d hd x hx).2) b
 by_cases hj : j = i
 ·subst hj
  rw [hst.1, sW hi]
  have NV := sH s.w (16 * a) c.z c.r c.r hck.z.1 hr1 hin (by omega)
  rw [if_pos (Int.le_refl _), ← hw] at NV
  constructor
  ·rintro ⟨x, hx, h⟩
   rcases pG.1 hx with rfl | hx
   ·exfalso
    refine h.2 _ NV ?_
    exact (Ba (c := c) hck.z.1).1 h.1
   ·exact ⟨x, hx, (hsame c (gM hi) x hx).1 h⟩
  ·rintro ⟨x, hx, h⟩
   exact ⟨x, pG.2 (.inr hx), (hsame c (gM hi) x hx).2 h⟩
 ·rw [hst.2 j hj]
  unfold Sy.away
  constructor
  ·rintro ⟨d, hd, x, hx, h⟩
   exact ⟨d, hd, x, hx, (hsame d (gM hd) x hx).1 h⟩
  ·rintro ⟨d, hd, x, hx, h⟩
   exact ⟨d, hd, x, hx, (hsame d (gM hd) x hx).2 h⟩
theorem Bd (s : Sy) (i cpu k j : Nat) (b : Int) : (s.mine i cpu k).away j b ↔ s.away j b := by
 unfold Sy.mine
 cases hc : s.cs[i]? with
 | none => rfl
 | some c =>
  simp only
  cases hx : c.sl[k]? with
  | none => rfl
  | some x =>
   have hst := sU (s' := s.jO i { c with ac := c.ac.set cpu (x.p : Int) }) (c' := { c with ac := c.ac.set cpu (x.p : Int) }) hc rfl b
   by_cases hj : j = i
   ·subst hj
    rw [hst.1, sW hc]
    exact Iff.rfl
   ·rw [hst.2 j hj]
    exact Iff.rfl
theorem fH.Ee {s s' : Sy} (hk : fH s) {i cpu k : Nat} {c : Ca} (hi : s.cs[i]? = some c) (fC : cpu < s.h.aF) (hg : s.choose i cpu = some (s', k)) (j : Nat) (b : Int) : s'.away j b ↔ s.away j b := by
 unfold Sy.choose at hg
 rw [hi] at hg
 simp only at hg
 split at hg
 ·have h1 := gP hg
  rw [Prod.mk.injEq] at h1
  rw [← h1.1]
 ·split at hg
  ·have h1 := gP hg
   rw [Prod.mk.injEq] at h1
   rw [← h1.1]
   exact Bd _ _ _ _ _ _
  ·split at hg
   ·rename_i heq
    have h1 := gP hg
    rw [Prod.mk.injEq] at h1
    rw [← h1.1, Bd]
    exact hk.Ku hi fC heq j b
   ·cases hg
theorem fH.NW {s s' : Sy} (hk : fH s) {i cpu : Nat} {c : Ca} {a : Int} (hi : s.cs[i]? = some c) (fC : cpu < s.h.aF) (hg : s.one i cpu = some (s', a)) : ¬ s.away i a ∧ ∀ j b, s'.away j b ↔ s.away j b ∨ (j = i ∧ b = a) := by
 unfold Sy.one at hg
 cases hch : s.choose i cpu with
 | none => rw [hch] at hg; cases hg
 | some r =>
  obtain ⟨s2, k⟩ := r
  rw [hch] at hg
  simp only at hg
  obtain ⟨h1, h2, c', x, h3, h4, h5⟩ := hk.choose hi fC hch
  obtain ⟨h6, h7⟩ := h1.NU h3 h4 h5 hg
  have h8 := fun j b => hk.Ee hi fC hch j b
  exact ⟨fun h => h6 ((h8 i a).2 h), fun j b => by rw [h7, h8]⟩
end
section
theorem Ej : ∀ {x y : List UInt8}, x ≠ y → Go.Op.bytesLess x y = false → Go.Op.bytesLess y x = true
 | [], [], h, _ => absurd rfl h
 | [], _ :: _, _, h => by simp [Go.Op.bytesLess] at h
 | _ :: _, [], _, _ => rfl
 | a :: x, b :: y, hne, h => by
  simp only [Go.Op.bytesLess, Bool.or_eq_false_iff, Bool.and_eq_false_iff, decide_eq_false_iff_not, beq_eq_false_iff_ne] at h
  simp only [Go.Op.bytesLess, Bool.or_eq_true, Bool.and_eq_true, decide_eq_true_eq, beq_iff_eq]
  by_cases hab : a = b
  ·subst hab
   refine .inr ⟨rfl, Ej (fun e => hne (by rw [e])) ?_⟩
   rcases h.2 with h2 | h2
   ·exact absurd rfl h2
   ·exact h2
  ·left
   have h1 := h.1
   rw [UInt8.lt_iff_toNat_lt] at h1 ⊢
   have h3 : a.toNat ≠ b.toNat := fun e => hab (UInt8.toNat_inj.1 e)
   omega
theorem Je {α : Type} (q : α → Bool) (l : List α) : l.take (l.takeWhile q).length = l.takeWhile q ∧ l.drop (l.takeWhile q).length = l.dropWhile q := by
 have h : l.takeWhile q ++ l.dropWhile q = l := List.takeWhile_append_dropWhile
 constructor
 ·conv => lhs; arg 2; rw [← h]
  exact List.take_left' rfl
 ·conv => lhs; arg 2; rw [← h]
  exact List.drop_left' rfl
theorem Jf {α : Type} {q : α → Bool} {y : α} : ∀ {l : List α}, y ∈ l.takeWhile q → q y = true
 | [], h => by simp at h
 | b :: l, h => by
  by_cases hb : q b = true
  ·rw [List.takeWhile_cons_of_pos hb] at h
   rcases List.mem_cons.1 h with rfl | h
   ·exact hb
   ·exact Jf h
  ·rw [List.takeWhile_cons_of_neg hb] at h
   simp at h
theorem TI {n : List UInt8} : ∀ {l : List (List UInt8)}, (l.Pairwise fun x y => Go.Op.bytesLess x y = true) → n ∉ l → ∀ y ∈ l.dropWhile (fun x => Go.Op.bytesLess x n), Go.Op.bytesLess n y = true
 | [], _, _, y, hy => by simp at hy
 | b :: l, hl, hn, y, hy => by
  rw [List.pairwise_cons] at hl
  cases hb : Go.Op.bytesLess b n with
  | true =>
   rw [List.dropWhile_cons_of_pos (p := fun x => Go.Op.bytesLess x n) hb] at hy
   exact TI hl.2 (fun h => hn (List.mem_cons_of_mem _ h)) y hy
  | false =>
   rw [List.dropWhile_cons_of_neg (p := fun x => Go.Op.bytesLess x n) (by simp [hb])] at hy
   have h1 := Ej (x := b) (y := n) (fun e => hn (by rw [← e]; exact List.mem_cons_self)) hb
   rcases List.mem_cons.1 hy with rfl | hy
   ·exact h1
   ·exact yA h1 (hl.1 y hy)
def Ky (l : List (List UInt8)) (n : List UInt8) : List (List UInt8) := l.take (xR l n) ++ n :: l.drop (xR l n)
theorem Kz {l : List (List UInt8)} {n : List UInt8} (hl : l.Pairwise fun x y => Go.Op.bytesLess x y = true) (hn : n ∉ l) : (Ky l n).Pairwise fun x y => Go.Op.bytesLess x y = true := by
 have h : l.takeWhile (fun x => Go.Op.bytesLess x n) ++ l.dropWhile (fun x => Go.Op.bytesLess x n) = l := List.takeWhile_append_dropWhile
 have h3 := hl
 rw [← h, List.pairwise_append] at h3
 unfold Ky xR
 rw [(Je _ l).1, (Je _ l).2, List.pairwise_append, List.pairwise_cons]
 refine ⟨h3.1, ⟨fun y hy => TI hl hn y hy, h3.2.1⟩, fun a ha b hb => ?_⟩
 rcases List.mem_cons.1 hb with rfl | hb
 ·exact Jf (q := fun x => Go.Op.bytesLess x b) ha
 ·exact h3.2.2 a ha b hb
theorem sZ {l : List (List UInt8)} {n y : List UInt8} : y ∈ Ky l n ↔ y = n ∨ y ∈ l := by
 unfold Ky
 conv => rhs; rw [← List.take_append_drop (xR l n) l]
 simp only [List.mem_append, List.mem_cons]
 constructor
 ·rintro (h | h | h)
  ·exact .inr (.inl h)
  ·exact .inl h
  ·exact .inr (.inr h)
 ·rintro (h | h | h)
  ·exact .inr (.inl h)
  ·exact .inl h
  ·exact .inr (.inr h)
theorem GH {α : Type} {R : α → α → Prop} {l : List α} (h : l.Pairwise R) {i : Nat} {c : α} (h2 : ∀ j (hj : j < l.length), j < i → R l[j] c) (h3 : ∀ j (hj : j < l.length), i < j → R c l[j]) : (l.set i c).Pairwise R := by
 rw [gN] at h ⊢
 intro j k hj hk hjk
 rw [List.length_set] at hj hk
 rw [List.getElem_set, List.getElem_set]
 split
 ·rename_i e
  subst e
  rw [if_neg (by omega)]
  exact h3 k hk hjk
 ·split
  ·rename_i e
   subst e
   exact h2 j hj hjk
  ·exact h j k hj hk hjk
theorem fH.create {s s' : Sy} (hk : fH s) {n : List UInt8} {z : Nat} (hnm : nameB n = true) (hz : 1 ≤ z ∧ z ≤ 64) (hno : s.named n = none) (h : s.create n z = some s') : fH s' ∧ s'.h = s.h ∧ s'.w = s.w := by
 have hall : ∀ c ∈ s.cs, n ∉ c.ns := fun c hc hn => by
  unfold Sy.named at hno
  rw [List.findIdx?_eq_none_iff] at hno
  have h1 := hno c hc
  rw [List.contains_iff_mem.2 hn] at h1
  cases h1
 unfold Sy.create at h
 split at h
 ·rename_i i hfd
  rw [List.findIdx?_eq_some_iff_getElem] at hfd
  obtain ⟨hi, hzi, _⟩ := hfd
  rw [gJ hi] at h
  simp only at h
  obtain rfl := gP h
  have hcm := gL hi
  have hck := hk.ck _ hcm
  have hmv : ∀ d ∈ s.cs, nP (s.jO i { s.cs[i] with ns := Ky s.cs[i].ns n }) d := fun d hd => (hk.ck d hd).move rfl fun x hx => ⟨((hk.ck d hd).sk x hx).live, ((hk.ck d hd).sk x hx).chain⟩
  have hne := hall _ hcm
  refine ⟨⟨hk.wl, hk.hk, by show (s.cs.set i _).length ≤ 20; rw [List.length_set]; exact hk.cl, fun d hd => ?_, GH hk.zd (fun j hj hji => ?_) (fun j hj hij => ?_), GH hk.nd (fun j hj hji m hm hm2 => ?_) (fun j hj hij m hm => ?_), GH hk.pd (fun j hj hji => ?_) (fun j hj hij => ?_)⟩, rfl, rfl⟩
  ·rcases List.mem_or_eq_of_mem_set hd with h1 | rfl
   ·exact hmv d h1
   ·refine ⟨hck.z, hck.o, hck.r, fun e => ?_, fun m hm => ?_, Kz hck.nr hne, hck.ac, hck.sr, fun x hx => ⟨(hck.sk x hx).live, (hck.sk x hx).chain⟩, hck.aw, hck.ad⟩
    ·have h2 := (sZ (l := s.cs[i].ns) (n := n) (y := n)).2 (.inl rfl)
     rw [show Ky s.cs[i].ns n = [] from e] at h2
     simp at h2
    ·rcases sZ.1 hm with rfl | hm
     ·exact hnm
     ·exact hck.nm m hm
  ·exact List.pairwise_iff_getElem.1 hk.zd j i hj hi hji
  ·exact List.pairwise_iff_getElem.1 hk.zd i j hi hj hij
  ·rcases sZ.1 hm2 with rfl | hm2
   ·exact hall _ (gL hj) hm
   ·exact List.pairwise_iff_getElem.1 hk.nd j i hj hi hji m hm hm2
  ·rcases sZ.1 hm with rfl | hm
   ·exact hall _ (gL hj)
   ·exact List.pairwise_iff_getElem.1 hk.nd i j hi hj hij m hm
  ·exact List.pairwise_iff_getElem.1 hk.pd j i hj hi hji
  ·exact List.pairwise_iff_getElem.1 hk.pd i j hi hj hij
 ·rename_i hfd
  split at h
  ·cases h
  ·rename_i hl
   obtain rfl := gP h
   rw [List.findIdx?_eq_none_iff] at hfd
   have hcl := hk.cl
   refine ⟨⟨hk.wl, hk.hk, by simp; omega, fun d hd => ?_, ?_, ?_, ?_⟩, rfl, rfl⟩
   ·rcases List.mem_append.1 hd with h1 | h1
    ·exact (hk.ck d h1).move rfl fun x hx => ⟨((hk.ck d h1).sk x hx).live, ((hk.ck d h1).sk x hx).chain⟩
    ·obtain rfl := List.mem_singleton.1 h1
     refine ⟨hz, rfl, rfl, by simp, fun m hm => ?_, by simp, by simp, List.Pairwise.nil, fun x hx => by simp at hx, fun a ha => .inl (List.eq_of_mem_replicate ha), ?_⟩
     ·obtain rfl := List.mem_singleton.1 hm
      exact hnm
     ·rw [gN]
      intro j k hj hk' _ _
      simp
   ·show (s.cs ++ [_]).Pairwise _
    rw [List.pairwise_append]
    refine ⟨hk.zd, by simp, fun a ha b hb => ?_⟩
    obtain rfl := List.mem_singleton.1 hb
    have := hfd a ha
    simpa using this
   ·show (s.cs ++ [_]).Pairwise _
    rw [List.pairwise_append]
    refine ⟨hk.nd, by simp, fun a ha b hb m hm hm2 => ?_⟩
    obtain rfl := List.mem_singleton.1 hb
    obtain rfl := List.mem_singleton.1 hm2
    exact hall a ha hm
   ·show (s.cs ++ [_]).Pairwise _
    rw [List.pairwise_append]
    refine ⟨hk.pd, by simp, fun a ha b hb x hx y hy => ?_⟩
    obtain rfl := List.mem_singleton.1 hb
    simp at hy

def kN (k : Nat) : List UInt8 := match k with
 | 1 => [107, 49]
 | 2 => [107, 50]
 | 4 => [107, 52]
 | 8 => [107, 56]
 | 16 => [107, 49, 54]
 | _ => [107, 51, 50]
def Xk (aF k : Nat) : Ca := ⟨[kN k], k, eH k, dQ k, [], List.replicate aF (-1)⟩
def iG (h : Hp) (j : Nat) : Sy := ⟨List.replicate 4096 0, h, ([1, 2, 4, 8, 16, 32].take j).map (Xk h.aF)⟩
theorem Oi {h : Hp} (hk : eY h) : fH (iG h 0) := by
 have e : (iG h 0).cs = [] := rfl
 refine ⟨List.length_replicate, hk, ?_, fun c hc => ?_, ?_, ?_, ?_⟩
 ·rw [e]; exact Nat.zero_le _
 ·rw [e] at hc; cases hc
 ·rw [e]; exact List.Pairwise.nil
 ·rw [e]; exact List.Pairwise.nil
 ·rw [e]; exact List.Pairwise.nil
theorem yC (h : Hp) {j : Nat} (hj : j < 6) : (iG h j).named (kN ([1, 2, 4, 8, 16, 32].getD j 0)) = none ∧ (iG h j).create (kN ([1, 2, 4, 8, 16, 32].getD j 0)) ([1, 2, 4, 8, 16, 32].getD j 0) = some (iG h (j + 1)) ∧ nameB (kN ([1, 2, 4, 8, 16, 32].getD j 0)) = true := by
 obtain rfl | rfl | rfl | rfl | rfl | rfl : j = 0 ∨ j = 1 ∨ j = 2 ∨ j = 3 ∨ j = 4 ∨ j = 5 := by omega
 all_goals exact ⟨rfl, rfl, by decide⟩
end
section
open Go.RowKit

section
variable {W W' : World} {G : Nat} {X : Nat → Prop} {h : Hp} {c : Hc}
structure Dis (c : Hc) (h : Hp) : Prop where
 zl : (uN c).off (mP c)
 zv : (uN c).off (xK c h)
 zp : ∀ r ∈ c.lc.map iO, (uN c).off r
 lv : (mP c).off (xK c h)
 lp : ∀ r ∈ c.lc.map iO, (mP c).off r
 vp : ∀ r ∈ c.lc.map iO, (xK c h).off r
theorem HR.Bl (hs : HR W G X h c) : Dis c h := by
 have h1 := hs.own.Bl
 unfold Hc.rows at h1
 rw [List.pairwise_cons, List.pairwise_cons, List.pairwise_cons] at h1
 obtain ⟨a, b, d, _⟩ := h1
 exact ⟨a _ (by simp), a _ (by simp), fun r hr => a r (by simp only [List.mem_cons]; exact .inr (.inr hr)), b _ (by simp), fun r hr => b r (List.mem_cons_of_mem _ hr), fun r hr => d r hr⟩
theorem jU {c : Hc} {h : Hp} {r : Rs} (hr : r ∈ c.lc.map iO) : r ∈ c.rows h := by
 unfold Hc.rows
 exact List.mem_cons_of_mem _ (List.mem_cons_of_mem _ (List.mem_cons_of_mem _ hr))
theorem tZ (c : Hc) (h : Hp) : uN c ∈ c.rows h := by simp [Hc.rows]
theorem fM (c : Hc) (h : Hp) : mP c ∈ c.rows h := by simp [Hc.rows]
theorem iH (c : Hc) (h : Hp) : xK c h ∈ c.rows h := by simp [Hc.rows]

structure Ez (W : World) (G : Nat) (X : Nat → Prop) (h : Hp) (c : Hc) (g : Nat) : Prop where
 rows : ∀ r ∈ c.rows h, r.v.ownBlock ≠ some g
 reads : ∀ r ∈ c.reads h, r.v.ownBlock ≠ some g
 ne : g ≠ G
 x : ¬ X g
theorem HR.fresh (hs : HR W G X h c) {g : Nat} (hg : W.heap.size ≤ g) : Ez W' G X h c g :=
 ⟨fun r hr e => by have := (hs.own.lt r hr g e).2; omega, fun r hr e => by have := ((hs.ro r hr).lt g e).2; omega, fun e => by have := hs.gs; omega, fun e => by have := hs.xs g e; omega⟩
theorem HR.lists (hs : HR W G X h c) (hg : W.grownBy W' (mP c).v.ownBlock) {al' : Option Addr} {cl' : Nat} {nY : List Lc} (ho : W'.ownsRow 0 207 4 (.slice al' nY.length cl') nY.length (flat bF nY))
  (hb : ∀ k, (Value.slice al' nY.length cl').ownBlock = some k → (mP c).v.ownBlock = some k ∨ W.heap.size ≤ k) (hp : dA W 0 (nY.map iO)) (hq : ∀ r ∈ nY.map iO, ∀ g, r.v.ownBlock = some g → (∃ r0 ∈ c.lc.map iO, r0.v.ownBlock = some g) ∨ Ez W G X h c g) :
  HR W' G X { h with ls := nY.map Lc.l } { c with al := al', cl := cl', lc := nY } := by
 have D := hs.Bl
 have hlv : xK { c with al := al', cl := cl', lc := nY } { h with ls := nY.map Lc.l } = xK c h := rfl
 have hzs : uN { c with al := al', cl := cl', lc := nY } = uN c := rfl
 have hnew : ∀ s ∈ c.rows h, s ≠ mP c → (mP c).off s → ∀ k, (Value.slice al' nY.length cl').ownBlock = some k → s.v.ownBlock ≠ some k := fun s hs1 _ hoff k hk e => by
  rcases hb k hk with h1 | h1
  ·exact hoff k h1 e
  ·have := (hs.own.lt s hs1 k e).2; omega
 have hrows : ({ c with al := al', cl := cl', lc := nY } : Hc).rows { h with ls := nY.map Lc.l } = uN c :: mP { c with al := al', cl := cl', lc := nY } :: xK c h :: nY.map iO := rfl
 have hnl : ∀ s ∈ c.rows h, (mP c).off s → ∀ k, (Value.slice al' nY.length cl').ownBlock = some k → s.v.ownBlock ≠ some k := fun s hs1 hoff k hk e => by
  rcases hb k hk with h1 | h1
  ·exact hoff k h1 e
  ·have := (hs.own.lt s hs1 k e).2; omega
 have hz1 : (uN c).on W' 0 := fU hs.zs hg (fun k hk e => D.zl k hk e)
 have hv1 : (xK c h).on W' 0 := fU hs.lv hg (fun k hk e => D.lv k e hk)
 have hp1 : ∀ r ∈ nY.map iO, r.on W' 0 := fun r hr => fU (hp.each r hr) hg (fun k hk e => by
  rcases hq r hr k hk with ⟨r0, hr0, h1⟩ | h1
  ·exact D.lp r0 hr0 k e h1
  ·exact h1.rows _ (fM c h) e)
 have hmem : ∀ r ∈ nY.map iO, ∀ s : Rs, (s ∈ c.rows h ∨ s ∈ c.reads h) → (∀ r0 ∈ c.lc.map iO, s.off r0) → s.off r := fun r hr s hsm hso g h1 h2 => by
  rcases hq r hr g h2 with ⟨r0, hr0, h3⟩ | h3
  ·exact hso r0 hr0 g h1 h3
  ·rcases hsm with h4 | h4
   ·exact h3.rows _ h4 h1
   ·exact h3.reads _ h4 h1
 refine ⟨⟨fun r hr => ?_, ?_⟩, fun r hr => fU (hs.ro r hr) hg (fun k hk e => hs.ds r hr _ (fM c h) k hk e), fun r hr s hs' => ?_, fun r hr g hg' => ?_, hs.rg, hs.rx, gI hs.gs hg.size, hs.xg, fun k hk => gI (hs.xs k hk) hg.size, hs.e0, hs.e1, rfl⟩
 ·rw [hrows, List.mem_cons, List.mem_cons, List.mem_cons] at hr
  rcases hr with rfl | rfl | rfl | hr
  ·exact hz1
  ·exact ho
  ·exact hv1
  ·exact hp1 r hr
 ·rw [hrows, List.pairwise_cons, List.pairwise_cons, List.pairwise_cons]
  refine ⟨fun r hr => ?_, fun r hr => ?_, fun r hr => hmem r hr _ (.inl (iH c h)) D.vp, hp.Bl⟩
  ·rw [List.mem_cons, List.mem_cons] at hr
   rcases hr with rfl | rfl | hr
   ·exact fun g h1 h2 => hnl _ (tZ c h) D.zl.symm g h2 h1
   ·exact D.zv
   ·exact hmem r hr _ (.inl (tZ c h)) D.zp
  ·rw [List.mem_cons] at hr
   rcases hr with rfl | hr
   ·exact fun g h1 h2 => hnl _ (iH c h) D.lv g h1 h2
   ·intro g h1 h2
    rcases hq r hr g h2 with ⟨r0, hr0, h3⟩ | h3
    ·exact hnl r0 (jU hr0) (D.lp r0 hr0) g h1 h3
    ·rcases hb g h1 with h4 | h4
     ·exact h3.rows _ (fM c h) h4
     ·have := ((hp.each r hr).lt g h2).2; omega
 ·rw [hrows, List.mem_cons, List.mem_cons, List.mem_cons] at hs'
  have hr2 : r ∈ c.reads h := hr
  rcases hs' with rfl | rfl | rfl | hs'
  ·exact hs.ds r hr2 _ (tZ c h)
  ·intro g h1 h2
   rcases hb g h2 with h3 | h3
   ·exact hs.ds r hr2 _ (fM c h) g h1 h3
   ·have := ((hs.ro r hr2).lt g h1).2; omega
  ·exact hs.ds r hr2 _ (iH c h)
  ·exact hmem s hs' r (.inr hr2) fun r0 hr0 => hs.ds r hr2 r0 (jU hr0)
 ·rw [hrows, List.mem_cons, List.mem_cons, List.mem_cons] at hr
  rcases hr with rfl | rfl | rfl | hr
  ·exact hs.og _ (tZ c h) g hg'
  ·rcases hb g hg' with h3 | h3
   ·exact hs.og _ (fM c h) g h3
   ·exact ⟨fun e => by have := hs.gs; omega, fun e => by have := hs.xs g e; omega⟩
  ·exact hs.og _ (iH c h) g hg'
  ·rcases hq r hr g hg' with ⟨r0, hr0, h3⟩ | h3
   ·exact hs.og r0 (jU hr0) g h3
   ·exact ⟨h3.ne, h3.x⟩
theorem HS.lists (hs : HS W G X h c) (hg : W.grownBy W' (mP c).v.ownBlock) {al' : Option Addr} {cl' : Nat} {nY : List Lc} (ho : W'.ownsRow 0 207 4 (.slice al' nY.length cl') nY.length (flat bF nY))
  (hb : ∀ k, (Value.slice al' nY.length cl').ownBlock = some k → (mP c).v.ownBlock = some k ∨ W.heap.size ≤ k) (hp : dA W 0 (nY.map iO)) (hq : ∀ r ∈ nY.map iO, ∀ g, r.v.ownBlock = some g → (∃ r0 ∈ c.lc.map iO, r0.v.ownBlock = some g) ∨ Ez W G X h c g) :
  HS (W'.setCell ⟨G, 3, none⟩ (.slice al' nY.length cl')) G X { h with ls := nY.map Lc.l } { c with al := al', cl := cl', lc := nY } ∧ Safe X W (W'.setCell ⟨G, 3, none⟩ (.slice al' nY.length cl')) := by
 have hne : (mP c).v.ownBlock ≠ some G := fun e => (hs.r.og _ (fM c h) G e).1 rfl
 have h1 := bJ hs.k hs.r.gs hg (fun e => hne e.symm)
 refine ⟨⟨(hs.r.lists hg ho hb hp hq).jL _ _, ?_, aG (bK hs.fz hs.r.gs hg (fun e => hne e.symm)) _ _⟩, (Safe.kP hg (fun k hk e => (hs.r.og _ (fM c h) k e.symm).2 hk)).set hs.r.xg _ _⟩
 exact aH h1 3 (.slice al' nY.length cl')
end
theorem Ho (l : List Lc) (i : Nat) (hi : i < l.length) (r : Lc) (h0 : r.l.c = l[i].l.c ∧ r.l.z = l[i].l.z ∧ r.l.t = l[i].l.t) : (flat bF l).set (i * 4 + 3) (.slice r.a r.n r.c) = flat bF (l.set i r) := by
 apply List.ext_getElem?
 intro j
 by_cases hj : j < l.length * 4
 ·have hd : j / 4 < l.length := by omega
  have hm : j % 4 < 4 := by omega
  have hjj : j = j / 4 * 4 + j % 4 := by omega
  have g1 := flat_get aP (l.set i r) (j / 4) (by simpa using hd) (j % 4) hm
  have g2 := flat_get aP l (j / 4) hd (j % 4) hm
  rw [← hjj] at g1 g2
  rw [g1, List.getElem?_set]
  by_cases he : i * 4 + 3 = j
  ·have e1 : j / 4 = i := by omega
   have e2 : j % 4 = 3 := by omega
   rw [if_pos he, if_pos (by rw [flat_length aP]; omega)]
   simp only [e1, e2, List.getElem_set_self]
   rfl
  ·rw [if_neg he, g2]
   by_cases e1 : j / 4 = i
   ·subst e1
    simp only [List.getElem_set_self]
    have e2 : j % 4 = 0 ∨ j % 4 = 1 ∨ j % 4 = 2 := by omega
    obtain ⟨a0, a1, a2⟩ := h0
    rcases e2 with e2 | e2 | e2 <;> rw [e2] <;> simp [bF, a0, a1, a2]
   ·rw [List.getElem_set_ne (fun e => e1 e.symm)]
 ·rw [List.getElem?_eq_none (by rw [List.length_set, flat_length aP]; omega), List.getElem?_eq_none (by rw [flat_length aP, List.length_set]; omega)]
section
variable {W W' : World} {G : Nat} {X : Nat → Prop} {h : Hp} {c : Hc}
theorem HR.vH (hs : HR W G X h c) (hn : 0 < c.lc.length) : ∃ g, c.al = some ⟨g, 0, none⟩ ∧ g < W.heap.size ∧ g ≠ G ∧ ¬ X g ∧ ∀ j, j < c.lc.length * 4 → W.frozen? ⟨g, j, none⟩ = false := by
 obtain ⟨g, v, h1, _, h2, _, _⟩ := dW hs.Va 0 (by show 0 < (flat bF c.lc).length; rw [flat_length aP]; omega)
 have h3 : (mP c).v.ownBlock = some g := by unfold mP; rw [h1]; rfl
 have h4 := hs.og (mP c) (fM c h) g h3
 refine ⟨g, h1, h2, h4.1, h4.2, fun j hj => ?_⟩
 obtain ⟨g', v', h5, _, _, _, h6⟩ := dW hs.Va j (by show j < (flat bF c.lc).length; rw [flat_length aP]; omega)
 rw [h1] at h5
 obtain rfl : g = g' := by simpa using h5
 exact h6
theorem HS.page (hs : HS W G X h c) {i : Nat} (hi : i < c.lc.length) (hg : W.grownBy W' (iO c.lc[i]).v.ownBlock) {r : Lc} (ho : (iO r).on W' 0) (h0 : r.l.c = c.lc[i].l.c ∧ r.l.z = c.lc[i].l.z ∧ r.l.t = c.lc[i].l.t)
  (hb : ∀ k, (iO r).v.ownBlock = some k → (iO c.lc[i]).v.ownBlock = some k ∨ W.heap.size ≤ k) {g : Nat} (hal : c.al = some ⟨g, 0, none⟩) :
  HS (W'.setCell ⟨g, i * 4 + 3, none⟩ (.slice r.a r.n r.c)) G X { h with ls := h.ls.set i r.l } { c with lc := c.lc.set i r } ∧ Safe X W (W'.setCell ⟨g, i * 4 + 3, none⟩ (.slice r.a r.n r.c)) := by
 have D := hs.r.Bl
 have hpm : iO c.lc[i] ∈ c.lc.map iO := List.mem_map_of_mem (gL hi)
 obtain ⟨g', hg1, hgs, XA, XB, _⟩ := hs.r.vH (by omega)
 obtain rfl : g = g' := by rw [hal] at hg1; simpa using hg1
 have hlb : (mP c).v.ownBlock = some g := by unfold mP; rw [hal]; rfl
 have hne : (iO c.lc[i]).v.ownBlock ≠ some G := fun e => (hs.r.og _ (jU hpm) G e).1 rfl
 have hneg : (iO c.lc[i]).v.ownBlock ≠ some g := fun e => D.lp _ hpm g hlb e
 have hi3 : 3 + i < (c.rows h).length := by simp [Hc.rows]; omega
 have hri : (c.rows h)[3 + i] = iO c.lc[i] := by
  have : (c.rows h)[3 + i]? = some (iO c.lc[i]) := by
   rw [show 3 + i = i + 3 by omega]
   simp [Hc.rows, hi]
  exact (List.getElem?_eq_some_iff.1 this).2
 have k1 := hs.r.own.grown hi3 (W' := W') (r' := iO r) (by rw [hri]; exact hg) ho (by rw [hri]; exact hb)
 have e1 : (c.rows h).set (3 + i) (iO r) = uN c :: mP c :: xK c h :: (c.lc.set i r).map iO := by
  rw [show 3 + i = i + 3 by omega, List.map_set]
  rfl
 rw [e1] at k1
 have k2 := k1.cell (i := 1) (by simp) (g := g) (c := c.cl) (by show (mP c).v = _; unfold mP; rw [hal]; rfl) (i * 4 + 3) (.slice r.a r.n r.c) rfl
 have e2 : (uN c :: mP c :: xK c h :: (c.lc.set i r).map iO).set 1 { (uN c :: mP c :: xK c h :: (c.lc.set i r).map iO)[1] with xs := ((uN c :: mP c :: xK c h :: (c.lc.set i r).map iO)[1]).xs.set (i * 4 + 3) (.slice r.a r.n r.c) } = ({ c with lc := c.lc.set i r } : Hc).rows { h with ls := h.ls.set i r.l } := by
  unfold Hc.rows
  have e3 : mP { c with lc := c.lc.set i r } = { mP c with xs := (mP c).xs.set (i * 4 + 3) (.slice r.a r.n r.c) } := by
   unfold mP
   simp only [List.length_set]
   rw [← Ho c.lc i hi r h0]
  rw [e3]
  rfl
 rw [e2] at k2
 have hmem : ∀ s ∈ ({ c with lc := c.lc.set i r } : Hc).rows { h with ls := h.ls.set i r.l }, (∃ s0 ∈ c.rows h, s0.v = s.v) ∨ s = iO r := fun s hs' => by
  rw [← e2] at hs'
  rcases List.mem_or_eq_of_mem_set hs' with h1 | h1
  ·rw [List.mem_cons, List.mem_cons, List.mem_cons] at h1
   rcases h1 with h1 | h1 | h1 | h1
   ·exact .inl ⟨_, tZ c h, by rw [h1]⟩
   ·exact .inl ⟨_, fM c h, by rw [h1]⟩
   ·exact .inl ⟨_, iH c h, by rw [h1]⟩
   ·rw [List.map_set] at h1
    rcases List.mem_or_eq_of_mem_set h1 with h2 | h2
    ·exact .inl ⟨s, jU h2, rfl⟩
    ·exact .inr h2
  ·exact .inl ⟨_, fM c h, by rw [h1]; rfl⟩
 have h1 := bJ hs.k hs.r.gs hg (fun e => hne e.symm)
 refine ⟨⟨⟨k2, fun r1 hr => dG (fU (hs.r.ro r1 hr) hg (fun k hk e => hs.r.ds r1 hr _ (jU hpm) k hk e)) (fun e => hs.r.ds r1 hr _ (fM c h) g e hlb) _, fun r1 hr s hs' k hk1 hk2 => ?_, fun s hs' k hk => ?_, hs.r.rg, hs.r.rx, by simpa using gI hs.r.gs hg.size, hs.r.xg, fun k hk => by simpa using gI (hs.r.xs k hk) hg.size, hs.r.e0, hs.r.e1, ?_⟩, ?_, aG (bK hs.fz hs.r.gs hg (fun e => hne e.symm)) _ _⟩, (Safe.kP hg (fun k hk e => (hs.r.og _ (jU hpm) k e.symm).2 hk)).set XB _ _⟩
 ·rcases hmem s hs' with ⟨s0, hs0, hv⟩ | rfl
  ·exact hs.r.ds r1 hr s0 hs0 k hk1 (by rw [hv]; exact hk2)
  ·rcases hb k hk2 with h3 | h3
   ·exact hs.r.ds r1 hr _ (jU hpm) k hk1 h3
   ·have := ((hs.r.ro r1 hr).lt k hk1).2; omega
 ·rcases hmem s hs' with ⟨s0, hs0, hv⟩ | rfl
  ·exact hs.r.og s0 hs0 k (by rw [hv]; exact hk)
  ·rcases hb k hk with h3 | h3
   ·exact hs.r.og _ (jU hpm) k h3
   ·exact ⟨fun e => by have := hs.r.gs; omega, fun e => by have := hs.r.xs k e; omega⟩
 ·rw [List.map_set, hs.r.ll]
 ·have h2 : ({ c with lc := c.lc.set i r } : Hc).vals { h with ls := h.ls.set i r.l } = c.vals h := by
   unfold Hc.vals
   simp only [List.length_set]
  rw [h2]
  exact aA h1 (fun e => XA e.symm) _ _
theorem HS.away (hs : HS W G X h c) (hg : W.grownBy W' (xK c h).v.ownBlock) {nZ : Option Addr} {cv' : Nat} {v' : List Bk} (ho : W'.ownsRow 0 63 3 (.slice nZ v'.length cv') v'.length (flat aN v'))
  (hb : ∀ k, (Value.slice nZ v'.length cv').ownBlock = some k → (xK c h).v.ownBlock = some k ∨ W.heap.size ≤ k) :
  HS (W'.setCell ⟨G, 4, none⟩ (.slice nZ v'.length cv')) G X { h with live := v' } { c with av := nZ, cv := cv' } ∧ Safe X W (W'.setCell ⟨G, 4, none⟩ (.slice nZ v'.length cv')) := by
 have hne : (xK c h).v.ownBlock ≠ some G := fun e => (hs.r.og _ (iH c h) G e).1 rfl
 have h1 := bJ hs.k hs.r.gs hg (fun e => hne e.symm)
 have k1 := hs.r.own.grown (i := 2) (by simp [Hc.rows]) (W' := W') (r' := xK { c with av := nZ, cv := cv' } { h with live := v' }) hg ho hb
 have hmem : ∀ s ∈ ({ c with av := nZ, cv := cv' } : Hc).rows { h with live := v' }, s ∈ c.rows h ∨ s = xK { c with av := nZ, cv := cv' } { h with live := v' } := fun s hs' => List.mem_or_eq_of_mem_set (l := c.rows h) (i := 2) hs'
 refine ⟨⟨(⟨k1, fun r hr => fU (hs.r.ro r hr) hg (fun k hk e => hs.r.ds r hr _ (iH c h) k hk e), fun r1 hr s hs' k hk1 hk2 => ?_, fun s hs' k hk => ?_, hs.r.rg, hs.r.rx, gI hs.r.gs hg.size, hs.r.xg, fun k hk => gI (hs.r.xs k hk) hg.size, hs.r.e0, hs.r.e1, hs.r.ll⟩ : HR W' G X { h with live := v' } { c with av := nZ, cv := cv' }).jL _ _, ?_, aG (bK hs.fz hs.r.gs hg (fun e => hne e.symm)) _ _⟩, (Safe.kP hg (fun k hk e => (hs.r.og _ (iH c h) k e.symm).2 hk)).set hs.r.xg _ _⟩
 ·have hr2 : r1 ∈ c.reads h := hr
  rcases hmem s hs' with h3 | rfl
  ·exact hs.r.ds r1 hr2 s h3 k hk1 hk2
  ·rcases hb k hk2 with h3 | h3
   ·exact hs.r.ds r1 hr2 _ (iH c h) k hk1 h3
   ·have := ((hs.r.ro r1 hr2).lt k hk1).2; omega
 ·rcases hmem s hs' with h3 | rfl
  ·exact hs.r.og s h3 k hk
  ·rcases hb k hk with h3 | h3
   ·exact hs.r.og _ (iH c h) k h3
   ·exact ⟨fun e => by have := hs.r.gs; omega, fun e => by have := hs.r.xs k e; omega⟩
 ·exact aH h1 4 (.slice nZ v'.length cv')
end
end
section
open Go.RowKit

def Dz (az : Option Addr) (cz : Nat) (zs : List Zc) : Rs := ⟨102, 4, .slice az zs.length cz, zs.length, flat jY zs⟩
def WQ (av : Option Addr) (cv : Nat) (l : List Bk) : Rs := ⟨63, 3, .slice av l.length cv, l.length, flat aN l⟩
def ZJ (am : Option Addr) (cm : Nat) (l : List Nat) : Rs := ⟨3, 1, .slice am l.length cm, l.length, flat fA l⟩
structure CZ (W : World) (iU g : Nat) (zs : List Zc) (az : Option Addr) (cz : Nat) (am : Option Addr) (cm : Nat) (m : List Nat) (av : Option Addr) (cv : Nat) (v : List Bk) (aF : Nat) : Prop where
 oz : (Dz az cz zs).on W iU
 ov : (WQ av cv v).on W iU
 om : (ZJ am cm m).on W iU
 rd : ∀ y ∈ zs, (La y).on W iU ∧ (Ld y).on W iU
 zv : (Dz az cz zs).off (WQ av cv v)
 zm : (Dz az cz zs).off (ZJ am cm m)
 zy : ∀ y ∈ zs, (Dz az cz zs).off (La y) ∧ (Dz az cz zs).off (Ld y)
 vm : (WQ av cv v).off (ZJ am cm m)
 vy : ∀ y ∈ zs, (WQ av cv v).off (La y) ∧ (WQ av cv v).off (Ld y)
 gz : (Dz az cz zs).v.ownBlock ≠ some g
 gv : (WQ av cv v).v.ownBlock ≠ some g
 gm : (ZJ am cm m).v.ownBlock ≠ some g
 gy : ∀ y ∈ zs, (La y).v.ownBlock ≠ some g ∧ (Ld y).v.ownBlock ≠ some g
 gs : iU ≤ g ∧ g < W.heap.size
 k : ∀ o, W.cell? ⟨g, o, none⟩ = (#[.slice az zs.length cz, .slice am m.length cm, .int .i64 (aF : Int), .slice none 0 0, .slice av v.length cv] : Array Value)[o]?
 fz : ∀ o, W.frozen? ⟨g, o, none⟩ = false
section
variable {W W' W1 : World} {iU g : Nat} {zs : List Zc} {az : Option Addr} {cz : Nat} {am : Option Addr} {cm : Nat} {m : List Nat} {av : Option Addr} {cv : Nat} {v : List Bk} {aF : Nat}
theorem CZ.below (h : CZ W iU g zs az cz am cm m av cv v aF) (hb : Below W.heap.size W W') : CZ W' iU g zs az cz am cm m av cv v aF :=
 ⟨own_below h.oz hb (Nat.le_refl _), own_below h.ov hb (Nat.le_refl _), own_below h.om hb (Nat.le_refl _), fun y hy => ⟨own_below (h.rd y hy).1 hb (Nat.le_refl _), own_below (h.rd y hy).2 hb (Nat.le_refl _)⟩, h.zv, h.zm, h.zy, h.vm, h.vy, h.gz, h.gv, h.gm, h.gy, ⟨h.gs.1, gI h.gs.2 hb.size⟩, aB h.k h.gs.2 hb, aJ h.fz h.gs.2 hb⟩
theorem CZ.add (h : CZ W iU g zs az cz am cm m av cv v aF) (hb : Below W.heap.size W W1) {z' : Zn} {a1 a2 : Option Addr} {n1 n2 c1 c2 : Nat} (hz : eU W1 W.heap.size a1 a2 n1 n2 c1 c2 z') {g6 cap6 : Nat}
  (ho : W'.ownsRow iU 102 4 (.slice (some ⟨g6, 0, none⟩) (zs.length + 1) cap6) (zs.length + 1) (flat jY (zs ++ [⟨z', a1, a2, n1, n2, c1, c2⟩]))) (hg : W1.grownBy W' (Value.slice az zs.length cz).ownBlock) (hl : (Value.slice az zs.length cz).ownBlock = some g6 ∨ g6 = W1.heap.size) :
  CZ (W'.setCell ⟨g, 0, none⟩ (.slice (some ⟨g6, 0, none⟩) (zs.length + 1) cap6)) iU g (zs ++ [⟨z', a1, a2, n1, n2, c1, c2⟩]) (some ⟨g6, 0, none⟩) cap6 am cm m av cv v aF := by
 have h1 := h.below hb
 have hbs : iU ≤ W.heap.size := by have := h.gs; omega
 have hzo : (Dz az cz zs).v.ownBlock = (Value.slice az zs.length cz).ownBlock := rfl
 have TU : ∀ k, (Value.slice az zs.length cz).ownBlock = some k → k < W.heap.size := fun k hk => (h.oz.lt k (by rw [hzo]; exact hk)).2
 -- the row's new block is none of the others'
 have hnb : ∀ (r : Rs), (Dz az cz zs).off r → (∀ k, r.v.ownBlock = some k → k < W1.heap.size) → r.v.ownBlock ≠ some g6 := fun r hoff hlt e => by
  rcases hl with h2 | h2
  ·exact hoff g6 h2 e
  ·have := hlt g6 e; omega
 have hzl : (La ⟨z', a1, a2, n1, n2, c1, c2⟩).on W1 W.heap.size := hz.o1
 have hzy : (Ld ⟨z', a1, a2, n1, n2, c1, c2⟩).on W1 W.heap.size := hz.o2
 have hge : ∀ (r : Rs), r.on W1 W.heap.size → ∀ k, r.v.ownBlock = some k → W.heap.size ≤ k ∧ k < W1.heap.size := fun r hr k hk => hr.lt k hk
 have XC : (Dz az cz zs).off (La ⟨z', a1, a2, n1, n2, c1, c2⟩) := fun k h2 h3 => by have := TU k h2; have := (hge _ hzl k h3).1; omega
 have XD : (Dz az cz zs).off (Ld ⟨z', a1, a2, n1, n2, c1, c2⟩) := fun k h2 h3 => by have := TU k h2; have := (hge _ hzy k h3).1; omega
 have XE : g6 ≠ g := fun e => by
  rcases hl with h2 | h2
  ·exact h.gz (by rw [hzo, h2, e])
  ·have := h1.gs.2; omega
 have hgw : (Value.slice az zs.length cz).ownBlock ≠ some g := h.gz
 -- a row that is kept: own at W1, apart from the aAB row and from g
 have keep : ∀ (r : Rs) (b : Nat), r.on W1 b → (Dz az cz zs).off r → r.v.ownBlock ≠ some g → r.on (W'.setCell ⟨g, 0, none⟩ (.slice (some ⟨g6, 0, none⟩) (zs.length + 1) cap6)) b := fun r b hr hoff hne =>
  dG (fU hr hg (fun k hk e => hoff k e hk)) hne _
 have hne2 : ∀ (r : Rs), r.on W1 W.heap.size → r.v.ownBlock ≠ some g := fun r hr e => by have := (hge r hr g e).1; have := h.gs.2; omega
 have hlen : (zs ++ [(⟨z', a1, a2, n1, n2, c1, c2⟩ : Zc)]).length = zs.length + 1 := by simp
 have hv : (Dz (some ⟨g6, 0, none⟩) cap6 (zs ++ [⟨z', a1, a2, n1, n2, c1, c2⟩])).v = .slice (some ⟨g6, 0, none⟩) (zs.length + 1) cap6 := by unfold Dz; simp only [hlen]
 have hvo : (Dz (some ⟨g6, 0, none⟩) cap6 (zs ++ [⟨z', a1, a2, n1, n2, c1, c2⟩])).v.ownBlock = some g6 := by rw [hv]; rfl
 have Bq : ∀ (r : Rs), r.v.ownBlock ≠ some g6 → (Dz (some ⟨g6, 0, none⟩) cap6 (zs ++ [⟨z', a1, a2, n1, n2, c1, c2⟩])).off r := fun r hr k h2 h3 => by
  rw [hvo] at h2
  obtain rfl := gP h2
  exact hr h3
 have lt1 : ∀ (r : Rs) (b : Nat), r.on W1 b → ∀ k, r.v.ownBlock = some k → k < W1.heap.size := fun r b hr k hk => (hr.lt k hk).2
 have hmem : ∀ y ∈ zs ++ [(⟨z', a1, a2, n1, n2, c1, c2⟩ : Zc)], y ∈ zs ∨ y = ⟨z', a1, a2, n1, n2, c1, c2⟩ := fun y hy => by simpa using hy
 refine ⟨?_, keep _ _ h1.ov h.zv h.gv, keep _ _ h1.om h.zm h.gm, fun y hy => ?_, Bq _ (hnb _ h.zv (lt1 _ _ h1.ov)), Bq _ (hnb _ h.zm (lt1 _ _ h1.om)), fun y hy => ?_, h.vm, fun y hy => ?_, by rw [hvo]; exact fun e => XE (gP e), h.gv, h.gm, fun y hy => ?_, ⟨h.gs.1, by simpa using gI h1.gs.2 hg.size⟩, ?_, aG (bK h1.fz h1.gs.2 hg (fun e => hgw e.symm)) _ _⟩
 ·have h2 := dG ho (b := g) (i := 0) (by intro e; exact XE (by simpa [Value.ownBlock] using e)) (.slice (some ⟨g6, 0, none⟩) (zs.length + 1) cap6)
  unfold Rs.on Dz
  simp only [hlen]
  exact h2
 ·rcases hmem y hy with h2 | rfl
  ·exact ⟨keep _ _ (h1.rd y h2).1 (h.zy y h2).1 (h.gy y h2).1, keep _ _ (h1.rd y h2).2 (h.zy y h2).2 (h.gy y h2).2⟩
  ·exact ⟨own_base (keep _ _ hzl XC (hne2 _ hzl)) hbs, own_base (keep _ _ hzy XD (hne2 _ hzy)) hbs⟩
 ·rcases hmem y hy with h2 | rfl
  ·exact ⟨Bq _ (hnb _ (h.zy y h2).1 (lt1 _ _ (h1.rd y h2).1)), Bq _ (hnb _ (h.zy y h2).2 (lt1 _ _ (h1.rd y h2).2))⟩
  ·exact ⟨Bq _ (hnb _ XC (lt1 _ _ hzl)), Bq _ (hnb _ XD (lt1 _ _ hzy))⟩
 ·rcases hmem y hy with h2 | rfl
  ·exact h.vy y h2
  ·exact ⟨fun k h3 h4 => by have := (h.ov.lt k h3).2; have := (hge _ hzl k h4).1; omega, fun k h3 h4 => by have := (h.ov.lt k h3).2; have := (hge _ hzy k h4).1; omega⟩
 ·rcases hmem y hy with h2 | rfl
  ·exact h.gy y h2
  ·exact ⟨hne2 _ hzl, hne2 _ hzy⟩
 ·have h2 := aH (bJ h1.k h1.gs.2 hg (fun e => hgw e.symm)) 0 (.slice (some ⟨g6, 0, none⟩) (zs.length + 1) cap6)
  rw [hlen]
  exact h2
theorem CZ.done {y0 y1 : Zc} {m0 m1 : Nat} (h : CZ W iU g [y0, y1] az cz am cm [m0, m1] av cv v aF) {X : Nat → Prop} (hX : ∀ k, X k → k < iU) :
  HS W g X ⟨y0.z, y1.z, m0, m1, aF, [], v⟩ ⟨az, cz, am, cm, none, 0, av, cv, y0, y1, []⟩ := by
 have m0 : y0 ∈ [y0, y1] := by simp
 have m1 : y1 ∈ [y0, y1] := by simp
 have hl : (mP ⟨az, cz, am, cm, none, 0, av, cv, y0, y1, []⟩).v.ownBlock = none := rfl
 have base0 : ∀ (r : Rs), r.on W iU → r.on W 0 := fun r hr => own_base hr (Nat.zero_le _)
 refine ⟨⟨⟨fun r hr => ?_, ?_⟩, fun r hr => ?_, fun r hr s hs => ?_, fun r hr k hk => ?_, fun r hr => ?_, fun r hr k hk hx => ?_, h.gs.2, fun e => by have := hX _ e; have := h.gs.1; omega, fun k hk => by have := hX k hk; have := h.gs; omega, rfl, rfl, rfl⟩, h.k, h.fz⟩
 ·simp only [Hc.rows, List.map_nil, List.mem_cons, List.not_mem_nil, or_false] at hr
  rcases hr with rfl | rfl | rfl
  ·exact base0 _ h.oz
  ·exact ⟨rfl, .inl ⟨rfl, rfl⟩⟩
  ·exact base0 _ h.ov
 ·unfold Hc.rows
  refine List.pairwise_cons.2 ⟨fun r hr => ?_, List.pairwise_cons.2 ⟨fun r hr k h2 => (by rw [hl] at h2; cases h2), List.pairwise_cons.2 ⟨fun r hr => (by simp at hr), List.Pairwise.nil⟩⟩⟩
  simp only [List.map_nil, List.mem_cons, List.not_mem_nil, or_false] at hr
  rcases hr with rfl | rfl
  ·exact fun k _ h3 => by rw [hl] at h3; cases h3
  ·exact h.zv
 ·simp only [Hc.reads, List.mem_cons, List.not_mem_nil, or_false] at hr
  rcases hr with rfl | rfl | rfl | rfl | rfl
  ·exact base0 _ h.om
  ·exact base0 _ (h.rd y0 m0).1
  ·exact base0 _ (h.rd y0 m0).2
  ·exact base0 _ (h.rd y1 m1).1
  ·exact base0 _ (h.rd y1 m1).2
 ·simp only [Hc.reads, List.mem_cons, List.not_mem_nil, or_false] at hr
  simp only [Hc.rows, List.map_nil, List.mem_cons, List.not_mem_nil, or_false] at hs
  rcases hs with rfl | rfl | rfl
  ·rcases hr with rfl | rfl | rfl | rfl | rfl
   ·exact h.zm.symm
   ·exact (h.zy y0 m0).1.symm
   ·exact (h.zy y0 m0).2.symm
   ·exact (h.zy y1 m1).1.symm
   ·exact (h.zy y1 m1).2.symm
  ·exact fun k _ h3 => by rw [hl] at h3; cases h3
  ·rcases hr with rfl | rfl | rfl | rfl | rfl
   ·exact h.vm.symm
   ·exact (h.vy y0 m0).1.symm
   ·exact (h.vy y0 m0).2.symm
   ·exact (h.vy y1 m1).1.symm
   ·exact (h.vy y1 m1).2.symm
 ·simp only [Hc.rows, List.map_nil, List.mem_cons, List.not_mem_nil, or_false] at hr
  rcases hr with rfl | rfl | rfl
  ·exact ⟨fun e => h.gz (by rw [← e]; exact hk), fun e => by have := hX k e; have := (h.oz.lt k hk).1; omega⟩
  ·rw [hl] at hk; cases hk
  ·exact ⟨fun e => h.gv (by rw [← e]; exact hk), fun e => by have := hX k e; have := (h.ov.lt k hk).1; omega⟩
 ·simp only [Hc.reads, List.mem_cons, List.not_mem_nil, or_false] at hr
  rcases hr with rfl | rfl | rfl | rfl | rfl
  ·exact h.gm
  ·exact (h.gy y0 m0).1
  ·exact (h.gy y0 m0).2
  ·exact (h.gy y1 m1).1
  ·exact (h.gy y1 m1).2
 ·have h5 := hX k hx
  simp only [Hc.reads, List.mem_cons, List.not_mem_nil, or_false] at hr
  rcases hr with rfl | rfl | rfl | rfl | rfl
  ·have := (h.om.lt k hk).1; omega
  ·have := ((h.rd y0 m0).1.lt k hk).1; omega
  ·have := ((h.rd y0 m0).2.lt k hk).1; omega
  ·have := ((h.rd y1 m1).1.lt k hk).1; omega
  ·have := ((h.rd y1 m1).2.lt k hk).1; omega
end
end
section
open Go.RowKit

def Ac (done : List Bk) (p : Nat) : Bool := decide (0 < cnt done p)
theorem OM (done : List Bk) (b : Bk) (p : Nat) : marked (Ac done) b.a b.fin p = Ac (done ++ [b]) p := by
 unfold marked Ac
 rw [bH]
 have h1 : cnt [b] p = hit b p := by simp [cnt]
 rw [h1]
 unfold hit
 by_cases h : b.a ≤ p ∧ p < b.fin
 ·rw [if_pos h, decide_eq_true h, Bool.or_true, decide_eq_true (by omega)]
 ·rw [if_neg h, decide_eq_false h, Bool.or_false, Nat.add_zero]
theorem yO (G : Nat) (b : Bk) (done : List Bk) (w : World) (hm : vO w G (Ac done) false) (h1 : ∀ p, cnt (done ++ [b]) p ≤ 1) (hb : b.fin ≤ 256) (v : Int) (hv : v = ((2 ^ b.o : Nat) : Int)) :
  Calls Tryz.prog 128 #[.pointer (some ⟨G, 0, none⟩), .int .i64 b.a, .int .i64 v] w fun ev w' => ev = .returned (.tuple #[]) ∧ vO w' G (Ac (done ++ [b])) false ∧ Safe (fun k => k ≠ G) w w' := by
 subst hv
 have hpo := dH b.o
 have hfin : b.fin = b.a + 2 ^ b.o := rfl
 refine (Ro G b.a (2 ^ b.o) (Ac done) false w hm (by omega) (by omega) (fun p h2 h3 => ?_)).mono fun ev w' h => ⟨h.1, h.2.1.congr fun p _ => by rw [← hfin]; exact OM done b p, h.2.2⟩
 have h4 := h1 p
 rw [bH] at h4
 have h5 : cnt [b] p = 1 := by
  simp only [cnt, Nat.add_zero]
  exact iQ.2 ⟨h2, h3⟩
 unfold Ac
 exact decide_eq_false (by omega)
end
section
open Go.RowKit

def rW : List Bk → Nat
 | [] => 0
 | b :: l => 2 ^ b.o + rW l
theorem LG (l : List Bk) (i : Nat) (hi : i < l.length) : rW (l.take (i + 1)) = rW (l.take i) + 2 ^ l[i].o := by
 induction l generalizing i with
 | nil => simp at hi
 | cons b l ih =>
  cases i with
  | zero => simp [rW]
  | succ i =>
   have hi' : i < l.length := by simpa using hi
   rw [List.take_succ_cons, List.take_succ_cons, rW, rW, ih i hi']
   simp only [List.getElem_cons_succ]
   omega
theorem Rw (l : List Bk) (h : ∀ b ∈ l, b.o ≤ 4) : rW l ≤ l.length * 16 := by
 induction l with
 | nil => simp [rW]
 | cons b l ih =>
  have h1 := ih (fun b hb => h b (by simp [hb]))
  have h2 := rQ (h b (by simp))
  simp only [rW, List.length_cons]
  omega

set_option maxHeartbeats 4000000 in
set_option maxRecDepth 100000 in
theorem OW (a1 a2 : Option Addr) (n1 n2 c1 c2 : Nat) (z : Zn) (w : World) (hat : Dy w a1 a2 n1 n2 z) (hz : z.ok) :
  Calls Tryz.prog 176 #[.agg #[.int .i64 z.f, .int .i64 z.e, .slice a1 n1 c1, .slice a2 n2 c2]] w fun ev w' => ev = .returned (.tuple #[.int .i64 (rW z.l : Nat), .int .i64 0]) ∧ Below w.heap.size w w' := by
 have hlen : z.l.length ≤ 256 := gQ (nM.length_le hz.2 (fun b hb => (hz.2.fit b hb).1.2.2.1)) hz.1.e2
 obtain ⟨K1, F1, hsz, hbw⟩ := boxes1 w #[.int .i64 (z.f : Int), .int .i64 (z.e : Int), .slice a1 n1 c1, .slice a2 n2 c2] 102
 have nC := hat.below hbw
 have l1 := hat.l1
 clear hat
 go_enter Tryz.func176, Tryz.ntmps176
 go_wp2_with fail
 generalize w.alloc (.cells #[.int .i64 (z.f : Int), .int .i64 (z.e : Int), .slice a1 n1 c1, .slice a2 n2 c2] 102) = w0 at *
 refine (nD _ _ _ _ _ _ z _ nC hz).mono ?_
 rintro ev w1 ⟨rfl, hb1⟩
 have Ot := aB K1 hsz hb1
 have He := nC.below hb1
 have uY := Below.step hbw hb1
 have hs1 := gI hsz hb1.size
 clear K1 F1 nC hbw hb1
 dsimp only
 go_wp2
 go_loopw [5, 16] (fun s5 s16 wr => ∃ i : Nat, i ≤ n1 ∧ s16 = .int .i64 (i : Int) ∧ s5 = .int .i64 (rW (z.l.take i) : Nat) ∧ Hid (Below w1.heap.size w1 wr)) (fun _ s16 _ => n1 - (intOf s16).toNat)
 case atStart => exact ⟨0, Nat.zero_le _, rfl, rfl, Below.refl _ _⟩
 case round =>
  obtain ⟨i, hi, rfl, rfl, hb⟩ := hrel
  by_cases hlt : i < n1
  ·have hlt2 : i < z.l.length := by omega
   obtain ⟨bb, off, ha1, hbb, hc⟩ := aK aI (by decide) (He.r1.below hb.out) hlt2
   obtain rfl := ha1
   obtain ⟨hc0, hc1, hc2⟩ := bD hc
   have hfit := (hz.2.fit _ (gL hlt2)).1
   have hsum := gO (LG z.l i hlt2)
   have hle := Rw (z.l.take i) (fun b hb => (hz.2.fit b (List.mem_of_mem_take hb)).1.1)
   rw [List.length_take] at hle
   have hle2 : rW (z.l.take i) ≤ 5000 := by omega
   clear hc hle
   generalize z.l[i] = x at *
   have hsh := pK hfit.1
   have hpw := rQ hfit.1
   have hNew := gO (Below.step hb.out (aC wr (.cells #[.int .i64 (x.a : Int), .int .i64 (x.o : Int), .int .i64 (x.t : Int)] 63)))
   obtain ⟨S, hS⟩ : ∃ S, rW (z.l.take i) = S := ⟨_, rfl⟩
   rw [hS] at hle2 hsum ⊢
   clear hS
   have Hr : (i : Int) < n1 := by omega
   have hw : wrap64 ((S : Int) + wrap64 (2 ^ min x.o 64)) = ((S + 2 ^ x.o : Nat) : Int) := by
    rw [show min x.o 64 = x.o by have := hfit.1; omega, hsh]
    generalize 2 ^ x.o = q at *
    have := IntWalk.wrap64_in ((S : Int) + q) (by omega)
    rw [Int.natCast_add]
    exact this
   go_wp2
   go_roundw
   case rel => exact ⟨i + 1, by omega, by go_num, by rw [hsum.out]; simp only [Value.int.injEq, true_and]; exact hw, hNew⟩
   case measure => simp [intOf]; omega
  ·obtain rfl : i = n1 := by omega
   have he : z.l.take i = z.l := by rw [← l1, List.take_length]
   rw [he]
   go_wp2
   go_ret2
   exact ⟨rfl, Below.step uY hb.out⟩
end
section
def zz (j : Nat) : Nat := [1, 2, 4, 8, 16, 32].getD j 0
def oW (n : Nat) : Nat := if n ≤ 1 then 0 else if n ≤ 2 then 1 else if n ≤ 4 then 2 else if n ≤ 8 then 3 else if n ≤ 16 then 4 else 5
theorem vU {n : Nat} (h1 : 1 ≤ n) (h2 : n ≤ 32) : oW n < 6 ∧ n ≤ zz (oW n) ∧ zz (oW n) < 2 * n ∧ ∀ j, j < oW n → zz j < n := by
 have key : ∀ (k : Nat), k < 6 → n ≤ zz k → zz k < 2 * n → (∀ j, j < k → zz j < n) → oW n = k → oW n < 6 ∧ n ≤ zz (oW n) ∧ zz (oW n) < 2 * n ∧ ∀ j, j < oW n → zz j < n := fun k a b c d e => by rw [e]; exact ⟨a, b, c, d⟩
 have z0 : zz 0 = 1 := rfl
 have z1 : zz 1 = 2 := rfl
 have z2 : zz 2 = 4 := rfl
 have z3 : zz 3 = 8 := rfl
 have z4 : zz 4 = 16 := rfl
 have z5 : zz 5 = 32 := rfl
 have hall : ∀ k, k ≤ 5 → ((∀ j, j < k → zz j < n) ↔ (k = 0 ∨ zz (k - 1) < n)) := fun k hk => by
  obtain rfl | rfl | rfl | rfl | rfl | rfl : k = 0 ∨ k = 1 ∨ k = 2 ∨ k = 3 ∨ k = 4 ∨ k = 5 := by omega
  ·exact ⟨fun _ => .inl rfl, fun _ j hj => by omega⟩
  all_goals
   refine ⟨fun h => .inr (h _ (by omega)), fun h j hj => ?_⟩
   rcases h with h | h
   ·omega
   ·simp only [Nat.reduceSub] at h
    obtain rfl | rfl | rfl | rfl | rfl : j = 0 ∨ j = 1 ∨ j = 2 ∨ j = 3 ∨ j = 4 := by omega
    all_goals omega
 unfold oW
 split
 ·exact ⟨by omega, by omega, by omega, fun j hj => by omega⟩
 ·split
  ·exact ⟨by omega, by omega, by omega, (hall 1 (by omega)).2 (.inr (by show zz 0 < n; omega))⟩
  ·split
   ·exact ⟨by omega, by omega, by omega, (hall 2 (by omega)).2 (.inr (by show zz 1 < n; omega))⟩
   ·split
    ·exact ⟨by omega, by omega, by omega, (hall 3 (by omega)).2 (.inr (by show zz 2 < n; omega))⟩
    ·split
     ·exact ⟨by omega, by omega, by omega, (hall 4 (by omega)).2 (.inr (by show zz 3 < n; omega))⟩
     ·exact ⟨by omega, by omega, by omega, (hall 5 (by omega)).2 (.inr (by show zz 4 < n; omega))⟩
theorem YM {j : Nat} (h : j < 6) : 1 ≤ zz j ∧ zz j ≤ 32 := by
 obtain rfl | rfl | rfl | rfl | rfl | rfl : j = 0 ∨ j = 1 ∨ j = 2 ∨ j = 3 ∨ j = 4 ∨ j = 5 := by omega
 all_goals decide
def oL (n : Nat) : Nat := if n ≤ 16 then 0 else if n ≤ 32 then 1 else if n ≤ 64 then 2 else if n ≤ 128 then 3 else 4
theorem y9 {n : Nat} (h1 : 33 ≤ n) (h2 : n ≤ 256) : 2 ≤ oL n ∧ oL n ≤ 4 ∧ n ≤ 16 * 2 ^ oL n ∧ 16 * 2 ^ oL n < 2 * n + 16 ∧ ∀ o, o < oL n → 16 * 2 ^ o < n := by
 unfold oL
 rw [if_neg (by omega), if_neg (by omega)]
 split
 ·refine ⟨by omega, by omega, by omega, by omega, fun o ho => ?_⟩
  obtain rfl | rfl : o = 0 ∨ o = 1 := by omega
  all_goals omega
 ·split
  ·refine ⟨by omega, by omega, by omega, by omega, fun o ho => ?_⟩
   obtain rfl | rfl | rfl : o = 0 ∨ o = 1 ∨ o = 2 := by omega
   all_goals omega
  ·refine ⟨by omega, by omega, by omega, by omega, fun o ho => ?_⟩
   obtain rfl | rfl | rfl | rfl : o = 0 ∨ o = 1 ∨ o = 2 ∨ o = 3 := by omega
   all_goals omega
end
end Go.Proofs.YtcmpmobhongkiaaGreatDoor
