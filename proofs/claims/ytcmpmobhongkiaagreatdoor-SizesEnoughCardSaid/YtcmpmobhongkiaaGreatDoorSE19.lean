/- texts of this claim, joined. -/
import Derived.Test.YtcmpmobhongkiaaGreatDoorSE0
import Derived.Test.YtcmpmobhongkiaaGreatDoorSE10
import Derived.Test.YtcmpmobhongkiaaGreatDoorSE16
import Derived.Test.YtcmpmobhongkiaaGreatDoorSE18
import Derived.Test.YtcmpmobhongkiaaGreatDoorSE9
set_option linter.unusedVariables false
set_option linter.unusedSimpArgs false
namespace Go.Proofs.YtcmpmobhongkiaaGreatDoor
section
theorem Eb {l : List Sl} {a : Nat} : l.take (Gq l a) = l.takeWhile (fun x => decide (x.p < a)) ∧ l.drop (Gq l a) = l.dropWhile (fun x => decide (x.p < a)) := by
 have h : l.takeWhile (fun x => decide (x.p < a)) ++ l.dropWhile (fun x => decide (x.p < a)) = l := List.takeWhile_append_dropWhile
 unfold Gq
 constructor
 ·conv => lhs; rw [← h]
  rw [List.take_left']
  rw [h]
 ·conv => lhs; rw [← h]
  rw [List.drop_left']
  rw [h]
theorem IZ (l : List Sl) (x : Sl) : lV l x = l.takeWhile (fun y => decide (y.p < x.p)) ++ x :: l.dropWhile (fun y => decide (y.p < x.p)) := by
 unfold lV
 rw [Eb.1, Eb.2]
theorem pG {l : List Sl} {x y : Sl} : y ∈ lV l x ↔ y = x ∨ y ∈ l := by
 rw [IZ]
 have h : l.takeWhile (fun y => decide (y.p < x.p)) ++ l.dropWhile (fun y => decide (y.p < x.p)) = l := List.takeWhile_append_dropWhile
 conv => rhs; rw [← h]
 simp only [List.mem_append, List.mem_cons]
 constructor
 ·rintro (h | h | h)
  ·exact .inr (.inl h)
  ·exact .inl h
  ·exact .inr (.inr h)
 ·rintro (h | h | h)
  ·exact .inr (.inl h)
  ·exact .inl h
  ·exact .inr (.inr h)
theorem sS {a : Nat} : ∀ {l : List Sl}, (l.Pairwise fun x y => x.p < y.p) → ∀ y ∈ l.dropWhile (fun x => decide (x.p < a)), a ≤ y.p
 | [], _, y, hy => by simp at hy
 | b :: l, hl, y, hy => by
  rw [List.pairwise_cons] at hl
  by_cases hb : b.p < a
  ·rw [List.dropWhile_cons_of_pos (by simpa using hb)] at hy
   exact sS hl.2 y hy
  ·rw [List.dropWhile_cons_of_neg (by simpa using hb)] at hy
   rcases List.mem_cons.1 hy with rfl | hy
   ·omega
   ·have := hl.1 y hy
    omega
theorem NJ {q : Sl → Bool} {y : Sl} : ∀ {l : List Sl}, y ∈ l.takeWhile q → q y = true
 | [], h => by simp at h
 | b :: l, h => by
  by_cases hb : q b = true
  ·rw [List.takeWhile_cons_of_pos hb] at h
   rcases List.mem_cons.1 h with rfl | h
   ·exact hb
   ·exact NJ h
  ·rw [List.takeWhile_cons_of_neg hb] at h
   simp at h
theorem Ko {l : List Sl} {x : Sl} (hl : l.Pairwise fun a b => a.p < b.p) (hx : ∀ y ∈ l, y.p ≠ x.p) : (lV l x).Pairwise fun a b => a.p < b.p := by
 have h : l.takeWhile (fun y => decide (y.p < x.p)) ++ l.dropWhile (fun y => decide (y.p < x.p)) = l := List.takeWhile_append_dropWhile
 have h1 : ∀ y ∈ l.takeWhile (fun y => decide (y.p < x.p)), y.p < x.p := fun y hy => by
  have := NJ hy
  simpa using this
 have h2 := sS (a := x.p) hl
 have h3 := hl
 rw [← h, List.pairwise_append] at h3
 rw [IZ, List.pairwise_append, List.pairwise_cons]
 refine ⟨h3.1, ⟨fun y hy => ?_, h3.2.1⟩, fun a ha b hb => ?_⟩
 ·have h4 := h2 y hy
  have h5 := hx y (by rw [← h]; exact List.mem_append_right _ hy)
  omega
 ·rcases List.mem_cons.1 hb with rfl | hb
  ·exact h1 a ha
  ·exact h3.2.2 a ha b hb
theorem NK (l : List Sl) (x : Sl) : (lV l x)[Gq l x.p]? = some x := by
 have h : Gq l x.p ≤ l.length := (List.takeWhile_sublist _).length_le
 unfold lV
 rw [List.getElem?_append_right (by rw [List.length_take]; omega), List.length_take, Nat.min_eq_left h, Nat.sub_self]
 rfl

theorem Ec {k : Nat} (h : 1 ≤ k ∧ k ≤ 64) : 1 ≤ eH k := by
 unfold eH
 rw [Nat.le_div_iff_mul_le (by omega)]
 unfold dQ
 split
 ·rename_i h1
  rw [Nat.le_div_iff_mul_le (by omega)] at h1
  omega
 ·split
  ·rename_i h1
   rw [Nat.le_div_iff_mul_le (by omega)] at h1
   omega
  ·omega
theorem Kr (k : Nat) : eH k * k ≤ 16 * 2 ^ dQ k := Nat.div_mul_le_self _ _
theorem mX (k : Nat) : dQ k ≤ 2 := by unfold dQ; split <;> (try split) <;> omega
theorem jH {c : Ca} {p : Nat} {a : Int} (hc : c.r * c.z ≤ 16 * 2 ^ c.o) (h : gZ c p a = true) : 16 * (p : Int) ≤ a ∧ a < 16 * ((p + 2 ^ c.o : Nat) : Int) := by
 have h1 := sN h
 have h2 : ((c.r * c.z : Nat) : Int) ≤ ((16 * 2 ^ c.o : Nat) : Int) := by exact_mod_cast hc
 have h3 : ((c.r * c.z : Nat) : Int) = (c.r : Int) * c.z := by push_cast; rfl
 have h4 : ((16 * 2 ^ c.o : Nat) : Int) = 16 * ((2 ^ c.o : Nat) : Int) := by push_cast; rfl
 have h5 : ((p + 2 ^ c.o : Nat) : Int) = (p : Int) + ((2 ^ c.o : Nat) : Int) := by push_cast; rfl
 generalize ((2 ^ c.o : Nat) : Int) = q at *
 omega
theorem nP.room {s : Sy} {c : Ca} (h : nP s c) : c.r * c.z ≤ 16 * 2 ^ c.o := by rw [h.r, h.o]; exact Kr _

theorem pI (xs : List Int) (p k n : Nat) : ∀ (j : Nat), j ≤ n → ∀ i, (i < p ∨ p + k * n ≤ i) → 1 ≤ k → (chainTo xs p k n j).getD i 0 = xs.getD i 0
 | 0, _, _, _, _ => rfl
 | j + 1, hj, i, hi, hk => by
  have ih := pI xs p k n j (by omega) i hi hk
  have hne : p + j * k ≠ i := by
   have h1 : (j + 1) * k ≤ n * k := Nat.mul_le_mul_right k hj
   have h2 : n * k = k * n := Nat.mul_comm _ _
   rw [Nat.add_mul] at h1
   omega
  unfold chainTo
  rw [List.getD_eq_getElem?_getD, List.getElem?_set_ne hne, ← List.getD_eq_getElem?_getD]
  exact ih

theorem fH.grow {s s' : Sy} (hk : fH s) {i cpu k : Nat} {c : Ca} (hi : s.cs[i]? = some c) (fC : cpu < s.h.aF) (hg : s.grow i cpu c = some (s', k)) :
  fH s' ∧ s'.h.aF = s.h.aF ∧ ∃ (c' : Ca) (x : Sl), s'.cs[i]? = some c' ∧ c'.sl[k]? = some x ∧ 0 < x.n ∧ (∀ a ∈ c'.ac, a ≠ (x.p : Int)) := by
 have hil := (List.getElem?_eq_some_iff.1 hi).1
 have hck := hk.ck c (gM hi)
 have hor : c.o ≤ 4 := by rw [hck.o]; exact gQ (mX _) (by decide)
 unfold Sy.grow at hg
 cases hal : s.h.alloc cpu c.o 0 false false with
 | none => rw [hal] at hg; cases hg
 | some r =>
  obtain ⟨h', a⟩ := r
  rw [hal] at hg
  have h1 := gP hg
  rw [Prod.mk.injEq] at h1
  obtain ⟨rfl, rfl⟩ := h1
  obtain ⟨hh, hcnt, hsame, hlive, hfit⟩ := hk.hk.alloc fC hor (by decide) hal
  have NM : h'.aF = s.h.aF := hsame.aF
  have hcl : h'.live = bC s.h.live ⟨a, c.o, 0⟩ := hlive
  -- the new block lies apart from all others
  have hap : ∀ b ∈ s.h.live, apartB a c.o b := fun b hb => dI fun q h1 h2 => by
   have h3 := hh.one q
   rw [dM, hcl, qL] at h3
   have h4 : 0 < cnt s.h.live q := iE.2 ⟨b, hb, h2⟩
   have h5 : hit (⟨a, c.o, 0⟩ : Bk) q = 1 := iQ.2 h1
   omega
  have hpp := Nat.two_pow_pos c.o
  have hsl : ∀ d ∈ s.cs, ∀ x ∈ d.sl, x.p ≠ a ∧ ∀ o : Int, gZ d x.p o = true → (chainTo s.w (16 * a) c.z c.r c.r).getD o.toNat 0 = s.w.getD o.toNat 0 := fun d hd x hx => by
   have hdk := hk.ck d hd
   obtain ⟨b, hb, hb1, hb2⟩ := (hdk.sk x hx).live
   have h1 := hap b hb
   unfold apartB Bk.fin at h1
   rw [hb1, hb2] at h1
   have hp2 := Nat.two_pow_pos d.o
   refine ⟨by omega, fun o ho => pI _ _ _ _ _ (Nat.le_refl _) _ ?_ hck.z.1⟩
   have h2 := jH hdk.room ho
   have h3 := hck.room
   rw [Nat.mul_comm c.z c.r]
   generalize c.r * c.z = m at *
   generalize 2 ^ c.o = q at *
   generalize 2 ^ d.o = q' at *
   omega
  have hwl : (chainTo s.w (16 * a) c.z c.r c.r).length = s.w.length := eG _ _ _ _ _
  have hlv : ∀ b ∈ s.h.live, b ∈ h'.live := fun b hb => by
   rw [hcl]
   unfold bC
   have h2 : s.h.live.take (lb s.h.live a) ++ s.h.live.drop (lb s.h.live a) = s.h.live := List.take_append_drop _ _
   rw [← h2] at hb
   rcases List.mem_append.1 hb with h | h
   ·exact List.mem_append_left _ h
   ·exact List.mem_append_right _ (List.mem_cons_of_mem _ h)
  have hoth : ∀ d ∈ s.cs, ∀ x ∈ d.sl, pF { w := chainTo s.w (16 * a) c.z c.r c.r, h := h', cs := s.cs.set i { c with sl := lV c.sl ⟨a, c.r, ((16 * a : Nat) : Int)⟩ } } d x := fun d hd x hx =>
   ((hk.ck d hd).sk x hx).move rfl rfl rfl hlv hwl ((hsl d hd x hx).2)
  have hr1 : 1 ≤ c.r := by rw [hck.r]; exact Ec hck.z
  have hin : 16 * a + c.z * c.r ≤ s.w.length := by
   have h1 := hck.room
   have h2 : a + 2 ^ c.o ≤ 256 := by
    have h3 : c.o ≤ 2 := by rw [hck.o]; exact mX _
    obtain ⟨_, _, h4, h5⟩ := hfit
    generalize c.o = o at *
    obtain rfl | rfl | rfl : o = 0 ∨ o = 1 ∨ o = 2 := by omega
    ·omega
    ·omega
    ·omega
   rw [Nat.mul_comm c.z, hk.wl]
   generalize c.r * c.z = m at *
   generalize 2 ^ c.o = q at *
   omega
  have hnew : pF { w := chainTo s.w (16 * a) c.z c.r c.r, h := h', cs := s.cs.set i { c with sl := lV c.sl ⟨a, c.r, ((16 * a : Nat) : Int)⟩ } } { c with sl := lV c.sl ⟨a, c.r, ((16 * a : Nat) : Int)⟩ } ⟨a, c.r, ((16 * a : Nat) : Int)⟩ := by
   refine ⟨⟨⟨a, c.o, 0⟩, by rw [show h'.live = _ from hcl]; unfold bC; simp, rfl, rfl⟩, objs (16 * a) c.z c.r, ?_, o7 _ _ _, fun o ho => ?_⟩
   ·have h1 := sH s.w (16 * a) c.z c.r c.r hck.z.1 hr1 hin (by omega)
    rw [if_pos (Int.le_refl _)] at h1
    exact h1
   ·unfold objs at ho
    obtain ⟨j, hj, rfl⟩ := List.mem_map.1 ho
    rw [List.mem_range] at hj
    unfold gZ
    simp only [decide_eq_true_eq]
    have h1 : ((16 * a + j * c.z : Nat) : Int) - 16 * (a : Int) = (j : Int) * c.z := by push_cast; omega
    rw [h1]
    have h2 : (j : Int) * c.z = ((j * c.z : Nat) : Int) := by push_cast; rfl
    have h3 : (c.r : Int) * c.z = ((c.r * c.z : Nat) : Int) := by push_cast; rfl
    have h4 : j * c.z < c.r * c.z := Nat.mul_lt_mul_of_pos_right hj hck.z.1
    refine ⟨by omega, by omega, Int.mul_emod_left _ _⟩
  refine ⟨hk.upd hi (c' := { c with sl := lV c.sl ⟨a, c.r, ((16 * a : Nat) : Int)⟩ }) (by show (chainTo s.w (16 * a) c.z c.r c.r).length = 4096; rw [hwl]; exact hk.wl) hh rfl rfl rfl ?_ (fun d hd => (hk.ck d hd).move NM (hoth d hd)) (fun x hx => ?_), NM, { c with sl := lV c.sl ⟨a, c.r, ((16 * a : Nat) : Int)⟩ }, ⟨a, c.r, ((16 * a : Nat) : Int)⟩, ?_, NK c.sl ⟨a, c.r, ((16 * a : Nat) : Int)⟩, hr1, fun b hb e => ?_⟩
  ·refine ⟨hck.z, hck.o, hck.r, hck.ns, hck.nm, hck.nr, by rw [show _ = _ from NM]; exact hck.ac, Ko hck.sr (fun y hy => (hsl c (gM hi) y hy).1), fun x hx => ?_, fun b hb => ?_, hck.ad⟩
   ·rcases pG.1 hx with rfl | hx
    ·exact hnew
    ·have h1 := hoth c (gM hi) x hx
     exact ⟨h1.live, h1.chain⟩
   ·rcases hck.aw b hb with h | ⟨x, hx, h⟩
    ·exact .inl h
    ·exact .inr ⟨x, pG.2 (.inr hx), h⟩
  ·rcases pG.1 hx with rfl | hx
   ·exact .inr fun d hd y hy => (hsl d hd y hy).1
   ·exact .inl ⟨x, hx, rfl⟩
  ·show (s.cs.set i _)[i]? = _
   rw [List.getElem?_set_self hil]
  ·rcases hck.aw b hb with h | ⟨x, hx, h⟩
   ·rw [h] at e
    have e' : (-1 : Int) = (a : Int) := e
    omega
   ·have h1 := (hsl c (gM hi) x hx).1
    rw [← h] at e
    have e' : (x.p : Int) = (a : Int) := e
    omega

theorem fH.mine {s : Sy} (hk : fH s) {i cpu k : Nat} {c : Ca} {x : Sl} (hi : s.cs[i]? = some c) (hx : c.sl[k]? = some x) (hn : ∀ a ∈ c.ac, a ≠ (x.p : Int)) :
  fH (s.mine i cpu k) ∧ (s.mine i cpu k).h = s.h ∧ (s.mine i cpu k).w = s.w ∧ (s.mine i cpu k).cs[i]? = some { c with ac := c.ac.set cpu (x.p : Int) } := by
 have hil := (List.getElem?_eq_some_iff.1 hi).1
 have hcm := gM hi
 have hck := hk.ck c hcm
 have e : s.mine i cpu k = s.jO i { c with ac := c.ac.set cpu (x.p : Int) } := by
  unfold Sy.mine
  rw [hi]
  simp only [hx]
 rw [e]
 refine ⟨hk.upd hi (c' := { c with ac := c.ac.set cpu (x.p : Int) }) hk.wl hk.hk rfl rfl rfl ?_ (fun d hd => (hk.ck d hd).move rfl (fun y hy => ⟨((hk.ck d hd).sk y hy).live, ((hk.ck d hd).sk y hy).chain⟩)) (fun y hy => .inl ⟨y, hy, rfl⟩), rfl, rfl, ?_⟩
 ·refine ⟨hck.z, hck.o, hck.r, hck.ns, hck.nm, hck.nr, by rw [List.length_set]; exact hck.ac, hck.sr, fun y hy => ⟨(hck.sk y hy).live, (hck.sk y hy).chain⟩, fun a ha => ?_, ?_⟩
  ·rcases List.mem_or_eq_of_mem_set ha with h | rfl
   ·exact hck.aw a h
   ·exact .inr ⟨x, gM hx, rfl⟩
  ·have h1 := hck.ad
   rw [gN] at h1 ⊢
   intro j l hj hl hjl
   have hj' : j < c.ac.length := by simpa using hj
   have hl' : l < c.ac.length := by simpa using hl
   simp only [List.getElem_set]
   split
   ·rename_i e1
    rw [if_neg (by omega)]
    exact fun e2 => absurd e2.symm (hn _ (gL hl'))
   ·split
    ·exact fun e2 => absurd e2 (hn _ (gL hj'))
    ·exact h1 j l hj' hl' hjl
 ·show (s.cs.set i _)[i]? = _
  rw [List.getElem?_set_self hil]

theorem fH.first {s : Sy} (hk : fH s) {c : Ca} {x : Sl} (hc : c ∈ s.cs) (hx : x ∈ c.sl) (hn : 0 < x.n) : ∃ m, follow s.w x.h c.r = some (x.h :: m) ∧ m.length + 1 = x.n ∧ (∀ a ∈ x.h :: m, gZ c x.p a = true) ∧ 0 ≤ x.h ∧ x.h < 4096 ∧ follow s.w (s.w.getD x.h.toNat 0) c.r = some m := by
 obtain ⟨l, h1, h2, h3⟩ := ((hk.ck c hc).sk x hx).chain
 have h4 := jB.1 h1
 cases l with
 | nil => simp at h2; omega
 | cons a m =>
  obtain ⟨⟨rfl, h5⟩, h6, h7, h8⟩ := h4
  have h9 := h6 x.h (by simp)
  rw [hk.wl] at h9
  refine ⟨m, h1, by simpa using h2, h3, h9.1, by omega, jB.2 ⟨h5, fun a ha => h6 a (List.mem_cons_of_mem _ ha), fun _ => ?_, (List.nodup_cons.1 h8).2⟩⟩
  have := h7 (by simp)
  simp at this
  omega
theorem fH.pop {s s' : Sy} (hk : fH s) {i k : Nat} {c : Ca} {x : Sl} {a : Int} (hi : s.cs[i]? = some c) (hx : c.sl[k]? = some x) (hn : 0 < x.n) (hp : s.pop i k = some (s', a)) :
  fH s' ∧ s'.h = s.h ∧ s'.w = s.w ∧ a = x.h ∧ s' = s.jO i { c with sl := c.sl.set k ⟨x.p, x.n - 1, s.w.getD x.h.toNat 0⟩ } := by
 have hil := (List.getElem?_eq_some_iff.1 hi).1
 have hcm := gM hi
 have hxm := gM hx
 obtain ⟨hkl, hkx⟩ := List.getElem?_eq_some_iff.1 hx
 have hck := hk.ck c hcm
 unfold Sy.pop at hp
 rw [hi] at hp
 simp only [hx] at hp
 have h1 := gP hp
 rw [Prod.mk.injEq] at h1
 obtain ⟨rfl, rfl⟩ := h1
 obtain ⟨m, h2, h3, h4, h5, h6, h7⟩ := hk.first hcm hxm hn
 have hmem : ∀ y ∈ c.sl.set k ⟨x.p, x.n - 1, s.w.getD x.h.toNat 0⟩, y ∈ c.sl ∨ y = ⟨x.p, x.n - 1, s.w.getD x.h.toNat 0⟩ := fun y hy => List.mem_or_eq_of_mem_set hy
 have hpm : ∀ y ∈ c.sl.set k ⟨x.p, x.n - 1, s.w.getD x.h.toNat 0⟩, ∃ z ∈ c.sl, z.p = y.p := fun y hy => by
  rcases hmem y hy with h | rfl
  ·exact ⟨y, h, rfl⟩
  ·exact ⟨x, hxm, rfl⟩
 refine ⟨hk.upd hi (c' := { c with sl := c.sl.set k ⟨x.p, x.n - 1, s.w.getD x.h.toNat 0⟩ }) hk.wl hk.hk rfl rfl rfl ?_ (fun d hd => (hk.ck d hd).move rfl (fun y hy => ⟨((hk.ck d hd).sk y hy).live, ((hk.ck d hd).sk y hy).chain⟩)) (fun y hy => .inl (hpm y hy)), rfl, rfl, rfl, rfl⟩
 refine ⟨hck.z, hck.o, hck.r, hck.ns, hck.nm, hck.nr, hck.ac, ?_, fun y hy => ?_, fun b hb => ?_, hck.ad⟩
 ·have h8 := hck.sr
  rw [gN] at h8 ⊢
  intro j l hj hl hjl
  have hj' : j < c.sl.length := by simpa using hj
  have hl' : l < c.sl.length := by simpa using hl
  have h9 := h8 j l hj' hl' hjl
  simp only [List.getElem_set]
  split
  ·rename_i e1
   subst e1
   rw [if_neg (by omega)]
   rw [hkx] at h9
   exact h9
  ·split
   ·rename_i e1
    subst e1
    rw [hkx] at h9
    exact h9
   ·exact h9
 ·rcases hmem y hy with h | rfl
  ·exact ⟨(hck.sk y h).live, (hck.sk y h).chain⟩
  ·exact ⟨(hck.sk x hxm).live, m, h7, by show m.length = x.n - 1; omega, fun a ha => h4 a (List.mem_cons_of_mem _ ha)⟩
 ·rcases hck.aw b hb with h | ⟨z, hz, h⟩
  ·exact .inl h
  ·refine .inr ?_
   obtain ⟨j, hj, e⟩ := List.mem_iff_getElem.1 hz
   refine ⟨(c.sl.set k ⟨x.p, x.n - 1, s.w.getD x.h.toNat 0⟩)[j]'(by simpa using hj), gL _, ?_⟩
   rw [List.getElem_set]
   split
   ·rename_i e1
    subst e1
    rw [hkx] at e
    rw [e]
    exact h
   ·rw [e]
    exact h
theorem fH.choose {s s' : Sy} (hk : fH s) {i cpu k : Nat} {c : Ca} (hi : s.cs[i]? = some c) (fC : cpu < s.h.aF) (hg : s.choose i cpu = some (s', k)) :
  fH s' ∧ s'.h.aF = s.h.aF ∧ ∃ (c' : Ca) (x : Sl), s'.cs[i]? = some c' ∧ c'.sl[k]? = some x ∧ 0 < x.n := by
 unfold Sy.choose at hg
 rw [hi] at hg
 simp only at hg
 cases hown : c.own cpu with
 | some j =>
  rw [hown] at hg
  have h1 := gP hg
  rw [Prod.mk.injEq] at h1
  obtain ⟨rfl, rfl⟩ := h1
  unfold Ca.own at hown
  split at hown
  ·split at hown
   ·split at hown
    ·obtain rfl := gP hown
     exact ⟨hk, rfl, c, _, hi, by assumption, by assumption⟩
    ·cases hown
   ·cases hown
  ·cases hown
 | none =>
  rw [hown] at hg
  simp only at hg
  cases qU : c.nobody with
  | some j =>
   rw [qU] at hg
   have h1 := gP hg
   rw [Prod.mk.injEq] at h1
   obtain ⟨rfl, rfl⟩ := h1
   unfold Ca.nobody at qU
   rw [List.findIdx?_eq_some_iff_getElem] at qU
   obtain ⟨hj, h2, _⟩ := qU
   simp only [Bool.and_eq_true, decide_eq_true_eq, Bool.not_eq_true'] at h2
   have hx : c.sl[j]? = some c.sl[j] := gJ hj
   obtain ⟨h3, h4, _, h5⟩ := hk.mine (cpu := cpu) hi hx (fun a ha e => by
    rw [← e, List.contains_iff_mem.2 ha] at h2
    cases h2.2)
   exact ⟨h3, by rw [h4], _, c.sl[j], h5, hx, h2.1⟩
  | none =>
   rw [qU] at hg
   simp only at hg
   cases hgr : s.grow i cpu c with
   | none => rw [hgr] at hg; cases hg
   | some r =>
    obtain ⟨s2, j⟩ := r
    rw [hgr] at hg
    have h1 := gP hg
    rw [Prod.mk.injEq] at h1
    obtain ⟨rfl, rfl⟩ := h1
    obtain ⟨h2, h3, c', x, h4, h5, h6, h7⟩ := hk.grow hi fC hgr
    obtain ⟨h8, h9, _, h10⟩ := h2.mine (cpu := cpu) h4 h5 h7
    exact ⟨h8, by rw [h9]; exact h3, _, x, h10, h5, h6⟩
theorem fH.one {s s' : Sy} (hk : fH s) {i cpu : Nat} {c : Ca} {a : Int} (hi : s.cs[i]? = some c) (fC : cpu < s.h.aF) (hg : s.one i cpu = some (s', a)) : fH s' ∧ s'.h.aF = s.h.aF ∧ s'.cs.length = s.cs.length ∧ ∃ c', s'.cs[i]? = some c' := by
 unfold Sy.one at hg
 cases hch : s.choose i cpu with
 | none => rw [hch] at hg; cases hg
 | some r =>
  obtain ⟨s2, k⟩ := r
  rw [hch] at hg
  simp only at hg
  obtain ⟨h1, h2, c', x, h3, h4, h5⟩ := hk.choose hi fC hch
  obtain ⟨h6, h7, _, _, h8⟩ := h1.pop h3 h4 h5 hg
  have hlen : s2.cs.length = s.cs.length := by
   unfold Sy.choose at hch
   rw [hi] at hch
   simp only at hch
   have hm : ∀ (t : Sy) (j : Nat), (t.mine i cpu j).cs.length = t.cs.length := fun t j => by
    unfold Sy.mine Sy.jO
    split
    ·split
     ·simp
     ·rfl
    ·rfl
   split at hch
   ·have h := gP hch
    rw [Prod.mk.injEq] at h
    rw [← h.1]
   ·split at hch
    ·have h := gP hch
     rw [Prod.mk.injEq] at h
     rw [← h.1]
     exact hm _ _
    ·split at hch
     ·rename_i heq
      have h := gP hch
      rw [Prod.mk.injEq] at h
      rw [← h.1, hm]
      unfold Sy.grow at heq
      split at heq
      ·have h' := gP heq
       rw [Prod.mk.injEq] at h'
       rw [← h'.1]
       simp
      ·cases heq
     ·cases hch
  have hil : i < s2.cs.length := (List.getElem?_eq_some_iff.1 h3).1
  refine ⟨h6, by rw [h7]; exact h2, ?_, ?_⟩
  ·rw [h8]
   unfold Sy.jO
   simp [hlen]
  ·rw [h8]
   exact ⟨_, by show (s2.cs.set i _)[i]? = _; rw [List.getElem?_set_self hil]⟩
end
section
open Go.RowKit

structure Hc where
 az : Option Addr
 cz : Nat
 am : Option Addr
 cm : Nat
 al : Option Addr
 cl : Nat
 av : Option Addr
 cv : Nat
 y0 : Zc
 y1 : Zc
 lc : List Lc
def uN (c : Hc) : Rs := ⟨102, 4, .slice c.az 2 c.cz, 2, flat jY [c.y0, c.y1]⟩
def mP (c : Hc) : Rs := ⟨207, 4, .slice c.al c.lc.length c.cl, c.lc.length, flat bF c.lc⟩
def xK (c : Hc) (h : Hp) : Rs := ⟨63, 3, .slice c.av h.live.length c.cv, h.live.length, flat aN h.live⟩
def iO (r : Lc) : Rs := ⟨3, 1, .slice r.a r.n r.c, r.n, flat fA r.l.p⟩
def Ri (c : Hc) (h : Hp) : Rs := ⟨3, 1, .slice c.am 2 c.cm, 2, flat fA [h.m0, h.m1]⟩
def La (y : Zc) : Rs := ⟨63, 3, .slice y.a1 y.n1 y.c1, y.n1, flat aN y.z.l⟩
def Ld (y : Zc) : Rs := ⟨3, 1, .slice y.a2 y.n2 y.c2, y.n2, flat fA y.z.y⟩
def Hc.rows (c : Hc) (h : Hp) : List Rs := uN c :: mP c :: xK c h :: c.lc.map iO
def Hc.reads (c : Hc) (h : Hp) : List Rs := [Ri c h, La c.y0, Ld c.y0, La c.y1, Ld c.y1]
def Hc.vals (c : Hc) (h : Hp) : Array Value := #[.slice c.az 2 c.cz, .slice c.am 2 c.cm, .int .i64 (h.aF : Int), .slice c.al c.lc.length c.cl, .slice c.av h.live.length c.cv]

structure HR (W : World) (G : Nat) (X : Nat → Prop) (h : Hp) (c : Hc) : Prop where
 own : dA W 0 (c.rows h)
 ro : ∀ r ∈ c.reads h, r.on W 0
 ds : ∀ r ∈ c.reads h, ∀ s ∈ c.rows h, r.off s
 og : ∀ r ∈ c.rows h, ∀ g, r.v.ownBlock = some g → g ≠ G ∧ ¬ X g
 rg : ∀ r ∈ c.reads h, r.v.ownBlock ≠ some G
 rx : ∀ r ∈ c.reads h, ∀ g, r.v.ownBlock = some g → ¬ X g
 gs : G < W.heap.size
 xg : ¬ X G
 xs : ∀ k, X k → k < W.heap.size
 e0 : c.y0.z = h.z0
 e1 : c.y1.z = h.z1
 ll : c.lc.map Lc.l = h.ls
structure HS (W : World) (G : Nat) (X : Nat → Prop) (h : Hp) (c : Hc) : Prop where
 r : HR W G X h c
 k : ∀ o, W.cell? ⟨G, o, none⟩ = (c.vals h)[o]?
 fz : ∀ o, W.frozen? ⟨G, o, none⟩ = false

theorem OA {W : World} {b : Nat} {y : Zc} (h : (La y).on W b) : y.z.l.length = y.n1 := by
 have h1 := h.1
 unfold La at h1
 simp only at h1
 rw [flat_length aI] at h1
 omega
theorem OB {W : World} {b : Nat} {y : Zc} (h : (Ld y).on W b) : y.z.y.length = y.n2 := by
 have h1 := h.1
 unfold Ld at h1
 simp only at h1
 rw [flat_length bU] at h1
 omega
theorem vG {W : World} {b : Nat} {y : Lc} (h : (iO y).on W b) : y.l.p.length = y.n := by
 have h1 := h.1
 unfold iO at h1
 simp only at h1
 rw [flat_length bU] at h1
 omega
section
variable {W W' : World} {G : Nat} {X Y : Nat → Prop} {h : Hp} {c : Hc}
theorem HR.kW (hs : HR W G X h c) : ∀ r ∈ c.lc, (iO r).on W 0 := fun r hr => hs.own.each _ (by
 unfold Hc.rows
 exact List.mem_cons_of_mem _ (List.mem_cons_of_mem _ (List.mem_cons_of_mem _ (List.mem_map_of_mem hr))))
theorem HR.zs (hs : HR W G X h c) : (uN c).on W 0 := hs.own.each _ (by simp [Hc.rows])
theorem HR.Va (hs : HR W G X h c) : (mP c).on W 0 := hs.own.each _ (by simp [Hc.rows])
theorem HR.lv (hs : HR W G X h c) : (xK c h).on W 0 := hs.own.each _ (by simp [Hc.rows])
theorem HR.mn (hs : HR W G X h c) : (Ri c h).on W 0 := hs.ro _ (by simp [Hc.reads])
theorem HR.l0 (hs : HR W G X h c) : (La c.y0).on W 0 := hs.ro _ (by simp [Hc.reads])
theorem HR.t0 (hs : HR W G X h c) : (Ld c.y0).on W 0 := hs.ro _ (by simp [Hc.reads])
theorem HR.l1 (hs : HR W G X h c) : (La c.y1).on W 0 := hs.ro _ (by simp [Hc.reads])
theorem HR.t1 (hs : HR W G X h c) : (Ld c.y1).on W 0 := hs.ro _ (by simp [Hc.reads])
theorem HR.z0 (hs : HR W G X h c) : Dy W c.y0.a1 c.y0.a2 c.y0.n1 c.y0.n2 h.z0 := by
 rw [← hs.e0]
 exact ⟨OA hs.l0, OB hs.t0, aX hs.l0, aX hs.t0⟩
theorem HR.z1 (hs : HR W G X h c) : Dy W c.y1.a1 c.y1.a2 c.y1.n1 c.y1.n2 h.z1 := by
 rw [← hs.e1]
 exact ⟨OA hs.l1, OB hs.t1, aX hs.l1, aX hs.t1⟩
theorem HR.at (hs : HR W G X h c) : HAt W c.az c.am c.al c.av c.lc.length h.live.length c.y0 c.y1 c.lc h :=
 ⟨aX hs.zs, aX hs.mn, aX hs.Va, aX hs.lv, hs.e0, hs.e1, hs.z0, hs.z1, hs.ll, rfl, rfl, fun r hr => ⟨vG (hs.kW r hr), aX (hs.kW r hr)⟩⟩
theorem HR.below (hs : HR W G X h c) (hb : Below W.heap.size W W') : HR W' G X h c :=
 ⟨hs.own.below hb, fun r hr => own_below (hs.ro r hr) hb (Nat.le_refl _), hs.ds, hs.og, hs.rg, hs.rx, gI hs.gs hb.size, hs.xg, fun k hk => gI (hs.xs k hk) hb.size, hs.e0, hs.e1, hs.ll⟩
theorem HS.below (hs : HS W G X h c) (hb : Below W.heap.size W W') : HS W' G X h c :=
 ⟨hs.r.below hb, aB hs.k hs.r.gs hb, aJ hs.fz hs.r.gs hb⟩
theorem HR.sub (hs : HR W G X h c) (hy : ∀ k, Y k → X k) : HR W G Y h c :=
 ⟨hs.own, hs.ro, hs.ds, fun r hr g hg => ⟨(hs.og r hr g hg).1, fun e => (hs.og r hr g hg).2 (hy g e)⟩, hs.rg, fun r hr g hg e => hs.rx r hr g hg (hy g e), hs.gs, fun e => hs.xg (hy _ e), fun k hk => hs.xs k (hy k hk), hs.e0, hs.e1, hs.ll⟩
theorem HS.sub (hs : HS W G X h c) (hy : ∀ k, Y k → X k) : HS W G Y h c := ⟨hs.r.sub hy, hs.k, hs.fz⟩
theorem HR.more (hs : HR W G X h c) (hy : ∀ k, Y k → k < W.heap.size ∧ k ≠ G ∧ (∀ r ∈ c.rows h, r.v.ownBlock ≠ some k) ∧ ∀ r ∈ c.reads h, r.v.ownBlock ≠ some k) : HR W G Y h c :=
 ⟨hs.own, hs.ro, hs.ds, fun r hr g hg => ⟨(hs.og r hr g hg).1, fun e => (hy g e).2.2.1 r hr hg⟩, hs.rg, fun r hr g hg e => (hy g e).2.2.2 r hr hg, hs.gs, fun e => (hy _ e).2.1 rfl, fun k hk => (hy k hk).1, hs.e0, hs.e1, hs.ll⟩
theorem HS.more (hs : HS W G X h c) (hy : ∀ k, Y k → k < W.heap.size ∧ k ≠ G ∧ (∀ r ∈ c.rows h, r.v.ownBlock ≠ some k) ∧ ∀ r ∈ c.reads h, r.v.ownBlock ≠ some k) : HS W G Y h c := ⟨hs.r.more hy, hs.k, hs.fz⟩
theorem HS.new (hs : HS W G X h c) (hb : Below W.heap.size W W') : HS W' G (fun k => X k ∨ (W.heap.size ≤ k ∧ k < W'.heap.size)) h c :=
 (hs.below hb).more fun k hk => by
  rcases hk with hk | ⟨h1, h2⟩
  ·have h3 := hs.r.xs k hk
   exact ⟨gI h3 hb.size, fun e => hs.r.xg (e ▸ hk), fun r hr e => (hs.r.og r hr k e).2 hk, fun r hr e => hs.r.rx r hr k e hk⟩
  ·exact ⟨h2, fun e => by have := hs.r.gs; omega, fun r hr e => by have := (hs.r.own.lt r hr k e).2; omega, fun r hr e => by have := ((hs.r.ro r hr).lt k e).2; omega⟩
theorem HR.jL (hs : HR W G X h c) (i : Nat) (u : Value) : HR (W.setCell ⟨G, i, none⟩ u) G X h c :=
 ⟨hs.own.far (fun r hr e => (hs.og r hr G e).1 rfl) i u, fun r hr => dG (hs.ro r hr) (hs.rg r hr) u, hs.ds, hs.og, hs.rg, hs.rx, by simpa using hs.gs, hs.xg, fun k hk => by simpa using hs.xs k hk, hs.e0, hs.e1, hs.ll⟩
theorem HS.far (hs : HS W G X h c) {g : Nat} (hx : X g) (i : Nat) (u : Value) : HS (W.setCell ⟨g, i, none⟩ u) G X h c := by
 have hne : G ≠ g := fun e => hs.r.xg (e ▸ hx)
 exact ⟨⟨hs.r.own.far (fun r hr e => (hs.r.og r hr g e).2 hx) i u, fun r hr => dG (hs.r.ro r hr) (fun e => hs.r.rx r hr g e hx) u, hs.r.ds, hs.r.og, hs.r.rg, hs.r.rx, by simpa using hs.r.gs, hs.r.xg, fun k hk => by simpa using hs.r.xs k hk, hs.r.e0, hs.r.e1, hs.r.ll⟩, aA hs.k hne i u, aG hs.fz _ _⟩
end
end
section
open Go.RowKit

def put4 (W : World) (g o : Nat) (u0 u1 u2 u3 : Value) : World := (((W.setCell ⟨g, o, none⟩ u0).setCell ⟨g, o + 1, none⟩ u1).setCell ⟨g, o + 2, none⟩ u2).setCell ⟨g, o + 3, none⟩ u3
section
variable {W W1 : World} {G : Nat} {X : Nat → Prop} {h : Hp} {c : Hc}
theorem yJ {base : Nat} {e : TypeId} {size : Nat} {v : Value} {n : Nat} {xs : List Value} (h : W.ownsRow base e size v n xs) {g : Nat} (hb : v.ownBlock ≠ some g) (o : Nat) (u0 u1 u2 u3 : Value) : (put4 W g o u0 u1 u2 u3).ownsRow base e size v n xs :=
 dG (dG (dG (dG h hb u0) hb u1) hb u2) hb u3
theorem Safe.put4 (g o : Nat) (u0 u1 u2 u3 : Value) (hg : ¬ X g) : Safe X W (put4 W g o u0 u1 u2 u3) := ((((Safe.refl X W).set hg o u0).set hg (o + 1) u1).set hg (o + 2) u2).set hg (o + 3) u3
theorem dA.put4 {iU : Nat} {r : Rs} {rs : List Rs} (h : dA W iU (r :: rs)) {g c : Nat} (hv : r.v = .slice (some ⟨g, 0, none⟩) r.n c) (o : Nat) (u0 u1 u2 u3 : Value) (h0 : u0.oneCell' = true) (h1 : u1.oneCell' = true) (h2 : u2.oneCell' = true) (h3 : u3.oneCell' = true) :
  dA (put4 W g o u0 u1 u2 u3) iU ({ r with xs := (((r.xs.set o u0).set (o + 1) u1).set (o + 2) u2).set (o + 3) u3 } :: rs) := by
 have k0 := h.cell (i := 0) (by simp) (g := g) (c := c) hv o u0 h0
 have k1 := k0.cell (i := 0) (by simp) (g := g) (c := c) hv (o + 1) u1 h1
 have k2 := k1.cell (i := 0) (by simp) (g := g) (c := c) hv (o + 2) u2 h2
 have k3 := k2.cell (i := 0) (by simp) (g := g) (c := c) hv (o + 3) u3 h3
 exact k3
theorem OC {b g : Nat} {A : Array Value} (h : ∀ o, W.cell? ⟨b, o, none⟩ = A[o]?) (hne : b ≠ g) (p : Nat) (u0 u1 u2 u3 : Value) (o : Nat) : (put4 W g p u0 u1 u2 u3).cell? ⟨b, o, none⟩ = A[o]? :=
 aA (aA (aA (aA h hne p u0) hne (p + 1) u1) hne (p + 2) u2) hne (p + 3) u3 o
theorem OD {b g : Nat} (h : ∀ o, W.frozen? ⟨b, o, none⟩ = false) (p : Nat) (u0 u1 u2 u3 : Value) (o : Nat) : (put4 W g p u0 u1 u2 u3).frozen? ⟨b, o, none⟩ = false :=
 aG (aG (aG (aG h _ u0) _ u1) _ u2) _ u3 o
theorem Bo (g p : Nat) (u0 u1 u2 u3 : Value) : (put4 W g p u0 u1 u2 u3).heap.size = W.heap.size := by unfold put4; simp

def Hc.zone (c : Hc) (i : Nat) : Zc := if i = 0 then c.y0 else c.y1
def Hc.dN (c : Hc) (i : Nat) (y : Zc) : Hc := if i = 0 then { c with y0 := y } else { c with y1 := y }
theorem HR.CS (hs : HR W G X h c) : ∃ g, c.az = some ⟨g, 0, none⟩ ∧ g < W.heap.size ∧ g ≠ G ∧ ¬ X g ∧ ∀ j, j < 8 → W.frozen? ⟨g, j, none⟩ = false := by
 obtain ⟨g, v, h1, _, h2, _, _⟩ := dW hs.zs 0 (by simp [uN, flat, jY])
 have h3 : (uN c).v.ownBlock = some g := by unfold uN; rw [h1]; rfl
 have h4 := hs.og (uN c) (by simp [Hc.rows]) g h3
 refine ⟨g, h1, h2, h4.1, h4.2, fun j hj => ?_⟩
 obtain ⟨g', v', h5, _, _, _, h6⟩ := dW hs.zs j (by simp [uN, flat, jY]; omega)
 rw [h1] at h5
 obtain rfl : g = g' := by simpa using h5
 exact h6

theorem HS.Xz (hs : HS W G X h c) (hb : Below W.heap.size W W1) {i : Nat} (hi : i < 2) {z' : Zn} {a1 a2 : Option Addr} {n1 n2 c1 c2 : Nat} (hz : eU W1 W.heap.size a1 a2 n1 n2 c1 c2 z') {g : Nat} (hg : c.az = some ⟨g, 0, none⟩) :
  HS (put4 W1 g (i * 4) (vI z'.f) (vI z'.e) (.slice a1 n1 c1) (.slice a2 n2 c2)) G X (h.gW i z') (c.dN i ⟨z', a1, a2, n1, n2, c1, c2⟩) ∧ Safe X W (put4 W1 g (i * 4) (vI z'.f) (vI z'.e) (.slice a1 n1 c1) (.slice a2 n2 c2)) := by
 have hs1 := hs.below hb
 obtain ⟨g', hg1, hgs, XA, XB, _⟩ := hs.r.CS
 obtain rfl : g = g' := by rw [hg] at hg1; simpa using hg1
 have hzb : (uN c).v.ownBlock = some g := by unfold uN; rw [hg]; rfl
 have hzm : uN c ∈ c.rows h := by simp [Hc.rows]
 have hne := hz.ne (g := g) (.inl hgs)
 have xG := hz.ne (g := G) (.inl hs.r.gs)
 have hlive : (h.gW i z').live = h.live := by unfold Hp.gW; split <;> rfl
 have hls : (h.gW i z').ls = h.ls := by unfold Hp.gW; split <;> rfl
 have hcp : (h.gW i z').aF = h.aF := by unfold Hp.gW; split <;> rfl
 have hm0 : (h.gW i z').m0 = h.m0 := by unfold Hp.gW; split <;> rfl
 have hm1 : (h.gW i z').m1 = h.m1 := by unfold Hp.gW; split <;> rfl
 have hrows : (c.dN i ⟨z', a1, a2, n1, n2, c1, c2⟩).rows (h.gW i z') = { uN c with xs := (((((uN c).xs.set (i * 4) (vI z'.f)).set (i * 4 + 1) (vI z'.e)).set (i * 4 + 2) (.slice a1 n1 c1)).set (i * 4 + 3) (.slice a2 n2 c2)) } :: mP c :: xK c h :: c.lc.map iO := by
  unfold Hc.rows
  have e1 : xK (c.dN i ⟨z', a1, a2, n1, n2, c1, c2⟩) (h.gW i z') = xK c h := by unfold xK; rw [hlive]; unfold Hc.dN; split <;> rfl
  have e2 : mP (c.dN i ⟨z', a1, a2, n1, n2, c1, c2⟩) = mP c := by unfold Hc.dN; split <;> rfl
  have e3 : (c.dN i ⟨z', a1, a2, n1, n2, c1, c2⟩).lc = c.lc := by unfold Hc.dN; split <;> rfl
  rw [e1, e2, e3]
  congr 1
  obtain rfl | rfl : i = 0 ∨ i = 1 := by omega
  ·rfl
  ·rfl
 have hreads : ∀ r ∈ (c.dN i ⟨z', a1, a2, n1, n2, c1, c2⟩).reads (h.gW i z'), r ∈ c.reads h ∨ r = La ⟨z', a1, a2, n1, n2, c1, c2⟩ ∨ r = Ld ⟨z', a1, a2, n1, n2, c1, c2⟩ := fun r hr => by
  have e1 : Ri (c.dN i ⟨z', a1, a2, n1, n2, c1, c2⟩) (h.gW i z') = Ri c h := by unfold Ri; rw [hm0, hm1]; unfold Hc.dN; split <;> rfl
  unfold Hc.reads at hr ⊢
  rw [e1] at hr
  unfold Hc.dN at hr
  obtain rfl | rfl : i = 0 ∨ i = 1 := by omega
  ·simp only [if_true, List.mem_cons, List.not_mem_nil, or_false] at hr ⊢
   rcases hr with h | h | h | h | h <;> simp [h]
  ·simp only [show ¬ (1 : Nat) = 0 by omega, if_false, List.mem_cons, List.not_mem_nil, or_false] at hr ⊢
   rcases hr with h | h | h | h | h <;> simp [h]
 have hmem : ∀ s ∈ (c.dN i ⟨z', a1, a2, n1, n2, c1, c2⟩).rows (h.gW i z'), ∃ s0 ∈ c.rows h, s0.v = s.v := fun s hs' => by
  rw [hrows, List.mem_cons] at hs'
  rcases hs' with rfl | hs'
  ·exact ⟨uN c, hzm, rfl⟩
  ·exact ⟨s, by unfold Hc.rows; exact List.mem_cons_of_mem _ hs', rfl⟩
 refine ⟨⟨⟨?_, fun r hr => ?_, fun r hr s hs' => ?_, fun r hr g' hg' => ?_, fun r hr => ?_, fun r hr g' hg' hx => ?_, by rw [Bo]; exact hs1.r.gs, hs.r.xg, fun k hk => by rw [Bo]; exact hs1.r.xs k hk, ?_, ?_, ?_⟩, ?_, OD hs1.fz _ _ _ _ _⟩, (Safe.iF hb).trans (.put4 _ _ _ _ _ _ XB)⟩
 ·rw [hrows]
  have h1 := hs1.r.own
  unfold Hc.rows at h1
  exact h1.put4 (c := c.cz) (by unfold uN; rw [hg]) (i * 4) _ _ _ _ rfl rfl rfl rfl
 ·rcases hreads r hr with h1 | rfl | rfl
  ·exact yJ (hs1.r.ro r h1) (fun e => hs.r.ds r h1 _ hzm g e hzb) _ _ _ _ _
  ·exact yJ (own_base hz.o1 (Nat.zero_le _)) hne.1 _ _ _ _ _
  ·exact yJ (own_base hz.o2 (Nat.zero_le _)) hne.2 _ _ _ _ _
 ·obtain ⟨s0, hs0, hv⟩ := hmem s hs'
  intro g' h1 h2
  rw [← hv] at h2
  rcases hreads r hr with h3 | rfl | rfl
  ·exact hs.r.ds r h3 s0 hs0 g' h1 h2
  ·have h4 := (hz.o1.lt g' h1).1
   have h5 := (hs.r.own.lt s0 hs0 g' h2).2
   omega
  ·have h4 := (hz.o2.lt g' h1).1
   have h5 := (hs.r.own.lt s0 hs0 g' h2).2
   omega
 ·obtain ⟨s0, hs0, hv⟩ := hmem r hr
  rw [← hv] at hg'
  exact hs.r.og s0 hs0 g' hg'
 ·rcases hreads r hr with h3 | rfl | rfl
  ·exact hs.r.rg r h3
  ·exact xG.1
  ·exact xG.2
 ·rcases hreads r hr with h3 | rfl | rfl
  ·exact hs.r.rx r h3 g' hg' hx
  ·have h4 := (hz.o1.lt g' hg').1
   have h5 := hs.r.xs g' hx
   omega
  ·have h4 := (hz.o2.lt g' hg').1
   have h5 := hs.r.xs g' hx
   omega
 ·have := hs.r.e0
  unfold Hc.dN Hp.gW
  obtain rfl | rfl : i = 0 ∨ i = 1 := by omega
  ·rfl
  ·exact this
 ·have := hs.r.e1
  unfold Hc.dN Hp.gW
  obtain rfl | rfl : i = 0 ∨ i = 1 := by omega
  ·exact this
  ·rfl
 ·have := hs.r.ll
  rw [hls, ← this]
  unfold Hc.dN
  split <;> rfl
 ·have h1 := OC hs1.k (fun e => XA e.symm) (i * 4) (vI z'.f) (vI z'.e) (.slice a1 n1 c1) (.slice a2 n2 c2)
  have h2 : (c.dN i ⟨z', a1, a2, n1, n2, c1, c2⟩).vals (h.gW i z') = c.vals h := by
   unfold Hc.vals
   rw [hlive, hcp]
   unfold Hc.dN
   split <;> rfl
  rw [h2]
  exact h1
end
end
section
theorem qC : ∀ (a b : List Nat) (h : Hp), bG h (a ++ b) = bG (bG h a) b
 | [], _, _ => rfl
 | p :: a, b, h => by rw [List.cons_append, bG, bG, qC a b]
theorem rC : ∀ (a b : List Ls) (h : Hp), bP h (a ++ b) = bP (bP h a) b
 | [], _, _ => rfl
 | l :: a, b, h => by rw [List.cons_append, bP, bP, rC a b]
theorem Df (h : Hp) (l : List Nat) {j : Nat} (hj : j < l.length) : bG h (l.take (j + 1)) = (bG h (l.take j)).iW l[j] 0 := by
 rw [List.take_succ_eq_append_getElem hj, qC]
 rfl
theorem EP (h : Hp) (l : List Ls) {i : Nat} (hi : i < l.length) : bP h (l.take (i + 1)) = bG (bP h (l.take i)) l[i].p := by
 rw [List.take_succ_eq_append_getElem hi, rC]
 rfl
theorem Ie {h : Hp} (hk : eY h) {a o : Nat} (hb : bY 0 256 a o) (hd : ∀ p, cnt h.all p + hit ⟨a, o, 0⟩ p ≤ 1) : (h.zone (h.lU a)).ok ∧ bY (h.zone (h.lU a)).f (h.zone (h.lU a)).e a o ∧ ∀ x ∈ (h.zone (h.lU a)).l, apartB a o x :=
 ⟨hk.zone _, hk.fits hb, fun x hx => dI fun p h1 h2 => by
  have g1 := hd p
  have g2 := DW h (h.lU a) p
  have g3 := iE.2 (show dX (h.zone (h.lU a)).l p from ⟨x, hx, h2⟩)
  have g4 : hit ⟨a, o, 0⟩ p = 1 := iQ.2 h1
  omega⟩
theorem Af {h : Hp} (hk : eY h) {a o : Nat} (m : List Ls) (hb : bY 0 256 a o) (hd : ∀ p, cnt h.all p + hit ⟨a, o, 0⟩ p ≤ 1) : (({ h with ls := m } : Hp).zone (({ h with ls := m } : Hp).lU a)).ok ∧ bY (({ h with ls := m } : Hp).zone (({ h with ls := m } : Hp).lU a)).f (({ h with ls := m } : Hp).zone (({ h with ls := m } : Hp).lU a)).e a o ∧ ∀ x ∈ (({ h with ls := m } : Hp).zone (({ h with ls := m } : Hp).lU a)).l, apartB a o x := Ie hk hb hd
theorem wR {h : Hp} (hk : eY h) {i : Nat} (hi : i < h.ls.length) {j : Nat} (hj : j < h.ls[i].p.length) :
  ((bG (bP h (h.ls.take i)) (h.ls[i].p.take j)).zone ((bG (bP h (h.ls.take i)) (h.ls[i].p.take j)).lU h.ls[i].p[j])).ok ∧ bY ((bG (bP h (h.ls.take i)) (h.ls[i].p.take j)).zone ((bG (bP h (h.ls.take i)) (h.ls[i].p.take j)).lU h.ls[i].p[j])).f ((bG (bP h (h.ls.take i)) (h.ls[i].p.take j)).zone ((bG (bP h (h.ls.take i)) (h.ls[i].p.take j)).lU h.ls[i].p[j])).e h.ls[i].p[j] 0 ∧ ∀ x ∈ ((bG (bP h (h.ls.take i)) (h.ls[i].p.take j)).zone ((bG (bP h (h.ls.take i)) (h.ls[i].p.take j)).lU h.ls[i].p[j])).l, apartB h.ls[i].p[j] 0 x := by
 have hp : ∀ l ∈ h.ls, ∀ p ∈ l.p, p < 256 := fun l hl p hp => ((hk.lr l hl).2.2.2.2.2 p hp).1
 have hc : ∀ q, cnt ({ h with ls := [] } : Hp).all q + cnt (lsB h.ls) q = cnt h.all q := fun q => by
  rw [dM, dM]
  simp only [lsB, cnt]
  omega
 have hsp : ∀ q, cnt (lsB h.ls) q = cnt (lsB (h.ls.take i)) q + cnt (kW h.ls[i].p) q + cnt (lsB (h.ls.drop (i + 1))) q := fun q => by
  have h1 := xU hi
  have h2 : cnt (lsB h.ls) q = cnt (lsB (h.ls.take i ++ h.ls[i] :: h.ls.drop (i + 1))) q := congrArg (fun l => cnt (lsB l) q) h1
  rw [iJ, fD] at h2
  omega
 have hpp : ∀ q, cnt (kW h.ls[i].p) q = cnt (kW (h.ls[i].p.take j)) q + hit ⟨h.ls[i].p[j], 0, 0⟩ q + cnt (kW (h.ls[i].p.drop (j + 1))) q := fun q => by
  have h1 : h.ls[i].p = h.ls[i].p.take j ++ ([h.ls[i].p[j]] ++ h.ls[i].p.drop (j + 1)) := by
   rw [List.singleton_append, List.getElem_cons_drop, List.take_append_drop]
  have h2 : cnt (kW h.ls[i].p) q = cnt (kW (h.ls[i].p.take j ++ ([h.ls[i].p[j]] ++ h.ls[i].p.drop (j + 1)))) q := congrArg (fun l => cnt (kW l) q) h1
  rw [jP, jP, wB] at h2
  omega
 obtain ⟨a1, a2, a3, a4, a5⟩ := hk.IX.bP (h.ls.take i) (fun l hl p hx => hp l (List.mem_of_mem_take hl) p hx) (fun q => by have h1 := hc q; have h2 := hsp q; have h3 := hk.one q; omega)
 obtain ⟨b1, b2, b3, b4, b5⟩ := a1.bG (h.ls[i].p.take j) (fun p hx => hp _ (gL hi) p (List.mem_of_mem_take hx)) (fun q => by rw [a2]; have h1 := hc q; have h2 := hsp q; have h3 := hk.one q; have h4 := hpp q; omega)
 have e : bG (bP h (h.ls.take i)) (h.ls[i].p.take j) = { bG (bP { h with ls := [] } (h.ls.take i)) (h.ls[i].p.take j) with ls := h.ls } := by
  rw [← rO, ← uU]
 rw [e]
 exact Af b1 h.ls (uT (hp _ (gL hi) _ (gL hj))) (fun q => by rw [b2, a2]; have h1 := hc q; have h2 := hsp q; have h3 := hk.one q; have h4 := hpp q; omega)
theorem yR (h : Hp) (l : List Ls) : (bP h l).ls = h.ls ∧ (bP h l).live = h.live := by
 have hB : ∀ (g : Hp) (a o : Nat), (g.iW a o).ls = g.ls ∧ (g.iW a o).live = g.live := fun g a o => by
  unfold Hp.iW Hp.gW
  split <;> exact ⟨rfl, rfl⟩
 have hA : ∀ (ps : List Nat) (g : Hp), (bG g ps).ls = g.ls ∧ (bG g ps).live = g.live := by
  intro ps
  induction ps with
  | nil => intro g; exact ⟨rfl, rfl⟩
  | cons p ps ih => intro g; rw [bG]; exact ⟨(ih _).1.trans (hB g p 0).1, (ih _).2.trans (hB g p 0).2⟩
 induction l generalizing h with
 | nil => exact ⟨rfl, rfl⟩
 | cons x l ih => rw [bP]; exact ⟨(ih _).1.trans (hA _ _).1, (ih _).2.trans (hA _ _).2⟩
end
section
def Rg.lo (r : Rg) (split : Nat) : Nat := min (r.f.toNat + r.s.toNat) split - r.f.toNat
def newStep (split : Nat) (z : Zn × Zn) (r : Rg) : Zn × Zn := (dJ z.1 r.f.toNat (r.lo split), dJ z.2 (r.f.toNat + r.lo split) (r.s.toNat - r.lo split))
def dU (split : Nat) (l : List Rg) : Zn × Zn := l.foldl (newStep split) (⟨0, split, [], List.replicate (split / 8) 1⟩, ⟨split, 256, [], List.replicate ((256 - split) / 8) 1⟩)
def newH (l : List Rg) (split least aF : Nat) : Hp := ⟨(dU split l).1, (dU split l).2, least, least, aF, [], []⟩

theorem zJ : ∀ (l : List Rg) (q : Option Rg), bW q l = true → l.Pairwise fun a b => a.f + a.s < b.f
 | [], _, _ => List.Pairwise.nil
 | r :: l, q, h => by
  simp only [bW, Bool.and_eq_true] at h
  exact List.Pairwise.cons (oI l r h.2) (zJ l _ h.2)
structure Du (split : Nat) (l : List Rg) (z : Zn × Zn) : Prop where
 o0 : z.1.ok
 o1 : z.2.ok
 f0 : z.1.f = 0
 e0 : z.1.e = split
 f1 : z.2.f = split
 e1 : z.2.e = 256
 c0 : ∀ q, dX z.1.l q ↔ (q < split ∧ bV l q = true)
 c1 : ∀ q, dX z.2.l q ↔ (split ≤ q ∧ bV l q = true)
theorem FH {f e : Nat} (h1 : f ≤ e) (h2 : e ≤ 256) (h3 : f % 16 = 0) (h4 : e % 16 = 0) : (⟨f, e, [], List.replicate ((e - f) / 8) 1⟩ : Zn).ok :=
 ⟨(QJ _ _ _).2 ⟨h1, h2, h3, h4, by simp, fun t ht => by rw [(List.mem_replicate.1 ht).2]; omega⟩, (QI _ _ _).2 ⟨by simp, List.Pairwise.nil, by simp⟩⟩
theorem Iy {split : Nat} (h1 : split ≤ 256) (h2 : split % 16 = 0) : Du split [] (⟨0, split, [], List.replicate (split / 8) 1⟩, ⟨split, 256, [], List.replicate ((256 - split) / 8) 1⟩) :=
 ⟨FH (Nat.zero_le _) h1 rfl h2, FH h1 (Nat.le_refl _) h2 rfl, rfl, rfl, rfl, rfl, fun q => by simp [dX, bV], fun q => by simp [dX, bV]⟩
structure JD (split : Nat) (l : List Rg) (r : Rg) (z : Zn × Zn) : Prop where
 f : r.f = (r.f.toNat : Int)
 s : r.s = (r.s.toNat : Int)
 fs : r.f.toNat + r.s.toNat ≤ 256
 s1 : 1 ≤ r.s.toNat
 lo : r.lo split ≤ r.s.toNat
 le : 0 < r.lo split → r.f.toNat + r.lo split ≤ split
 hi : r.lo split < r.s.toNat → split ≤ r.f.toNat + r.lo split
 d0 : ∀ q, r.f.toNat ≤ q → q < r.f.toNat + r.lo split → ¬ dX z.1.l q
 d1 : ∀ q, r.f.toNat + r.lo split ≤ q → q < r.f.toNat + r.lo split + (r.s.toNat - r.lo split) → ¬ dX z.2.l q
 next : Du split (l ++ [r]) (newStep split z r)
theorem wU {split : Nat} {l : List Rg} {r : Rg} {z : Zn × Zn} (h : Du split l z) (hck : rY r = true) (hlt : ∀ x ∈ l, x.f + x.s < r.f) (hsp : split ≤ 256) : JD split l r z := by
 have hc := iY hck
 have hf : r.f = (r.f.toNat : Int) := by omega
 have hs : r.s = (r.s.toNat : Int) := by omega
 obtain ⟨F, hF⟩ : ∃ F, r.f.toNat = F := ⟨_, rfl⟩
 obtain ⟨S, hS⟩ : ∃ S, r.s.toNat = S := ⟨_, rfl⟩
 have hno : ∀ q, F ≤ q → bV l q = false := fun q hq => by
  rw [Bool.eq_false_iff]
  intro hi
  obtain ⟨x, hx, h1, h2⟩ := (iP l q).1 hi
  have := hlt x hx
  omega
 have hone : ∀ q, bV (l ++ [r]) q = true ↔ (bV l q = true ∨ (F ≤ q ∧ q < F + S)) := fun q => by
  rw [qG, uI, Bool.or_eq_true]
  unfold mD
  rw [decide_eq_true_eq]
  refine or_congr Iff.rfl ⟨fun h => ?_, fun h => ?_⟩ <;> omega
 have hlo : r.lo split = min (F + S) split - F := by unfold Rg.lo; rw [hF, hS]
 have d0 : ∀ q, F ≤ q → q < F + r.lo split → ¬ dX z.1.l q := fun q h1 h2 hc => by
  have := ((h.c0 q).1 hc).2
  rw [hno q h1] at this
  cases this
 have d1 : ∀ q, F + r.lo split ≤ q → q < F + r.lo split + (S - r.lo split) → ¬ dX z.2.l q := fun q h1 h2 hc => by
  have := ((h.c1 q).1 hc).2
  rw [hno q (by omega)] at this
  cases this
 rw [← hF] at d0 d1
 rw [← hS] at d1
 have g0 : (dJ z.1 F (r.lo split)).ok ∧ (dJ z.1 F (r.lo split)).f = z.1.f ∧ (dJ z.1 F (r.lo split)).e = z.1.e ∧ ∀ q, dX (dJ z.1 F (r.lo split)).l q ↔ (dX z.1.l q ∨ (F ≤ q ∧ q < F + r.lo split)) := by
  by_cases h0 : r.lo split = 0
  ·rw [h0]
   refine ⟨h.o0, rfl, rfl, fun q => ⟨.inl, ?_⟩⟩
   rintro (h1 | h1)
   ·exact h1
   ·omega
  ·rw [hF] at d0
   exact kT h.o0 d0 (by rw [h.f0]; exact Nat.zero_le _) (by rw [h.e0]; omega) _ (Nat.le_refl _)
 have g1 : (dJ z.2 (F + r.lo split) (S - r.lo split)).ok ∧ (dJ z.2 (F + r.lo split) (S - r.lo split)).f = z.2.f ∧ (dJ z.2 (F + r.lo split) (S - r.lo split)).e = z.2.e ∧ ∀ q, dX (dJ z.2 (F + r.lo split) (S - r.lo split)).l q ↔ (dX z.2.l q ∨ (F + r.lo split ≤ q ∧ q < F + r.lo split + (S - r.lo split))) := by
  by_cases h0 : S - r.lo split = 0
  ·rw [h0]
   refine ⟨h.o1, rfl, rfl, fun q => ⟨.inl, ?_⟩⟩
   rintro (h1 | h1)
   ·exact h1
   ·omega
  ·rw [hF, hS] at d1
   exact kT h.o1 d1 (by rw [h.f1]; omega) (by rw [h.e1]; omega) _ (Nat.le_refl _)
 refine ⟨hf, hs, by omega, by omega, by omega, by omega, by omega, d0, d1, ?_⟩
 unfold newStep
 rw [hF, hS]
 refine ⟨g0.1, g1.1, by rw [g0.2.1]; exact h.f0, by rw [g0.2.2.1]; exact h.e0, by rw [g1.2.1]; exact h.f1, by rw [g1.2.2.1]; exact h.e1, fun q => ?_, fun q => ?_⟩
 ·simp only
  rw [g0.2.2.2, h.c0, hone]
  constructor
  ·rintro (⟨h1, h2⟩ | h1)
   ·exact ⟨h1, .inl h2⟩
   ·exact ⟨by omega, .inr (by omega)⟩
  ·rintro ⟨h1, h2 | h2⟩
   ·exact .inl ⟨h1, h2⟩
   ·exact .inr (by omega)
 ·simp only
  rw [g1.2.2.2, h.c1, hone]
  constructor
  ·rintro (⟨h1, h2⟩ | h1)
   ·exact ⟨h1, .inl h2⟩
   ·exact ⟨by omega, .inr (by omega)⟩
  ·rintro ⟨h1, h2 | h2⟩
   ·exact .inl ⟨h1, h2⟩
   ·exact .inr (by omega)
theorem zK (split : Nat) (l : List Rg) (k : Nat) (hk : k < l.length) : dU split (l.take (k + 1)) = newStep split (dU split (l.take k)) l[k] := by
 unfold dU
 rw [List.take_succ_eq_append_getElem hk, List.foldl_append]
 rfl
theorem mG {split : Nat} {l : List Rg} (hl : cO l = true) (h1 : split ≤ 256) (h2 : split % 16 = 0) : ∀ k, k ≤ l.length → Du split (l.take k) (dU split (l.take k))
 | 0, _ => Iy h1 h2
 | k + 1, hk => by
  rw [zK split l k hk, List.take_succ_eq_append_getElem hk]
  refine (wU (mG hl h1 h2 k (by omega)) (kK hl _ (gL hk)) (fun x hx => ?_) h1).next
  simp only [cO, Bool.and_eq_true] at hl
  obtain ⟨j, hj, rfl⟩ := List.mem_take_iff_getElem.1 hx
  exact List.pairwise_iff_getElem.1 (zJ l none hl.2) _ _ _ hk (by omega)
theorem MH {split : Nat} {l : List Rg} (hl : cO l = true) (h1 : split ≤ 256) (h2 : split % 16 = 0) {k : Nat} (hk : k < l.length) : JD split (l.take k) l[k] (dU split (l.take k)) := by
 refine wU (mG hl h1 h2 k (by omega)) (kK hl _ (gL hk)) (fun x hx => ?_) h1
 simp only [cO, Bool.and_eq_true] at hl
 obtain ⟨j, hj, rfl⟩ := List.mem_take_iff_getElem.1 hx
 exact List.pairwise_iff_getElem.1 (zJ l none hl.2) _ _ _ hk (by omega)
theorem JE {l : List Rg} (hl : cO l = true) {split least aF : Nat} (h1 : split ≤ 256) (h2 : split % 16 = 0) (h3 : least ≤ 256) (h4 : 1 ≤ aF ∧ aF ≤ 4) :
  eY (newH l split least aF) ∧ ∀ p, cnt (newH l split least aF).all p = if bV l p then 1 else 0 := by
 have hi := mG hl h1 h2 l.length (Nat.le_refl _)
 rw [List.take_length] at hi
 have hc : ∀ p, cnt (newH l split least aF).all p = if bV l p then 1 else 0 := fun p => by
  rw [dM]
  show cnt (dU split l).1.l p + cnt (dU split l).2.l p + 0 + 0 = _
  have a0 := jZ (kD hi.o0.2.sep) p
  have a1 := jZ (kD hi.o1.2.sep) p
  have b0 := (iE (l := (dU split l).1.l) (p := p)).trans (hi.c0 p)
  have b1 := (iE (l := (dU split l).2.l) (p := p)).trans (hi.c1 p)
  cases hp : bV l p with
  | true =>
   simp only [hp, and_true] at b0 b1
   simp only [if_true]
   omega
  | false =>
   simp only [hp, Bool.false_eq_true, and_false, iff_false] at b0 b1
   simp
   omega
 refine ⟨⟨hi.o0, hi.o1, hi.f0, hi.e0.trans hi.f1.symm, hi.e1, h3, h3, h4, List.Pairwise.nil, by simp [newH], by simp [newH], List.Pairwise.nil, fun p => ?_⟩, hc⟩
 rw [hc]
 split <;> omega
end
end Go.Proofs.YtcmpmobhongkiaaGreatDoor
