/- texts of this claim, joined. -/
import Derived.Test.YtcmpmobhongkiaaGreatDoorSE0
import Derived.Test.YtcmpmobhongkiaaGreatDoorSE11
import Derived.Test.YtcmpmobhongkiaaGreatDoorSE22
import Derived.Test.YtcmpmobhongkiaaGreatDoorSE32
import Derived.Test.YtcmpmobhongkiaaGreatDoorSE33
import Derived.Test.YtcmpmobhongkiaaGreatDoorSE34
import Derived.Test.YtcmpmobhongkiaaGreatDoorSE39
import Derived.Test.YtcmpmobhongkiaaGreatDoorSE41
set_option linter.unusedVariables false
set_option linter.unusedSimpArgs false
namespace Go.Proofs.YtcmpmobhongkiaaGreatDoor
section
def Sy.push (s : Sy) (i k a : Nat) : Sy := match s.cs[i]? with
 | some c => match c.sl[k]? with
  | some x => { s with w := s.w.set a x.h, cs := s.cs.set i { c with sl := c.sl.set k ⟨x.p, x.n + 1, (a : Int)⟩ } }
  | none => s
 | none => s
theorem Sv {s : Sy} {i k a : Nat} {c : Ca} {x : Sl} (hi : s.cs[i]? = some c) (hx : c.sl[k]? = some x) : s.push i k a = { s with w := s.w.set a x.h, cs := s.cs.set i { c with sl := c.sl.set k ⟨x.p, x.n + 1, (a : Int)⟩ } } := by
 unfold Sy.push
 rw [hi]
 simp only [hx]
theorem y8 {w : List Int} {a : Nat} {u b : Int} (hb : 0 ≤ b) (h : b ≠ (a : Int)) : (w.set a u).getD b.toNat 0 = w.getD b.toNat 0 := by
 rw [List.getD_eq_getElem?_getD, List.getElem?_set_ne (by omega), ← List.getD_eq_getElem?_getD]
theorem fH.push {s : Sy} (hk : fH s) {i k a : Nat} {c : Ca} {x : Sl} (hi : s.cs[i]? = some c) (hx : c.sl[k]? = some x) (ho : lJ s.w c x a) :
  fH (s.push i k a) ∧ (∀ j b, (s.push i k a).away j b ↔ s.away j b ∧ ¬ (j = i ∧ b = a)) ∧ (s.push i k a).cs[i]? = some { c with sl := c.sl.set k ⟨x.p, x.n + 1, (a : Int)⟩ } := by
 have hil := (List.getElem?_eq_some_iff.1 hi).1
 have hcm := gM hi
 have hxm := gM hx
 obtain ⟨hkl, hkx⟩ := List.getElem?_eq_some_iff.1 hx
 have hck := hk.ck c hcm
 obtain ⟨hob, hout⟩ := ho
 obtain ⟨l, h1, h2, h3⟩ := (hck.sk x hxm).chain
 have hal := hout l h1
 obtain ⟨f1, f2, f3, f4⟩ := jB.1 h1
 have hnd : ((a : Int) :: l).Nodup := List.nodup_cons.2 ⟨hal, f4⟩
 have hroom := Kt (c := c) (p := x.p) hck.z.1 hnd fun b hb => by
  rcases List.mem_cons.1 hb with rfl | hb
  ·exact hob
  ·exact h3 b hb
 have hpg := jH hck.room hob
 have hlow : (a : Int) < 4096 := by
  obtain ⟨b, hb, hb1, hb2⟩ := (hck.sk x hxm).live
  obtain ⟨_, _, h4, h5⟩ := (hk.hk.lv b hb).1
  have hor : c.o ≤ 2 := by rw [hck.o]; exact mX _
  rw [hb1, hb2] at h5
  rw [hb1] at h4
  generalize c.o = o at *
  obtain rfl | rfl | rfl : o = 0 ∨ o = 1 ∨ o = 2 := by omega
  ·simp only [Nat.pow_zero] at hpg; omega
  ·simp only [Nat.pow_one] at hpg h5; omega
  ·have e4 : (2 : Nat) ^ 2 = 4 := rfl
   rw [e4] at hpg h5
   omega
 have hne : ∀ d ∈ s.cs, ∀ y ∈ d.sl, y.p ≠ x.p → ∀ b : Int, gZ d y.p b = true → (s.w.set a x.h).getD b.toNat 0 = s.w.getD b.toNat 0 := fun d hd y hy hyp b hb => by
  have h6 := (sN hb).1
  refine y8 (by omega) fun e => hyp ?_
  exact hk.Ed hd hcm hy hxm hb (by rw [e]; exact hob)
 have hwl : (s.w.set a x.h).length = s.w.length := by simp
 have NV : follow (s.w.set a x.h) (a : Int) c.r = some ((a : Int) :: l) := by
  rw [jB]
  refine ⟨⟨rfl, ?_⟩, fun b hb => ?_, fun _ => by exact_mod_cast hroom, hnd⟩
  ·have e : (s.w.set a x.h).getD ((a : Int)).toNat 0 = x.h := by
    rw [List.getD_eq_getElem?_getD, Int.toNat_natCast, List.getElem?_set_self (by rw [hk.wl]; omega)]
    rfl
   rw [e]
   exact f1.move fun b hb => y8 (f2 b hb).1 fun e => hal (e ▸ hb)
  ·rw [hwl]
   rcases List.mem_cons.1 hb with rfl | hb
   ·rw [hk.wl]; omega
   ·exact f2 b hb
 rw [Sv hi hx]
 have hoth : ∀ d ∈ s.cs, ∀ y ∈ d.sl, y.p ≠ x.p → pF { s with w := s.w.set a x.h, cs := s.cs.set i { c with sl := c.sl.set k ⟨x.p, x.n + 1, (a : Int)⟩ } } d y := fun d hd y hy hyp =>
  ((hk.ck d hd).sk y hy).move rfl rfl rfl (fun b hb => hb) hwl (hne d hd y hy hyp)
 have hpk : ∀ j (hj : j < c.sl.length), j ≠ k → c.sl[j].p ≠ x.p := fun j hj hjk e => by
  rw [← hkx] at e
  have hsr := hck.sr
  rw [gN] at hsr
  rcases Nat.lt_or_gt_of_ne hjk with h | h
  ·have := hsr j k hj hkl h
   omega
  ·have := hsr k j hkl hj h
   omega
 have hpd : ∀ j, j ≠ i → ∀ d, s.cs[j]? = some d → ∀ y ∈ d.sl, y.p ≠ x.p := fun j hj d hd y hy e => by
  obtain ⟨hjl, hjd⟩ := List.getElem?_eq_some_iff.1 hd
  obtain ⟨aBF, hic⟩ := List.getElem?_eq_some_iff.1 hi
  have hp := hk.pd
  rw [gN] at hp
  rcases Nat.lt_or_gt_of_ne hj with h | h
  ·exact hp j i hjl hil h y (by rw [hjd]; exact hy) x (by rw [hic]; exact hxm) e
  ·exact hp i j hil hjl h x (by rw [hic]; exact hxm) y (by rw [hjd]; exact hy) e.symm
 have VX : pF { s with w := s.w.set a x.h, cs := s.cs.set i { c with sl := c.sl.set k ⟨x.p, x.n + 1, (a : Int)⟩ } } { c with sl := c.sl.set k ⟨x.p, x.n + 1, (a : Int)⟩ } ⟨x.p, x.n + 1, (a : Int)⟩ :=
  ⟨(hck.sk x hxm).live, (a : Int) :: l, NV, by simp [h2], fun b hb => by
   rcases List.mem_cons.1 hb with rfl | hb
   ·exact hob
   ·exact h3 b hb⟩
 have aBG : nP { s with w := s.w.set a x.h, cs := s.cs.set i { c with sl := c.sl.set k ⟨x.p, x.n + 1, (a : Int)⟩ } } { c with sl := c.sl.set k ⟨x.p, x.n + 1, (a : Int)⟩ } := by
  refine ⟨hck.z, hck.o, hck.r, hck.ns, hck.nm, hck.nr, hck.ac, ?_, fun y hy => ?_, fun b hb => ?_, hck.ad⟩
  ·have h8 := hck.sr
   rw [gN] at h8 ⊢
   intro j m hj hm hjm
   have hj' : j < c.sl.length := by simpa using hj
   have hm' : m < c.sl.length := by simpa using hm
   have h9 := h8 j m hj' hm' hjm
   simp only [List.getElem_set]
   split
   ·rename_i e1
    subst e1
    rw [if_neg (by omega)]
    rw [hkx] at h9
    exact h9
   ·split
    ·rename_i e1
     subst e1
     rw [hkx] at h9
     exact h9
    ·exact h9
  ·obtain ⟨j, hj, e⟩ := List.mem_iff_getElem.1 hy
   have hj' : j < c.sl.length := by simpa using hj
   rw [List.getElem_set] at e
   split at e
   ·rw [← e]
    exact VX
   ·rename_i hjk
    have h9 := hoth c hcm _ (gL hj') (hpk j hj' fun e => hjk e.symm)
    rw [e] at h9
    exact ⟨h9.live, h9.chain⟩
  ·rcases hck.aw b hb with h | ⟨z, hz, h⟩
   ·exact .inl h
   ·refine .inr ?_
    obtain ⟨j, hj, e⟩ := List.mem_iff_getElem.1 hz
    refine ⟨(c.sl.set k ⟨x.p, x.n + 1, (a : Int)⟩)[j]'(by simpa using hj), gL _, ?_⟩
    rw [List.getElem_set]
    split
    ·rename_i e1
     subst e1
     rw [hkx] at e
     rw [e]
     exact h
    ·rw [e]
     exact h
 have hpm : ∀ y ∈ c.sl.set k ⟨x.p, x.n + 1, (a : Int)⟩, ∃ z ∈ c.sl, z.p = y.p := fun y hy => by
  rcases List.mem_or_eq_of_mem_set hy with h | rfl
  ·exact ⟨y, h, rfl⟩
  ·exact ⟨x, hxm, rfl⟩
 have hset : ∀ j (d : Ca), j < s.cs.length → j ≠ i → s.cs[j]? = some d → nP { s with w := s.w.set a x.h, cs := s.cs.set i { c with sl := c.sl.set k ⟨x.p, x.n + 1, (a : Int)⟩ } } d := fun j d hj hji hd =>
  (hk.ck d (gM hd)).move rfl fun y hy => hoth d (gM hd) y hy (hpd j hji d hd y hy)
 have aBH : fH { s with w := s.w.set a x.h, cs := s.cs.set i { c with sl := c.sl.set k ⟨x.p, x.n + 1, (a : Int)⟩ } } := by
  have h8 := (hk.upd (s' := { s with cs := s.cs.set i { c with sl := c.sl.set k ⟨x.p, x.n, x.h⟩ } }) (c' := { c with sl := c.sl.set k ⟨x.p, x.n, x.h⟩ }) hi hk.wl hk.hk rfl rfl rfl ?_ (fun d hd => (hk.ck d hd).move rfl (fun y hy => ⟨((hk.ck d hd).sk y hy).live, ((hk.ck d hd).sk y hy).chain⟩)) (fun y hy => .inl ?_))
  ·have hmem : ∀ {P : Ca → Ca → Prop}, s.cs.Pairwise P → (∀ d, P d c → P d { c with sl := c.sl.set k ⟨x.p, x.n + 1, (a : Int)⟩ }) → (∀ d, P c d → P { c with sl := c.sl.set k ⟨x.p, x.n + 1, (a : Int)⟩ } d) → (s.cs.set i { c with sl := c.sl.set k ⟨x.p, x.n + 1, (a : Int)⟩ }).Pairwise P := fun {P} h g1 g2 => by
    obtain ⟨aBF, hic⟩ := List.getElem?_eq_some_iff.1 hi
    rw [gN] at h ⊢
    intro j m hj hm hjm
    have hj' : j < s.cs.length := by simpa using hj
    have hm' : m < s.cs.length := by simpa using hm
    have h9 := h j m hj' hm' hjm
    simp only [List.getElem_set]
    split
    ·rename_i e1
     subst e1
     rw [if_neg (by omega)]
     rw [hic] at h9
     exact g2 _ h9
    ·split
     ·rename_i e1
      subst e1
      rw [hic] at h9
      exact g1 _ h9
     ·exact h9
   refine ⟨by show (s.w.set a x.h).length = 4096; rw [hwl]; exact hk.wl, hk.hk, by show (s.cs.set i _).length ≤ 20; rw [List.length_set]; exact hk.cl, fun d hd => ?_, hmem hk.zd (fun _ h => h) (fun _ h => h), hmem hk.nd (fun _ h => h) (fun _ h => h), hmem hk.pd (fun d h y hy z hz => ?_) (fun d h y hy z hz => ?_)⟩
   ·obtain ⟨j, hj, e⟩ := List.mem_iff_getElem.1 hd
    have hj' : j < s.cs.length := by simpa using hj
    rw [List.getElem_set] at e
    split at e
    ·rw [← e]
     exact aBG
    ·rename_i hji
     exact hset j d hj' (fun e => hji e.symm) (by rw [gJ hj', e])
   ·obtain ⟨z', hz', e⟩ := hpm z hz
    rw [← e]
    exact h y hy z' hz'
   ·obtain ⟨y', hy', e⟩ := hpm y hy
    rw [← e]
    exact h y' hy' z hz
  ·rw [show c.sl.set k ⟨x.p, x.n, x.h⟩ = c.sl by
    have : (⟨x.p, x.n, x.h⟩ : Sl) = c.sl[k] := hkx.symm
    rw [this, List.set_getElem_self]]
   exact hck.move rfl (fun y hy => ⟨(hck.sk y hy).live, (hck.sk y hy).chain⟩)
  ·rcases List.mem_or_eq_of_mem_set hy with h | rfl
   ·exact ⟨y, h, rfl⟩
   ·exact ⟨x, hxm, rfl⟩
 refine ⟨aBH, fun j b => ?_, by show (s.cs.set i _)[i]? = _; rw [List.getElem?_set_self hil]⟩
 have hst := sU (s' := { s with w := s.w.set a x.h, cs := s.cs.set i { c with sl := c.sl.set k ⟨x.p, x.n + 1, (a : Int)⟩ } }) (c' := { c with sl := c.sl.set k ⟨x.p, x.n + 1, (a : Int)⟩ }) hi rfl b
 have hsame : ∀ d ∈ s.cs, ∀ y ∈ d.sl, y.p ≠ x.p → (lJ (s.w.set a x.h) d y b ↔ lJ s.w d y b) := fun d hd y hy hyp =>
  Bc (((hk.ck d hd).sk y hy).wG (s' := { s with w := s.w.set a x.h }) hwl (hne d hd y hy hyp)) b
 by_cases hj : j = i
 ·subst hj
  rw [hst.1, sW hi, NQ hkl, NR hkl, hkx, mY h1]
  have h8 : lJ (s.w.set a x.h) { c with sl := c.sl.set k ⟨x.p, x.n + 1, (a : Int)⟩ } ⟨x.p, x.n + 1, (a : Int)⟩ b ↔ gZ c x.p b = true ∧ b ∉ (a : Int) :: l := mY (x := ⟨x.p, x.n + 1, (a : Int)⟩) (c := { c with sl := c.sl.set k ⟨x.p, x.n + 1, (a : Int)⟩ }) NV b
  have h9 : (∃ j, ∃ h : j < c.sl.length, j ≠ k ∧ lJ (s.w.set a x.h) { c with sl := c.sl.set k ⟨x.p, x.n + 1, (a : Int)⟩ } c.sl[j] b) ↔ (∃ j, ∃ h : j < c.sl.length, j ≠ k ∧ lJ s.w c c.sl[j] b) := by
   constructor
   ·rintro ⟨m, hm, hmk, h⟩
    exact ⟨m, hm, hmk, (hsame c hcm _ (gL hm) (hpk m hm hmk)).1 h⟩
   ·rintro ⟨m, hm, hmk, h⟩
    exact ⟨m, hm, hmk, (hsame c hcm _ (gL hm) (hpk m hm hmk)).2 h⟩
  show (∃ j, ∃ h : j < c.sl.length, j ≠ k ∧ lJ (s.w.set a x.h) { c with sl := c.sl.set k ⟨x.p, x.n + 1, (a : Int)⟩ } c.sl[j] b) ∨ lJ (s.w.set a x.h) { c with sl := c.sl.set k ⟨x.p, x.n + 1, (a : Int)⟩ } ⟨x.p, x.n + 1, (a : Int)⟩ b ↔ _
  rw [h8, h9, List.mem_cons]
  constructor
  ·rintro (⟨m, hm, hmk, h⟩ | ⟨h, h'⟩)
   ·refine ⟨.inl ⟨m, hm, hmk, h⟩, fun e => ?_⟩
    obtain ⟨_, rfl⟩ := e
    exact hmk (hk.NT hi hm hkl h.1 (by rw [hkx]; exact hob))
   ·exact ⟨.inr ⟨h, fun e => h' (.inr e)⟩, fun e => h' (.inl e.2)⟩
  ·rintro ⟨h | ⟨h, h'⟩, h2'⟩
   ·exact .inl h
   ·exact .inr ⟨h, fun e => e.elim (fun e => h2' ⟨rfl, e⟩) h'⟩
 ·rw [hst.2 j hj]
  unfold Sy.away
  constructor
  ·rintro ⟨d, hd, y, hy, h⟩
   exact ⟨⟨d, hd, y, hy, (hsame d (gM hd) y hy (hpd j hj d hd y hy)).1 h⟩, fun e => hj e.1⟩
  ·rintro ⟨⟨d, hd, y, hy, h⟩, _⟩
   exact ⟨d, hd, y, hy, (hsame d (gM hd) y hy (hpd j hj d hd y hy)).2 h⟩
end
section
def Sy.whole (s : Sy) (b : Bk) : Prop := b ∈ s.h.live ∧ ∀ c ∈ s.cs, ∀ x ∈ c.sl, x.p ≠ b.a
def Sy.Ui (s : Sy) (p : Nat) : Prop := ∃ c ∈ s.cs, ∃ x ∈ c.sl, x.p = p
theorem qQ {s : Sy} {b : Bk} : s.whole b ↔ b ∈ s.h.live ∧ ¬ s.Ui b.a := by
 unfold Sy.whole Sy.Ui
 constructor
 ·rintro ⟨h1, h2⟩
  exact ⟨h1, fun ⟨c, hc, x, hx, e⟩ => h2 c hc x hx e⟩
 ·rintro ⟨h1, h2⟩
  exact ⟨h1, fun c hc x hx e => h2 ⟨c, hc, x, hx, e⟩⟩
theorem rE {l : List Bk} {b x : Bk} : x ∈ bC l b ↔ x = b ∨ x ∈ l := by
 refine ⟨AX, fun hx => ?_⟩
 unfold bC
 rw [← List.take_append_drop (lb l b.a) l] at hx
 simp only [List.mem_append, List.mem_cons] at hx ⊢
 rcases hx with h | h | h
 ·exact .inr (.inl h)
 ·exact .inl h
 ·exact .inr (.inr h)
def Sy.lw (s : Sy) (q : Nat) : Prop := ∃ b ∈ s.h.live, 16 * b.a ≤ q ∧ q < 16 * (b.a + 2 ^ b.o)
end
section
open Go.RowKit

def Sy.jD (s : Sy) (i k : Nat) (a : Int) : Prop := ∃ c x, s.cs[i]? = some c ∧ c.sl[k]? = some x ∧ lJ s.w c x a
theorem EZ {s : Sy} {i : Nat} {a : Int} : s.away i a ↔ ∃ k, s.jD i k a := by
 constructor
 ·rintro ⟨c, hc, x, hx, ho⟩
  obtain ⟨k, hk, e⟩ := List.mem_iff_getElem.1 hx
  exact ⟨k, c, x, hc, by rw [gJ hk, e], ho⟩
 ·rintro ⟨k, c, x, hc, hx, ho⟩
  exact ⟨c, hc, x, gM hx, ho⟩
theorem fH.zA {s : Sy} (hk : fH s) {i k j l : Nat} {a : Int} (h1 : s.jD i k a) (h2 : s.jD j l a) : i = j ∧ k = l := by
 obtain ⟨c, x, hc, hx, ho⟩ := h1
 obtain ⟨d, y, hd, hy, ho'⟩ := h2
 obtain ⟨hi, rfl⟩ := List.getElem?_eq_some_iff.1 hc
 obtain ⟨hj, rfl⟩ := List.getElem?_eq_some_iff.1 hd
 obtain ⟨hk', rfl⟩ := List.getElem?_eq_some_iff.1 hx
 obtain ⟨hl, rfl⟩ := List.getElem?_eq_some_iff.1 hy
 exact hk.only hi hj hk' hl ho.1 ho'.1
def zB (s : Sy) (a : Int) (ev : Ending) : Prop := (∃ i k, s.jD i k a ∧ ev = .returned (.tuple #[.int .i64 (i : Int), .int .i64 (k : Int), .int .i64 0])) ∨ ((∀ i k, ¬ s.jD i k a) ∧ ev = .returned (.tuple #[.int .i64 0, .int .i64 0, .int .i64 4]))
def Fa (s : Sy) (a : Int) (n : Nat) : Prop := ∀ i c, i < n → s.cs[i]? = some c → ∀ x ∈ c.sl, gZ c x.p a = false
theorem Fa.none {s : Sy} {a : Int} (h : Fa s a s.cs.length) : ∀ i k, ¬ s.jD i k a := fun i k ⟨c, x, hc, hx, ho⟩ => by
 have h1 := h i c (List.getElem?_eq_some_iff.1 hc).1 hc x (gM hx)
 rw [ho.1] at h1
 cases h1
theorem fH.PY {s : Sy} (hk : fH s) {i k : Nat} {c : Ca} {x : Sl} {a : Int} {l : List Int} (hc : s.cs[i]? = some c) (hx : c.sl[k]? = some x) (ho : gZ c x.p a = true) (hl : follow s.w x.h c.r = some l) (ha : a ∈ l) : ∀ j m, ¬ s.jD j m a := fun j m h => by
 obtain ⟨d, y, hd, hy, ho'⟩ := h
 obtain ⟨hi, rfl⟩ := List.getElem?_eq_some_iff.1 hc
 obtain ⟨hj, rfl⟩ := List.getElem?_eq_some_iff.1 hd
 obtain ⟨hk', rfl⟩ := List.getElem?_eq_some_iff.1 hx
 obtain ⟨hm, rfl⟩ := List.getElem?_eq_some_iff.1 hy
 obtain ⟨rfl, rfl⟩ := hk.only hi hj hk' hm ho ho'.1
 exact ho'.2 l hl ha

set_option maxHeartbeats 8000000 in
set_option maxRecDepth 100000 in
theorem Me (v : Sc) (s : Sy) (a : Int) (w : World) (hs : oU w v s) (hk : fH s) (hf : ∀ c ∈ s.cs, c.ns.length ≤ 1000) (hab : -1000000 ≤ a ∧ a ≤ 1000000) :
  Calls Tryz.prog 43 #[.agg #[.slice v.a1 v.n1 v.c1, .slice v.hc.az 2 v.hc.cz, .slice v.hc.am 2 v.hc.cm, .int .i64 (s.h.aF : Int), .slice v.hc.al v.hc.lc.length v.hc.cl, .slice v.hc.av s.h.live.length v.hc.cv, .slice v.a2 v.ys.length v.c2], .int .i64 a] w fun ev w' => zB s a ev ∧ Below w.heap.size w w' := by
 obtain ⟨K0, F0, hsz, hbw⟩ := boxes1 w #[.slice v.a1 v.n1 v.c1, .slice v.hc.az 2 v.hc.cz, .slice v.hc.am 2 v.hc.cm, .int .i64 (s.h.aF : Int), .slice v.hc.al v.hc.lc.length v.hc.cl, .slice v.hc.av s.h.live.length v.hc.cv, .slice v.a2 v.ys.length v.c2] 47
 have HS := gO (hs.below hbw)
 have HB := gO hbw
 have HK := gO hk
 have HK0 := gO K0
 have oK := gO (jK v s _ (hs.below hbw) hk hf)
 have hyl : v.ys.length ≤ 20 := by have := congrArg List.length hs.cy; rw [List.length_map] at this; rw [this]; exact hk.cl
 have YN : v.ys.length = s.cs.length := by have := congrArg List.length hs.cy; simpa using this
 have YO := gO YN
 obtain ⟨k0, k1, k2, k3, k4, k5, k6⟩ := gA7 K0
 clear hs hk hf hbw K0 F0 YN
 go_enter Tryz.func43, Tryz.ntmps43
 go_upto_region 1 with fail
 generalize w.alloc (.cells #[.slice v.a1 v.n1 v.c1, .slice v.hc.az 2 v.hc.cz, .slice v.hc.am 2 v.hc.cm, .int .i64 (s.h.aF : Int), .slice v.hc.al v.hc.lc.length v.hc.cl, .slice v.hc.av s.h.live.length v.hc.cv, .slice v.a2 v.ys.length v.c2] 47) = w1 at *
 go_upto_region 4 with (go_at_call 38; refine oK.out.mono ?_; rintro ev w2 ⟨rfl, hb2⟩)
 have HB2 := gO hb2
 have k6' := (hb2.cell (p := ⟨w.heap.size, 6, none⟩) hsz).trans k6
 clear k0 k1 k2 k3 k4 k5 k6 oK hb2
 go_wp2_with fail
 clear k6'
 go_loopw [22] (fun s22 wr => ∃ (i' : Nat), i' ≤ v.ys.length ∧ Hid (Fa s a i') ∧ s22 = .int .i64 (i' : Int) ∧ Hid (Below w1.heap.size w1 wr)) (fun s22 _ => v.ys.length - (intOf s22).toNat)
 case atStart => exact ⟨0, Nat.zero_le _, fun _ _ h => by omega, rfl, HB2⟩
 case round =>
  obtain ⟨i', hi', Ry, rfl, oJ⟩ := hrel
  by_cases hlt : i' < v.ys.length
  ·have hic : i' < s.cs.length := by rw [← YO.out]; exact hlt
   have Hr : (i' : Int) < v.ys.length := by omega
   have hel : v.ys[i'].c = s.cs[i'] := by
    have h1 := congrArg (·[i']?) HS.out.cy
    simp [hlt, hic] at h1
    exact h1
   have l7 := HS.out.below oJ.out
   obtain ⟨bb, off, hba, hbb, hbc⟩ := aK dR (by decide) l7.rc hlt
   obtain ⟨e0, e1, e2, e3, e4, e5⟩ := kQ hbc
   have hcy := l7.ca _ (gL hlt)
   have hck := HK.out.ck _ (gL hic)
   have hcI : s.cs[i']? = some s.cs[i'] := gJ hic
   rw [← hel] at hck hcI
   obtain ⟨y, hy⟩ : ∃ y, v.ys[i'] = y := ⟨_, rfl⟩
   rw [hy] at e0 e1 e2 e3 e4 e5 hcy hck hcI
   have HY := gO hy
   have MZ := gO hcI
   have hsl := hck.nR HK.out.hk
   have hl2 := hcy.l2
   have hn2 : y.n2 ≤ 256 := by omega
   have HL2 := gO hl2
   have Ud := gO hcy
   have Ak := gO hck
   have HA := gO hba
   rw [hba]
   clear hbc hba hel l7 hbb hy hl2 hsl hcy hck hcI
   go_upto_region 7 with fail
   have hb6 := aC wr (.cells #[.slice y.a1 y.n1 y.c1, .int .i64 (y.c.z : Int), .int .i64 (y.c.r : Int), .int .i64 (y.c.o : Int), .slice y.a2 y.n2 y.c2, .slice y.a3 y.n3 y.c3] 94)
   have K6 := aY wr #[.slice y.a1 y.n1 y.c1, .int .i64 (y.c.z : Int), .int .i64 (y.c.r : Int), .int .i64 (y.c.o : Int), .slice y.a2 y.n2 y.c2, .slice y.a3 y.n3 y.c3] 94
   have hs6 : wr.heap.size < (wr.alloc (.cells #[.slice y.a1 y.n1 y.c1, .int .i64 (y.c.z : Int), .int .i64 (y.c.r : Int), .int .i64 (y.c.o : Int), .slice y.a2 y.n2 y.c2, .slice y.a3 y.n3 y.c3] 94)).heap.size := by simp
   have HB6 := gO (Below.step oJ.out hb6)
   have HC6 := gO (Ud.out.below hb6)
   have HK6 := gO K6
   have k4 := K6 4
   simp only [gB, gC, gD] at k4
   clear hb6 K6 e0 e1 e2 e3 e4 e5 Ud oJ
   obtain ⟨we, rfl⟩ : ∃ we, we = wr := ⟨_, rfl⟩
   generalize we.alloc (.cells #[.slice y.a1 y.n1 y.c1, .int .i64 (y.c.z : Int), .int .i64 (y.c.r : Int), .int .i64 (y.c.o : Int), .slice y.a2 y.n2 y.c2, .slice y.a3 y.n3 y.c3] 94) = w6 at *
   obtain ⟨BC, Yo⟩ : ∃ B, we.heap.size = B := ⟨_, rfl⟩
   rw [Yo] at HK6 hs6 k4 ⊢
   clear Yo
   go_wp2_with fail
   clear k4
   go_loopw [30] (fun s30 wr => ∃ (k' : Nat), k' ≤ y.n2 ∧ Hid (∀ k'' x, k'' < k' → y.c.sl[k'']? = some x → gZ y.c x.p a = false) ∧ s30 = .int .i64 (k' : Int) ∧ Hid (Below w1.heap.size w1 wr) ∧ BC < wr.heap.size ∧ Hid (∀ o, wr.cell? ⟨BC, o, none⟩ = (#[.slice y.a1 y.n1 y.c1, .int .i64 (y.c.z : Int), .int .i64 (y.c.r : Int), .int .i64 (y.c.o : Int), .slice y.a2 y.n2 y.c2, .slice y.a3 y.n3 y.c3] : Array Value)[o]?)) (fun s30 _ => y.n2 - (intOf s30).toNat)
   case atStart => exact ⟨0, Nat.zero_le _, fun _ _ h => by omega, rfl, HB6, hs6, HK6⟩
   case round =>
    obtain ⟨k', hkn, HNK, rfl, HBk, hsk, HKk⟩ := hrel
    clear HB6 hs6 HK6 HC6
    have hsr := HS.out.below HBk.out
    have PZ := hsr.ca _ (gL hlt)
    rw [HY.out] at PZ
    by_cases hkl : k' < y.n2
    ·have hki : (k' : Int) < y.n2 := by omega
     have hks : k' < y.c.sl.length := by rw [HL2.out]; exact hkl
     obtain ⟨sb, so, hsb, VT, xH⟩ := aK aO (by decide) PZ.r2 hks
     obtain ⟨n0, n1, n2⟩ := gX xH
     have hxp := (Ak.out.sk _ (gL hks)).zV HK.out.hk
     have hxg : y.c.sl[k']? = some y.c.sl[k'] := gJ hks
     have aFc := gO PZ
     have YP := gO hxg
     generalize y.c.sl[k'] = x at *
     rw [hsb]
     have b9 := aC wr (.cells #[.int .i64 (x.p : Int), .int .i64 (x.n : Int), .int .i64 x.h] 137)
     have KX := aY wr #[.int .i64 (x.p : Int), .int .i64 (x.n : Int), .int .i64 x.h] 137
     have hs9 : wr.heap.size < (wr.alloc (.cells #[.int .i64 (x.p : Int), .int .i64 (x.n : Int), .int .i64 x.h] 137)).heap.size := by simp
     have HB9 := gO (Below.step HBk.out b9)
     have KC9 := aB HKk.out hsk b9
     have VY := gI hsk b9.size
     have m0 := KX 0
     have m1 := KX 1
     have m2 := KX 2
     simp only [gB, gC, gD] at m0 m1 m2
     obtain ⟨c0, c1, c2, c3, c4, c5⟩ := gA6 KC9
     rw [hsb] at c4
     have HKC9 := gO KC9
     have HKX := gO KX
     have VZ := gO (fun W => x9 y.c y.a1 y.a2 y.a3 y.n1 y.c1 y.n2 y.c2 y.n3 y.c3 x.p a W Ak.out.z.1 (gQ Ak.out.rz (by decide)) (by omega) (by omega) (by omega))
     rw [hsb] at VZ
     have HSB := gO hsb
     clear xH hsr PZ hks hxg KC9 KX hsb
     go_upto_region 10 with fail
     clear n0 n1 n2
     generalize (wr.alloc (.cells #[.int .i64 (x.p : Int), .int .i64 (x.n : Int), .int .i64 x.h] 137)) = w9 at *
     generalize wr.heap.size = BX at *
     cases hob : gZ y.c x.p a with
     | true =>
      rw [hob] at VZ
      have HOB := gO hob
      obtain ⟨l, hfl, YQ, Wi⟩ := (Ak.out.sk x (gM YP.out)).chain
      have hlb : ∀ b ∈ l, 0 ≤ b ∧ b ≤ 1000000 := fun b hb => by
       have h9 := jH Ak.out.room (Wi b hb)
       have h8 : y.c.o ≤ 2 := by rw [Ak.out.o]; exact mX _
       have h7 : 2 ^ y.c.o ≤ 4 := by
        generalize y.c.o = o at *
        obtain rfl | rfl | rfl : o = 0 ∨ o = 1 ∨ o = 2 := by omega
        all_goals decide
       generalize 2 ^ y.c.o = q at *
       omega
      have aBL := (Ak.out.sk x (gM YP.out)).QS
      have VR := Ak.out.r64
      have hxn : x.n ≤ 1000000 := by omega
      have hn1 : v.n1 ≤ 4096 := by rw [← HS.out.lw, HK.out.wl]; exact Nat.le_refl _
      have hlen : l.length ≤ 1000000 := by omega
      have PO : Hid (∀ W, Below w9.heap.size w9 W → Calls Tryz.prog 91 #[.agg #[.slice v.a1 v.n1 v.c1, .slice v.hc.az 2 v.hc.cz, .slice v.hc.am 2 v.hc.cm, .int .i64 s.h.aF, .slice v.hc.al v.hc.lc.length v.hc.cl, .slice v.hc.av s.h.live.length v.hc.cv, .slice (some ⟨bb, off, none⟩) v.ys.length v.c2], .agg #[.slice y.a1 y.n1 y.c1, .int .i64 y.c.z, .int .i64 y.c.r, .int .i64 y.c.o, .slice (some ⟨sb, so, none⟩) y.n2 y.c2, .slice y.a3 y.n3 y.c3], .agg #[.int .i64 x.p, .int .i64 x.n, .int .i64 x.h]] W fun ev w' => ∃ (a' : Option Addr) (c' : Nat), ev = .returned (.tuple #[.slice a' l.length c', .bool true]) ∧ Row w' a' (l.map vI) ∧ Below W.heap.size W w') := fun W hW => by
       have h9 := yK v.a1 v.hc.az v.hc.am v.hc.al v.hc.av (some ⟨bb, off, none⟩) v.n1 v.c1 v.hc.cz v.hc.cm v.hc.lc.length v.hc.cl s.h.live.length v.hc.cv v.ys.length v.c2 s.h.aF s.w y x l W HS.out.lw hn1 ((HS.out.below (HB9.out.trans (hW.mono HB9.out.size))).rw) Ak.out.z.1 (gQ Ak.out.rz (by decide)) (by omega) hfl YQ Wi hlb hxn
       rw [HSB.out] at h9
       exact h9
      have HFL := gO hfl
      have k0' := (HB9.out.cell (p := ⟨w.heap.size, 0, none⟩) hsz)
      have hcells : Hid (∀ W, Below w9.heap.size w9 W → ∀ o, W.cell? ⟨w.heap.size, o, none⟩ = (#[.slice v.a1 v.n1 v.c1, .slice v.hc.az 2 v.hc.cz, .slice v.hc.am 2 v.hc.cm, .int .i64 (s.h.aF : Int), .slice v.hc.al v.hc.lc.length v.hc.cl, .slice v.hc.av s.h.live.length v.hc.cv, .slice v.a2 v.ys.length v.c2] : Array Value)[o]?) := fun W hW => aB HK0.out hsz (HB9.out.trans (hW.mono HB9.out.size))
      have Gi := gO hlen
      clear k0' hlb YQ Wi aBL VR hfl hlen hob
      go_upto_region 11 with (go_at_call 90; refine (VZ.out _).mono ?_; rintro ev w10 ⟨rfl, zC⟩)
      have K10 := hcells.out w10 zC
      have KC10 := aB HKC9.out VY zC
      have KX10 := aB HKX.out hs9 zC
      clear m0 m1 m2 c0 c1 c2 c3 c4 c5
      obtain ⟨p0, p1, p2, p3, p4, p5, p6⟩ := gA7 K10
      obtain ⟨c0, c1, c2, c3, c4, c5⟩ := gA6 KC10
      have m0 := KX10 0
      have m1 := KX10 1
      have m2 := KX10 2
      simp only [gB, gC, gD] at m0 m1 m2
      rw [HA.out] at p6
      rw [HSB.out] at c4
      have HC11 := gO (PO.out w10 zC)
      have HB10 := gO (Below.step HB9.out zC)
      clear K10 KC10 KX10 zC HKC9 HKX HB9 VZ PO hcells
      go_upto_region 12 with (go_at_call 91; refine HC11.out.mono ?_; rintro ev w11 ⟨a', c', rfl, hrow, YR⟩)
      have hcon := jM a' c' l a w11 (by have := Gi.out; omega) hrow
      clear p0 p1 p2 p3 p4 p5 p6 c0 c1 c2 c3 c4 c5 m0 m1 m2 hrow
      cases hal : qR l a with
      | false =>
       rw [hal] at hcon
       have ES := gO hcon
       have HE : Hid (zB s a (.returned (.tuple #[.int .i64 (i' : Int), .int .i64 (k' : Int), .int .i64 0]))) := .inl ⟨i', k', ⟨y.c, x, MZ.out, YP.out, (mY HFL.out a).2 ⟨HOB.out, fun hm => by
        unfold qR at hal
        rw [List.contains_iff_mem.2 hm] at hal
        cases hal⟩⟩, rfl⟩
       clear hcon hal
       go_wp2_with (go_at_call 35; refine ES.out.mono ?_; rintro ev w12 ⟨rfl, rfl⟩)
       exact bodyPost_ret (v := .tuple #[.int .i64 (i' : Int), .int .i64 (k' : Int), .int .i64 0]) (by simp [results, Tryz.results43, go_sem]) rfl ⟨HE.out, Below.step HB.out (Below.step HB10.out YR)⟩
      | true =>
       rw [hal] at hcon
       have ES := gO hcon
       have HE : Hid (zB s a (.returned (.tuple #[.int .i64 0, .int .i64 0, .int .i64 4]))) := .inr ⟨HK.out.PY MZ.out YP.out HOB.out HFL.out (by
        unfold qR at hal
        exact List.contains_iff_mem.1 hal), rfl⟩
       clear hcon hal
       go_wp2_with (go_at_call 35; refine ES.out.mono ?_; rintro ev w12 ⟨rfl, rfl⟩)
       exact bodyPost_ret (v := .tuple #[.int .i64 0, .int .i64 0, .int .i64 4]) (by simp [results, Tryz.results43, go_sem]) rfl ⟨HE.out, Below.step HB.out (Below.step HB10.out YR)⟩
     | false =>
      rw [hob] at VZ
      have aBM : Hid (∀ k'' x, k'' < k' + 1 → y.c.sl[k'']? = some x → gZ y.c x.p a = false) := fun k'' x' h1 h2 => by
       by_cases e : k'' < k'
       ·exact HNK.out k'' x' e h2
       ·obtain rfl : k'' = k' := by omega
        rw [YP.out] at h2
        obtain rfl := gP h2
        exact hob
      clear hob HNK
      go_upto_region 15 with (go_at_call 90; refine (VZ.out _).mono ?_; rintro ev w10 ⟨rfl, zC⟩)
      have HB10 := gO (Below.step HB9.out zC)
      have HK10 := gO (aB HKC9.out VY zC)
      have YS := gI VY zC.size
      clear m0 m1 m2 c0 c1 c2 c3 c4 c5 zC HKC9 HKX HB9 VZ
      go_wp2
      go_roundw
      case rel => exact ⟨k' + 1, by omega, aBM, by go_num, HB10, YS, (by rw [HSB.out] at HK10; exact HK10)⟩
      case measure => simp [intOf]; omega
    ·obtain rfl : k' = y.n2 := by omega
     have aBN : Hid (Fa s a (i' + 1)) := fun i'' c h1 h2 x hx => by
      by_cases e : i'' < i'
      ·exact Ry.out i'' c e h2 x hx
      ·obtain rfl : i'' = i' := by omega
       rw [MZ.out] at h2
       obtain rfl := gP h2
       obtain ⟨k'', hk'', e'⟩ := List.mem_iff_getElem.1 hx
       exact HNK.out k'' x (by have := HL2.out; omega) (by rw [gJ hk'', e'])
     clear hsr PZ HNK Ry
     go_wp2
     go_roundw
     case rel => exact ⟨i' + 1, by omega, aBN, by go_num, HBk⟩
     case measure => simp [intOf]; omega
  ·obtain rfl : i' = v.ys.length := by omega
   have HE : Hid (zB s a (.returned (.tuple #[.int .i64 0, .int .i64 0, .int .i64 4]))) := .inr ⟨Fa.none (by rw [← YO.out]; exact Ry.out), rfl⟩
   go_wp2_with fail
   exact bodyPost_ret (v := .tuple #[.int .i64 0, .int .i64 0, .int .i64 4]) (by simp [results, Tryz.results43, go_sem]) rfl ⟨HE.out, Below.step HB.out oJ.out⟩
end
section
open Go.RowKit
section
variable {w w1 w2 : World} {s : Sy} {v : Sc} {T : Nat} {E : Array Value} {X : Nat → Prop}
theorem laid7 {a0 a1 a2 a3 a4 a5 a6 : Value} (hb1 : Below w.heap.size w w1) (hT : w.heap.size < T) (hT2 : T < w1.heap.size)
  (K1 : ∀ o, w1.cell? ⟨w.heap.size, o, none⟩ = (#[a0, a1, a2, a3, a4, a5, a6] : Array Value)[o]?) (F1 : ∀ o, w1.frozen? ⟨w.heap.size, o, none⟩ = false)
  (KT : ∀ o, w1.cell? ⟨T, o, none⟩ = E[o]?) (FT : ∀ o, w1.frozen? ⟨T, o, none⟩ = false) (hb2 : Below w1.heap.size w1 w2) (hn : kS w2 w1.heap.size s v) :
  SS (((((((w2.setCell ⟨w.heap.size, 0, none⟩ (.slice v.a1 v.n1 v.c1)).setCell ⟨w.heap.size, 1, none⟩ (.slice v.hc.az 2 v.hc.cz)).setCell ⟨w.heap.size, 2, none⟩ (.slice v.hc.am 2 v.hc.cm)).setCell ⟨w.heap.size, 3, none⟩ (.int .i64 (s.h.aF : Int))).setCell ⟨w.heap.size, 4, none⟩ (.slice v.hc.al v.hc.lc.length v.hc.cl)).setCell ⟨w.heap.size, 5, none⟩ (.slice v.hc.av s.h.live.length v.hc.cv)).setCell ⟨w.heap.size, 6, none⟩ (.slice v.a2 v.ys.length v.c2)) w.heap.size (fun k => k < w.heap.size ∨ k = T) s v ∧
  (∀ o, (((((((w2.setCell ⟨w.heap.size, 0, none⟩ (.slice v.a1 v.n1 v.c1)).setCell ⟨w.heap.size, 1, none⟩ (.slice v.hc.az 2 v.hc.cz)).setCell ⟨w.heap.size, 2, none⟩ (.slice v.hc.am 2 v.hc.cm)).setCell ⟨w.heap.size, 3, none⟩ (.int .i64 (s.h.aF : Int))).setCell ⟨w.heap.size, 4, none⟩ (.slice v.hc.al v.hc.lc.length v.hc.cl)).setCell ⟨w.heap.size, 5, none⟩ (.slice v.hc.av s.h.live.length v.hc.cv)).setCell ⟨w.heap.size, 6, none⟩ (.slice v.a2 v.ys.length v.c2)).cell? ⟨T, o, none⟩ = E[o]?) ∧
  (∀ o, (((((((w2.setCell ⟨w.heap.size, 0, none⟩ (.slice v.a1 v.n1 v.c1)).setCell ⟨w.heap.size, 1, none⟩ (.slice v.hc.az 2 v.hc.cz)).setCell ⟨w.heap.size, 2, none⟩ (.slice v.hc.am 2 v.hc.cm)).setCell ⟨w.heap.size, 3, none⟩ (.int .i64 (s.h.aF : Int))).setCell ⟨w.heap.size, 4, none⟩ (.slice v.hc.al v.hc.lc.length v.hc.cl)).setCell ⟨w.heap.size, 5, none⟩ (.slice v.hc.av s.h.live.length v.hc.cv)).setCell ⟨w.heap.size, 6, none⟩ (.slice v.a2 v.ys.length v.c2)).frozen? ⟨T, o, none⟩ = false) ∧
  Below w.heap.size w (((((((w2.setCell ⟨w.heap.size, 0, none⟩ (.slice v.a1 v.n1 v.c1)).setCell ⟨w.heap.size, 1, none⟩ (.slice v.hc.az 2 v.hc.cz)).setCell ⟨w.heap.size, 2, none⟩ (.slice v.hc.am 2 v.hc.cm)).setCell ⟨w.heap.size, 3, none⟩ (.int .i64 (s.h.aF : Int))).setCell ⟨w.heap.size, 4, none⟩ (.slice v.hc.al v.hc.lc.length v.hc.cl)).setCell ⟨w.heap.size, 5, none⟩ (.slice v.hc.av s.h.live.length v.hc.cv)).setCell ⟨w.heap.size, 6, none⟩ (.slice v.a2 v.ys.length v.c2)) := by
 have hw1 : w.heap.size < w1.heap.size := by omega
 have K12 := aB K1 hw1 hb2
 have F12 := aJ F1 hw1 hb2
 have rF : SR w2 w.heap.size (fun k => k < w.heap.size ∨ k = T) s v := SR.lift hn hw1 (fun k hk => by omega) (by omega)
 have hne : T ≠ w.heap.size := by omega
 have K0 := aB KT hT2 hb2
 have F0 := aJ FT hT2 hb2
 have hle := Nat.le_refl w.heap.size
 refine ⟨SS.put7 rF K12 F12, ?_, ?_, ?_⟩
 ·exact aA (aA (aA (aA (aA (aA (aA K0 hne 0 _) hne 1 _) hne 2 _) hne 3 _) hne 4 _) hne 5 _) hne 6 _
 ·exact aG (aG (aG (aG (aG (aG (aG F0 _ _) _ _) _ _) _ _) _ _) _ _) _ _
 ·exact Below.setCell (Below.setCell (Below.setCell (Below.setCell (Below.setCell (Below.setCell (Below.setCell (hb1.trans (hb2.mono hb1.size)) (show w.heap.size ≤ (⟨w.heap.size, 0, none⟩ : Addr).block from hle) _) (show w.heap.size ≤ (⟨w.heap.size, 1, none⟩ : Addr).block from hle) _) (show w.heap.size ≤ (⟨w.heap.size, 2, none⟩ : Addr).block from hle) _) (show w.heap.size ≤ (⟨w.heap.size, 3, none⟩ : Addr).block from hle) _) (show w.heap.size ≤ (⟨w.heap.size, 4, none⟩ : Addr).block from hle) _) (show w.heap.size ≤ (⟨w.heap.size, 5, none⟩ : Addr).block from hle) _) (show w.heap.size ≤ (⟨w.heap.size, 6, none⟩ : Addr).block from hle) _
theorem out7 {a0 a1 a2 a3 a4 a5 a6 : Value} (hs : SS w2 w.heap.size X s v) (hX : X T) (hB : ∀ k, k < w.heap.size → X k) (hT : w.heap.size < T) (KT : ∀ o, w2.cell? ⟨T, o, none⟩ = (#[a0, a1, a2, a3, a4, a5, a6] : Array Value)[o]?) (hb : Below w.heap.size w w2) :
  (∀ o, (((((((w2.setCell ⟨T, 0, none⟩ (.slice v.a1 v.n1 v.c1)).setCell ⟨T, 1, none⟩ (.slice v.hc.az 2 v.hc.cz)).setCell ⟨T, 2, none⟩ (.slice v.hc.am 2 v.hc.cm)).setCell ⟨T, 3, none⟩ (.int .i64 (s.h.aF : Int))).setCell ⟨T, 4, none⟩ (.slice v.hc.al v.hc.lc.length v.hc.cl)).setCell ⟨T, 5, none⟩ (.slice v.hc.av s.h.live.length v.hc.cv)).setCell ⟨T, 6, none⟩ (.slice v.a2 v.ys.length v.c2)).cell? ⟨T, o, none⟩ = (#[.slice v.a1 v.n1 v.c1, .slice v.hc.az 2 v.hc.cz, .slice v.hc.am 2 v.hc.cm, .int .i64 (s.h.aF : Int), .slice v.hc.al v.hc.lc.length v.hc.cl, .slice v.hc.av s.h.live.length v.hc.cv, .slice v.a2 v.ys.length v.c2] : Array Value)[o]?) ∧
  kS (((((((w2.setCell ⟨T, 0, none⟩ (.slice v.a1 v.n1 v.c1)).setCell ⟨T, 1, none⟩ (.slice v.hc.az 2 v.hc.cz)).setCell ⟨T, 2, none⟩ (.slice v.hc.am 2 v.hc.cm)).setCell ⟨T, 3, none⟩ (.int .i64 (s.h.aF : Int))).setCell ⟨T, 4, none⟩ (.slice v.hc.al v.hc.lc.length v.hc.cl)).setCell ⟨T, 5, none⟩ (.slice v.hc.av s.h.live.length v.hc.cv)).setCell ⟨T, 6, none⟩ (.slice v.a2 v.ys.length v.c2)) w.heap.size s v ∧
  Below w.heap.size w (((((((w2.setCell ⟨T, 0, none⟩ (.slice v.a1 v.n1 v.c1)).setCell ⟨T, 1, none⟩ (.slice v.hc.az 2 v.hc.cz)).setCell ⟨T, 2, none⟩ (.slice v.hc.am 2 v.hc.cm)).setCell ⟨T, 3, none⟩ (.int .i64 (s.h.aF : Int))).setCell ⟨T, 4, none⟩ (.slice v.hc.al v.hc.lc.length v.hc.cl)).setCell ⟨T, 5, none⟩ (.slice v.hc.av s.h.live.length v.hc.cv)).setCell ⟨T, 6, none⟩ (.slice v.a2 v.ys.length v.c2)) := by
 have KX := (aH (aH (aH (aH (aH (aH (aH KT 0 (.slice v.a1 v.n1 v.c1)) 1 (.slice v.hc.az 2 v.hc.cz)) 2 (.slice v.hc.am 2 v.hc.cm)) 3 (.int .i64 (s.h.aF : Int))) 4 (.slice v.hc.al v.hc.lc.length v.hc.cl)) 5 (.slice v.hc.av s.h.live.length v.hc.cv)) 6 (.slice v.a2 v.ys.length v.c2))
 simp only [gE, gG, gH] at KX
 have hle := gR hT
 refine ⟨KX, (SS.sub (((((((hs.dS hX 0 _).dS hX 1 _).dS hX 2 _).dS hX 3 _).dS hX 4 _).dS hX 5 _).dS hX 6 _) hB).r, ?_⟩
 exact Below.setCell (Below.setCell (Below.setCell (Below.setCell (Below.setCell (Below.setCell (Below.setCell hb (show w.heap.size ≤ (⟨T, 0, none⟩ : Addr).block from hle) _) (show w.heap.size ≤ (⟨T, 1, none⟩ : Addr).block from hle) _) (show w.heap.size ≤ (⟨T, 2, none⟩ : Addr).block from hle) _) (show w.heap.size ≤ (⟨T, 3, none⟩ : Addr).block from hle) _) (show w.heap.size ≤ (⟨T, 4, none⟩ : Addr).block from hle) _) (show w.heap.size ≤ (⟨T, 5, none⟩ : Addr).block from hle) _) (show w.heap.size ≤ (⟨T, 6, none⟩ : Addr).block from hle) _
end
end
end Go.Proofs.YtcmpmobhongkiaaGreatDoor
