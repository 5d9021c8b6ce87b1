/- texts of this claim, joined. -/
import Derived.Test.YtcmpmobhongkiaaGreatDoorCM0
import Derived.Test.YtcmpmobhongkiaaGreatDoorCM17
import Derived.Test.YtcmpmobhongkiaaGreatDoorCM29
import Derived.Test.YtcmpmobhongkiaaGreatDoorCM39
import Derived.Test.YtcmpmobhongkiaaGreatDoorCM41
set_option linter.unusedVariables false
set_option linter.unusedSimpArgs false
namespace Go.Proofs.YtcmpmobhongkiaaGreatDoor
section
def Sy.push (s : Sy) (i k a : Nat) : Sy := match s.cs[i]? with
 | some c => match c.sl[k]? with
  | some x => { s with w := s.w.set a x.h, cs := s.cs.set i { c with sl := c.sl.set k ⟨x.p, x.n + 1, (a : Int)⟩ } }
  | none => s
 | none => s
def Ca.spare (c : Ca) (k : Nat) : Bool := match c.sl[k]? with
 | some x => c.idle x && decide (1 < (c.sl.filter c.idle).length)
 | none => false
def Sy.spare (s : Sy) (i k : Nat) : Bool := match s.cs[i]? with
 | some c => c.spare k
 | none => false
def Sy.free (s : Sy) (i k a cpu : Nat) : Sy := if (s.push i k a).spare i k then (s.push i k a).discard i k cpu else s.push i k a

theorem LW {s : Sy} {i k a : Nat} {c : Ca} {x : Sl} (hi : s.cs[i]? = some c) (hx : c.sl[k]? = some x) : s.push i k a = { s with w := s.w.set a x.h, cs := s.cs.set i { c with sl := c.sl.set k ⟨x.p, x.n + 1, (a : Int)⟩ } } := by
 unfold Sy.push
 rw [hi]
 simp only [hx]
theorem Aw {w : List Int} {a : Nat} {u b : Int} (hb : 0 ≤ b) (h : b ≠ (a : Int)) : (w.set a u).getD b.toNat 0 = w.getD b.toNat 0 := by
 rw [List.getD_eq_getElem?_getD, List.getElem?_set_ne (by omega), ← List.getD_eq_getElem?_getD]
theorem fC.push {s : Sy} (hk : fC s) {i k a : Nat} {c : Ca} {x : Sl} (hi : s.cs[i]? = some c) (hx : c.sl[k]? = some x) (ho : lG s.w c x a) :
  fC (s.push i k a) ∧ (∀ j b, (s.push i k a).away j b ↔ s.away j b ∧ ¬ (j = i ∧ b = a)) ∧ (s.push i k a).cs[i]? = some { c with sl := c.sl.set k ⟨x.p, x.n + 1, (a : Int)⟩ } := by
 have hil := (List.getElem?_eq_some_iff.1 hi).1
 have hcm := gM hi
 have hxm := gM hx
 obtain ⟨hkl, hkx⟩ := List.getElem?_eq_some_iff.1 hx
 have hck := hk.ck c hcm
 obtain ⟨hob, hout⟩ := ho
 obtain ⟨l, h1, h2, h3⟩ := (hck.sk x hxm).chain
 have hal := hout l h1
 obtain ⟨f1, f2, f3, f4⟩ := gW.1 h1
 have hnd : ((a : Int) :: l).Nodup := List.nodup_cons.2 ⟨hal, f4⟩
 have hroom := CY (c := c) (p := x.p) hck.z.1 hnd fun b hb => by
  rcases List.mem_cons.1 hb with rfl | hb
  ·exact hob
  ·exact h3 b hb
 have hpg := jY hck.room hob
 have hlow : (a : Int) < 4096 := by
  obtain ⟨b, hb, hb1, hb2⟩ := (hck.sk x hxm).live
  obtain ⟨_, _, h4, h5⟩ := (hk.hk.lv b hb).1
  have hor : c.o ≤ 2 := by rw [hck.o]; exact lD _
  rw [hb1, hb2] at h5
  rw [hb1] at h4
  generalize c.o = o at *
  obtain rfl | rfl | rfl : o = 0 ∨ o = 1 ∨ o = 2 := by omega
  ·simp only [Nat.pow_zero] at hpg; omega
  ·simp only [Nat.pow_one] at hpg h5; omega
  ·have e4 : (2 : Nat) ^ 2 = 4 := rfl
   rw [e4] at hpg h5
   omega
 have hne : ∀ d ∈ s.cs, ∀ y ∈ d.sl, y.p ≠ x.p → ∀ b : Int, iM d y.p b = true → (s.w.set a x.h).getD b.toNat 0 = s.w.getD b.toNat 0 := fun d hd y hy hyp b hb => by
  have h6 := (rC hb).1
  refine Aw (by omega) fun e => hyp ?_
  exact hk.Hq hd hcm hy hxm hb (by rw [e]; exact hob)
 have hwl : (s.w.set a x.h).length = s.w.length := by simp
 have Rq : follow (s.w.set a x.h) (a : Int) c.r = some ((a : Int) :: l) := by
  rw [gW]
  refine ⟨⟨rfl, ?_⟩, fun b hb => ?_, fun _ => by exact_mod_cast hroom, hnd⟩
  ·have e : (s.w.set a x.h).getD ((a : Int)).toNat 0 = x.h := by
    rw [List.getD_eq_getElem?_getD, Int.toNat_natCast, List.getElem?_set_self (by rw [hk.wl]; omega)]
    rfl
   rw [e]
   exact f1.move fun b hb => Aw (f2 b hb).1 fun e => hal (e ▸ hb)
  ·rw [hwl]
   rcases List.mem_cons.1 hb with rfl | hb
   ·rw [hk.wl]; omega
   ·exact f2 b hb
 rw [LW hi hx]
 have hoth : ∀ d ∈ s.cs, ∀ y ∈ d.sl, y.p ≠ x.p → pO { s with w := s.w.set a x.h, cs := s.cs.set i { c with sl := c.sl.set k ⟨x.p, x.n + 1, (a : Int)⟩ } } d y := fun d hd y hy hyp =>
  ((hk.ck d hd).sk y hy).move rfl rfl rfl (fun b hb => hb) hwl (hne d hd y hy hyp)
 have hpk : ∀ j (hj : j < c.sl.length), j ≠ k → c.sl[j].p ≠ x.p := fun j hj hjk e => by
  rw [← hkx] at e
  have hsr := hck.sr
  rw [gN] at hsr
  rcases Nat.lt_or_gt_of_ne hjk with h | h
  ·have := hsr j k hj hkl h
   omega
  ·have := hsr k j hkl hj h
   omega
 have hpd : ∀ j, j ≠ i → ∀ d, s.cs[j]? = some d → ∀ y ∈ d.sl, y.p ≠ x.p := fun j hj d hd y hy e => by
  obtain ⟨hjl, hjd⟩ := List.getElem?_eq_some_iff.1 hd
  obtain ⟨XG, hic⟩ := List.getElem?_eq_some_iff.1 hi
  have hp := hk.pd
  rw [gN] at hp
  rcases Nat.lt_or_gt_of_ne hj with h | h
  ·exact hp j i hjl hil h y (by rw [hjd]; exact hy) x (by rw [hic]; exact hxm) e
  ·exact hp i j hil hjl h x (by rw [hic]; exact hxm) y (by rw [hjd]; exact hy) e.symm
 have XH : pO { s with w := s.w.set a x.h, cs := s.cs.set i { c with sl := c.sl.set k ⟨x.p, x.n + 1, (a : Int)⟩ } } { c with sl := c.sl.set k ⟨x.p, x.n + 1, (a : Int)⟩ } ⟨x.p, x.n + 1, (a : Int)⟩ :=
  ⟨(hck.sk x hxm).live, (a : Int) :: l, Rq, by simp [h2], fun b hb => by
   rcases List.mem_cons.1 hb with rfl | hb
   ·exact hob
   ·exact h3 b hb⟩
 have aDZ : nX { s with w := s.w.set a x.h, cs := s.cs.set i { c with sl := c.sl.set k ⟨x.p, x.n + 1, (a : Int)⟩ } } { c with sl := c.sl.set k ⟨x.p, x.n + 1, (a : Int)⟩ } := by
  refine ⟨hck.z, hck.o, hck.r, hck.ns, hck.nm, hck.nr, hck.ac, ?_, fun y hy => ?_, fun b hb => ?_, hck.ad⟩
  ·have h8 := hck.sr
   rw [gN] at h8 ⊢
   intro j m hj hm hjm
   have hj' : j < c.sl.length := by simpa using hj
   have hm' : m < c.sl.length := by simpa using hm
   have h9 := h8 j m hj' hm' hjm
   simp only [List.getElem_set]
   split
   ·rename_i e1
    subst e1
    rw [if_neg (by omega)]
    rw [hkx] at h9
    exact h9
   ·split
    ·rename_i e1
     subst e1
     rw [hkx] at h9
     exact h9
    ·exact h9
  ·obtain ⟨j, hj, e⟩ := List.mem_iff_getElem.1 hy
   have hj' : j < c.sl.length := by simpa using hj
   rw [List.getElem_set] at e
   split at e
   ·rw [← e]
    exact XH
   ·rename_i hjk
    have h9 := hoth c hcm _ (gL hj') (hpk j hj' fun e => hjk e.symm)
    rw [e] at h9
    exact ⟨h9.live, h9.chain⟩
  ·rcases hck.aw b hb with h | ⟨z, hz, h⟩
   ·exact .inl h
   ·refine .inr ?_
    obtain ⟨j, hj, e⟩ := List.mem_iff_getElem.1 hz
    refine ⟨(c.sl.set k ⟨x.p, x.n + 1, (a : Int)⟩)[j]'(by simpa using hj), gL _, ?_⟩
    rw [List.getElem_set]
    split
    ·rename_i e1
     subst e1
     rw [hkx] at e
     rw [e]
     exact h
    ·rw [e]
     exact h
 have hpm : ∀ y ∈ c.sl.set k ⟨x.p, x.n + 1, (a : Int)⟩, ∃ z ∈ c.sl, z.p = y.p := fun y hy => by
  rcases List.mem_or_eq_of_mem_set hy with h | rfl
  ·exact ⟨y, h, rfl⟩
  ·exact ⟨x, hxm, rfl⟩
 have hset : ∀ j (d : Ca), j < s.cs.length → j ≠ i → s.cs[j]? = some d → nX { s with w := s.w.set a x.h, cs := s.cs.set i { c with sl := c.sl.set k ⟨x.p, x.n + 1, (a : Int)⟩ } } d := fun j d hj hji hd =>
  (hk.ck d (gM hd)).move rfl fun y hy => hoth d (gM hd) y hy (hpd j hji d hd y hy)
 have aD0 : fC { s with w := s.w.set a x.h, cs := s.cs.set i { c with sl := c.sl.set k ⟨x.p, x.n + 1, (a : Int)⟩ } } := by
  have h8 := (hk.upd (s' := { s with cs := s.cs.set i { c with sl := c.sl.set k ⟨x.p, x.n, x.h⟩ } }) (c' := { c with sl := c.sl.set k ⟨x.p, x.n, x.h⟩ }) hi hk.wl hk.hk rfl rfl rfl ?_ (fun d hd => (hk.ck d hd).move rfl (fun y hy => ⟨((hk.ck d hd).sk y hy).live, ((hk.ck d hd).sk y hy).chain⟩)) (fun y hy => .inl ?_))
  ·have hmem : ∀ {P : Ca → Ca → Prop}, s.cs.Pairwise P → (∀ d, P d c → P d { c with sl := c.sl.set k ⟨x.p, x.n + 1, (a : Int)⟩ }) → (∀ d, P c d → P { c with sl := c.sl.set k ⟨x.p, x.n + 1, (a : Int)⟩ } d) → (s.cs.set i { c with sl := c.sl.set k ⟨x.p, x.n + 1, (a : Int)⟩ }).Pairwise P := fun {P} h g1 g2 => by
    obtain ⟨XG, hic⟩ := List.getElem?_eq_some_iff.1 hi
    rw [gN] at h ⊢
    intro j m hj hm hjm
    have hj' : j < s.cs.length := by simpa using hj
    have hm' : m < s.cs.length := by simpa using hm
    have h9 := h j m hj' hm' hjm
    simp only [List.getElem_set]
    split
    ·rename_i e1
     subst e1
     rw [if_neg (by omega)]
     rw [hic] at h9
     exact g2 _ h9
    ·split
     ·rename_i e1
      subst e1
      rw [hic] at h9
      exact g1 _ h9
     ·exact h9
   refine ⟨by show (s.w.set a x.h).length = 4096; rw [hwl]; exact hk.wl, hk.hk, by show (s.cs.set i _).length ≤ 20; rw [List.length_set]; exact hk.cl, fun d hd => ?_, hmem hk.zd (fun _ h => h) (fun _ h => h), hmem hk.nd (fun _ h => h) (fun _ h => h), hmem hk.pd (fun d h y hy z hz => ?_) (fun d h y hy z hz => ?_)⟩
   ·obtain ⟨j, hj, e⟩ := List.mem_iff_getElem.1 hd
    have hj' : j < s.cs.length := by simpa using hj
    rw [List.getElem_set] at e
    split at e
    ·rw [← e]
     exact aDZ
    ·rename_i hji
     exact hset j d hj' (fun e => hji e.symm) (by rw [gJ hj', e])
   ·obtain ⟨z', hz', e⟩ := hpm z hz
    rw [← e]
    exact h y hy z' hz'
   ·obtain ⟨y', hy', e⟩ := hpm y hy
    rw [← e]
    exact h y' hy' z hz
  ·rw [show c.sl.set k ⟨x.p, x.n, x.h⟩ = c.sl by
    have : (⟨x.p, x.n, x.h⟩ : Sl) = c.sl[k] := hkx.symm
    rw [this, List.set_getElem_self]]
   exact hck.move rfl (fun y hy => ⟨(hck.sk y hy).live, (hck.sk y hy).chain⟩)
  ·rcases List.mem_or_eq_of_mem_set hy with h | rfl
   ·exact ⟨y, h, rfl⟩
   ·exact ⟨x, hxm, rfl⟩
 refine ⟨aD0, fun j b => ?_, by show (s.cs.set i _)[i]? = _; rw [List.getElem?_set_self hil]⟩
 have hst := mM (s' := { s with w := s.w.set a x.h, cs := s.cs.set i { c with sl := c.sl.set k ⟨x.p, x.n + 1, (a : Int)⟩ } }) (c' := { c with sl := c.sl.set k ⟨x.p, x.n + 1, (a : Int)⟩ }) hi rfl b
 have hsame : ∀ d ∈ s.cs, ∀ y ∈ d.sl, y.p ≠ x.p → (lG (s.w.set a x.h) d y b ↔ lG s.w d y b) := fun d hd y hy hyp =>
  Dh (((hk.ck d hd).sk y hy).yE (s' := { s with w := s.w.set a x.h }) hwl (hne d hd y hy hyp)) b
 by_cases hj : j = i
 ·subst hj
  rw [hst.1, kY hi, JO hkl, Df hkl, hkx, lH h1]
  have h8 : lG (s.w.set a x.h) { c with sl := c.sl.set k ⟨x.p, x.n + 1, (a : Int)⟩ } ⟨x.p, x.n + 1, (a : Int)⟩ b ↔ iM c x.p b = true ∧ b ∉ (a : Int) :: l := lH (x := ⟨x.p, x.n + 1, (a : Int)⟩) (c := { c with sl := c.sl.set k ⟨x.p, x.n + 1, (a : Int)⟩ }) Rq b
  have h9 : (∃ j, ∃ h : j < c.sl.length, j ≠ k ∧ lG (s.w.set a x.h) { c with sl := c.sl.set k ⟨x.p, x.n + 1, (a : Int)⟩ } c.sl[j] b) ↔ (∃ j, ∃ h : j < c.sl.length, j ≠ k ∧ lG s.w c c.sl[j] b) := by
   constructor
   ·rintro ⟨m, hm, hmk, h⟩
    exact ⟨m, hm, hmk, (hsame c hcm _ (gL hm) (hpk m hm hmk)).1 h⟩
   ·rintro ⟨m, hm, hmk, h⟩
    exact ⟨m, hm, hmk, (hsame c hcm _ (gL hm) (hpk m hm hmk)).2 h⟩
  show (∃ j, ∃ h : j < c.sl.length, j ≠ k ∧ lG (s.w.set a x.h) { c with sl := c.sl.set k ⟨x.p, x.n + 1, (a : Int)⟩ } c.sl[j] b) ∨ lG (s.w.set a x.h) { c with sl := c.sl.set k ⟨x.p, x.n + 1, (a : Int)⟩ } ⟨x.p, x.n + 1, (a : Int)⟩ b ↔ _
  rw [h8, h9, List.mem_cons]
  constructor
  ·rintro (⟨m, hm, hmk, h⟩ | ⟨h, h'⟩)
   ·refine ⟨.inl ⟨m, hm, hmk, h⟩, fun e => ?_⟩
    obtain ⟨_, rfl⟩ := e
    exact hmk (hk.Rn hi hm hkl h.1 (by rw [hkx]; exact hob))
   ·exact ⟨.inr ⟨h, fun e => h' (.inr e)⟩, fun e => h' (.inl e.2)⟩
  ·rintro ⟨h | ⟨h, h'⟩, h2'⟩
   ·exact .inl h
   ·exact .inr ⟨h, fun e => e.elim (fun e => h2' ⟨rfl, e⟩) h'⟩
 ·rw [hst.2 j hj]
  unfold Sy.away
  constructor
  ·rintro ⟨d, hd, y, hy, h⟩
   exact ⟨⟨d, hd, y, hy, (hsame d (gM hd) y hy (hpd j hj d hd y hy)).1 h⟩, fun e => hj e.1⟩
  ·rintro ⟨⟨d, hd, y, hy, h⟩, _⟩
   exact ⟨d, hd, y, hy, (hsame d (gM hd) y hy (hpd j hj d hd y hy)).2 h⟩
end
section
theorem uD {s : Sy} (hk : fC s) {i k cpu : Nat} {c : Ca} {x : Sl} (hi : s.cs[i]? = some c) (hx : c.sl[k]? = some x) : ∃ hl : lb s.h.live x.p < s.h.live.length, s.h.live[lb s.h.live x.p].a = x.p ∧
  s.discard i k cpu = { s with h := s.h.gX cpu (lb s.h.live x.p) s.h.live[lb s.h.live x.p], cs := s.cs.set i { c with sl := c.sl.eraseIdx k } } := by
 obtain ⟨hlb, _, hth⟩ := ((hk.ck c (gM hi)).sk x (gM hx)).at hk.hk
 refine ⟨hlb, ?_, ?_⟩
 ·unfold hasB at hth
  obtain ⟨b, hb, e⟩ := List.any_eq_true.1 hth
  have h3 := sH hk.hk.vs hb
  rw [of_decide_eq_true e, gJ hlb] at h3
  rw [gP h3]
  exact of_decide_eq_true e
 ·unfold Sy.discard
  rw [hi]
  simp only [hx, gJ hlb]
theorem fC.discard {s : Sy} (hk : fC s) {i k cpu : Nat} {c : Ca} {x : Sl} (hi : s.cs[i]? = some c) (hx : c.sl[k]? = some x) (hn : c.r ≤ x.n) (ha : ∀ b ∈ c.ac, b ≠ (x.p : Int)) (fH : cpu < s.h.aF) :
  fC (s.discard i k cpu) ∧ (∀ j b, (s.discard i k cpu).away j b ↔ s.away j b) ∧ (s.discard i k cpu).h.aF = s.h.aF ∧ (s.discard i k cpu).cs = s.cs.set i { c with sl := c.sl.eraseIdx k } ∧ (∀ b ∈ (s.discard i k cpu).h.live, b ∈ s.h.live ∧ b.a ≠ x.p) ∧ (s.discard i k cpu).w = s.w := by
 have hil := (List.getElem?_eq_some_iff.1 hi).1
 have hcm := gM hi
 have hxm := gM hx
 obtain ⟨hkl, hkx⟩ := List.getElem?_eq_some_iff.1 hx
 have hck := hk.ck c hcm
 obtain ⟨hlb, hlp, he⟩ := uD hk (cpu := cpu) hi hx
 obtain ⟨g1, g2, g3, g4⟩ := hk.hk.gX fH hlb
 have hpk : ∀ j (hj : j < c.sl.length), j ≠ k → c.sl[j].p ≠ x.p := fun j hj hjk e => by
  rw [← hkx] at e
  have hsr := hck.sr
  rw [gN] at hsr
  rcases Nat.lt_or_gt_of_ne hjk with h | h
  ·have := hsr j k hj hkl h
   omega
  ·have := hsr k j hkl hj h
   omega
 have hpd : ∀ j, j ≠ i → ∀ d, s.cs[j]? = some d → ∀ y ∈ d.sl, y.p ≠ x.p := fun j hj d hd y hy e => by
  obtain ⟨hjl, hjd⟩ := List.getElem?_eq_some_iff.1 hd
  obtain ⟨XG, hic⟩ := List.getElem?_eq_some_iff.1 hi
  have hp := hk.pd
  rw [gN] at hp
  rcases Nat.lt_or_gt_of_ne hj with h | h
  ·exact hp j i hjl hil h y (by rw [hjd]; exact hy) x (by rw [hic]; exact hxm) e
  ·exact hp i j hil hjl h x (by rw [hic]; exact hxm) y (by rw [hjd]; exact hy) e.symm
 rw [he]
 have hlive : ∀ b ∈ s.h.live, b.a ≠ x.p → b ∈ (s.h.gX cpu (lb s.h.live x.p) s.h.live[lb s.h.live x.p]).live := fun b hb hne => by
  rw [g4, List.mem_eraseIdx_iff_getElem]
  obtain ⟨j, hj, e⟩ := List.mem_iff_getElem.1 hb
  refine ⟨j, hj, fun e2 => ?_, e⟩
  subst e2
  rw [e] at hlp
  exact hne hlp
 have hoth : ∀ d ∈ s.cs, ∀ y ∈ d.sl, y.p ≠ x.p → pO { s with h := s.h.gX cpu (lb s.h.live x.p) s.h.live[lb s.h.live x.p], cs := s.cs.set i { c with sl := c.sl.eraseIdx k } } d y := fun d hd y hy hyp => by
  obtain ⟨b, hb, hb1, hb2⟩ := ((hk.ck d hd).sk y hy).live
  exact ⟨⟨b, hlive b hb (by rw [hb1]; exact hyp), hb1, hb2⟩, ((hk.ck d hd).sk y hy).chain⟩
 have hmem : ∀ {P : Ca → Ca → Prop}, s.cs.Pairwise P → (∀ d, P d c → P d { c with sl := c.sl.eraseIdx k }) → (∀ d, P c d → P { c with sl := c.sl.eraseIdx k } d) → (s.cs.set i { c with sl := c.sl.eraseIdx k }).Pairwise P := fun {P} h g1 g2 => by
  obtain ⟨XG, hic⟩ := List.getElem?_eq_some_iff.1 hi
  rw [gN] at h ⊢
  intro j m hj hm hjm
  have hj' : j < s.cs.length := by simpa using hj
  have hm' : m < s.cs.length := by simpa using hm
  have h9 := h j m hj' hm' hjm
  simp only [List.getElem_set]
  split
  ·rename_i e1
   subst e1
   rw [if_neg (by omega)]
   rw [hic] at h9
   exact g2 _ h9
  ·split
   ·rename_i e1
    subst e1
    rw [hic] at h9
    exact g1 _ h9
   ·exact h9
 have hsub : ∀ y ∈ c.sl.eraseIdx k, y ∈ c.sl := fun y hy => (List.eraseIdx_sublist _ _).subset hy
 refine ⟨⟨hk.wl, g1, by show (s.cs.set i _).length ≤ 20; rw [List.length_set]; exact hk.cl, fun d hd => ?_, hmem hk.zd (fun _ h => h) (fun _ h => h), hmem hk.nd (fun _ h => h) (fun _ h => h), hmem hk.pd (fun d h y hy z hz => h y hy z (hsub z hz)) (fun d h y hy z hz => h y (hsub y hy) z hz)⟩, fun j b => ?_, g3.aF, rfl, fun b hb => ?_, rfl⟩
 ·obtain ⟨j, hj, e⟩ := List.mem_iff_getElem.1 hd
  have hj' : j < s.cs.length := by simpa using hj
  rw [List.getElem_set] at e
  split at e
  ·rw [← e]
   refine ⟨hck.z, hck.o, hck.r, hck.ns, hck.nm, hck.nr, by rw [show _ = _ from g3.aF]; exact hck.ac, hck.sr.sublist (List.eraseIdx_sublist _ _), fun y hy => ?_, fun b hb => ?_, hck.ad⟩
   ·rw [List.mem_eraseIdx_iff_getElem] at hy
    obtain ⟨m, hm, hmk, e⟩ := hy
    have h9 := hoth c hcm _ (gL hm) (hpk m hm hmk)
    rw [e] at h9
    exact ⟨h9.live, h9.chain⟩
   ·rcases hck.aw b hb with h | ⟨z, hz, h⟩
    ·exact .inl h
    ·refine .inr ⟨z, ?_, h⟩
     rw [List.mem_eraseIdx_iff_getElem]
     obtain ⟨m, hm, ez⟩ := List.mem_iff_getElem.1 hz
     refine ⟨m, hm, fun e2 => ?_, ez⟩
     subst e2
     rw [hkx] at ez
     exact ha b hb (by rw [← h, ez])
  ·rename_i hji
   have hd' : s.cs[j]? = some d := by rw [gJ hj', e]
   exact (hk.ck d (gM hd')).move g3.aF fun y hy => hoth d (gM hd') y hy (hpd j (fun e => hji e.symm) d hd' y hy)
 ·have hst := mM (s' := { s with h := s.h.gX cpu (lb s.h.live x.p) s.h.live[lb s.h.live x.p], cs := s.cs.set i { c with sl := c.sl.eraseIdx k } }) (c' := { c with sl := c.sl.eraseIdx k }) hi rfl b
  by_cases hj : j = i
  ·subst hj
   rw [hst.1, kY hi, Hr, Df hkl, hkx]
   obtain ⟨l, h1, h2, h3⟩ := (hck.sk x hxm).chain
   constructor
   ·exact fun h => .inl h
   ·rintro (h | h)
    ·exact h
    ·exfalso
     rw [lH h1] at h
     exact h.2 (Dc hck.z.1 (gW.1 h1).2.2.2 h3 (by omega) h.1)
  ·rw [hst.2 j hj]
   exact Iff.rfl
 ·have hb' : b ∈ s.h.live.eraseIdx (lb s.h.live x.p) := by
   rw [← g4]
   exact hb
  rw [List.mem_eraseIdx_iff_getElem] at hb'
  obtain ⟨j, hj, hne, e⟩ := hb'
  refine ⟨by rw [← e]; exact gL hj, fun e2 => hne ?_⟩
  have hvs := hk.hk.vs
  rw [gN] at hvs
  rcases Nat.lt_trichotomy j (lb s.h.live x.p) with h | h | h
  ·have := hvs j _ hj hlb h
   rw [e] at this
   omega
  ·exact h
  ·have := hvs _ j hlb hj h
   rw [e] at this
   omega
theorem Hy {s : Sy} {i k cpu : Nat} : (s.discard i k cpu).sig = s.sig := by
 unfold Sy.discard
 cases hc : s.cs[i]? with
 | none => rfl
 | some c =>
  simp only
  cases hx : c.sl[k]? with
  | none => rfl
  | some x =>
   simp only
   split
   ·exact kJ hc rfl
   ·rfl
theorem Hz {s : Sy} {i k cpu : Nat} : (s.discard i k cpu).nss = s.nss := Au Hy
end
section
def Ca.dR (c : Ca) (m : Nat) : Ca := { c with ac := List.replicate (min m c.ac.length) (-1) ++ c.ac.drop m }
def Sy.dR (s : Sy) (i m : Nat) : Sy := match s.cs[i]? with
 | some c => s.dU i (c.dR m)
 | none => s
def Sy.mO (s : Sy) (i k : Nat) : Sy := match s.cs[i]? with
 | some c => match c.sl[k]? with
  | some x => if x.n = c.r then s.discard i k 0 else s
  | none => s
 | none => s
def Sy.shr (s : Sy) (i : Nat) : Nat → Sy
 | 0 => s
 | m + 1 => (s.mO i m).shr i m
def Sy.shrink (s : Sy) (i : Nat) : Sy := match s.cs[i]? with
 | some c => (s.dR i c.ac.length).shr i c.sl.length
 | none => s
theorem Ol (c : Ca) : (c.dR c.ac.length).ac = List.replicate c.ac.length (-1) := by
 unfold Ca.dR
 simp
theorem JR (c : Ca) : c.dR 0 = c := by
 unfold Ca.dR
 simp
theorem JU {c : Ca} {m : Nat} (hm : m < c.ac.length) : (c.dR m).ac.set m (-1) = (c.dR (m + 1)).ac := by
 unfold Ca.dR
 simp only
 rw [List.set_append_right _ _ (by simp; omega), List.length_replicate, Nat.min_eq_left (by omega), Nat.sub_self, Nat.min_eq_left (by omega), List.drop_eq_getElem_cons hm, gG, List.replicate_succ', List.append_assoc]
 rfl
theorem Om {c : Ca} {m : Nat} : (c.dR m).ac.length = c.ac.length := by
 unfold Ca.dR
 simp
 omega
theorem Ia {s : Sy} {i m : Nat} {c : Ca} (hi : s.cs[i]? = some c) : s.dR i m = s.dU i (c.dR m) := by
 unfold Sy.dR
 rw [hi]
theorem fC.dR {s : Sy} (hk : fC s) {i : Nat} {c : Ca} (hi : s.cs[i]? = some c) :
  fC (s.dR i c.ac.length) ∧ (∀ j b, (s.dR i c.ac.length).away j b ↔ s.away j b) ∧ (s.dR i c.ac.length).h = s.h ∧ (s.dR i c.ac.length).cs = s.cs.set i { c with ac := List.replicate c.ac.length (-1) } ∧ (s.dR i c.ac.length).w = s.w := by
 have hck := hk.ck c (gM hi)
 have hu : c.dR c.ac.length = { c with ac := List.replicate c.ac.length (-1) } := by
  have h := Ol c
  unfold Ca.dR at h ⊢
  simp only at h
  rw [h]
 rw [Ia hi, hu]
 refine ⟨hk.upd hi (c' := { c with ac := List.replicate c.ac.length (-1) }) hk.wl hk.hk rfl rfl rfl ?_ (fun d hd => (hk.ck d hd).move rfl (fun y hy => ⟨((hk.ck d hd).sk y hy).live, ((hk.ck d hd).sk y hy).chain⟩)) (fun y hy => .inl ⟨y, hy, rfl⟩), fun j b => ?_, rfl, rfl, rfl⟩
 ·refine ⟨hck.z, hck.o, hck.r, hck.ns, hck.nm, hck.nr, by rw [List.length_replicate]; exact hck.ac, hck.sr, fun y hy => ⟨(hck.sk y hy).live, (hck.sk y hy).chain⟩, fun a ha => .inl (List.mem_replicate.1 ha).2, ?_⟩
  rw [gN]
  intro j l hj hl hjl _
  simp
 ·have hst := mM (s' := s.dU i { c with ac := List.replicate c.ac.length (-1) }) (c' := { c with ac := List.replicate c.ac.length (-1) }) hi rfl b
  by_cases hj : j = i
  ·subst hj
   rw [hst.1, kY hi]
   exact Iff.rfl
  ·rw [hst.2 j hj]
   exact Iff.rfl
def Dj (s : Sy) (i m : Nat) : Prop := ∃ c, s.cs[i]? = some c ∧ (∀ b ∈ c.ac, b = -1) ∧ m ≤ c.sl.length
theorem fC.mO {s : Sy} (hk : fC s) {i k : Nat} (h : Dj s i (k + 1)) :
  fC (s.mO i k) ∧ (∀ j b, (s.mO i k).away j b ↔ s.away j b) ∧ (s.mO i k).h.aF = s.h.aF ∧ Dj (s.mO i k) i k ∧ (s.mO i k).cs.length = s.cs.length ∧ (s.mO i k).nss = s.nss := by
 obtain ⟨c, hc, ha, hl⟩ := h
 have hil := (List.getElem?_eq_some_iff.1 hc).1
 have hx : c.sl[k]? = some (c.sl[k]'(by omega)) := gJ _
 unfold Sy.mO
 rw [hc]
 simp only [hx]
 split
 ·rename_i hn
  have hcp : 0 < s.h.aF := hk.hk.cp.1
  obtain ⟨h1, h2, h3, h4, _, _⟩ := hk.discard (cpu := 0) hc hx (by omega) (fun b hb => by have := ha b hb; omega) hcp
  refine ⟨h1, h2, h3, ⟨{ c with sl := c.sl.eraseIdx k }, by rw [h4, List.getElem?_set_self hil], ha, ?_⟩, by rw [h4, List.length_set], Hz⟩
  show k ≤ (c.sl.eraseIdx k).length
  rw [List.length_eraseIdx_of_lt (by omega)]
  omega
 ·exact ⟨hk, fun j b => Iff.rfl, rfl, ⟨c, hc, ha, by omega⟩, rfl, rfl⟩
end
end Go.Proofs.YtcmpmobhongkiaaGreatDoor
