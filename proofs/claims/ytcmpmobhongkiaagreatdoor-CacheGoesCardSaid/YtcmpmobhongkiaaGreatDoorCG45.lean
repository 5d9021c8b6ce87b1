/- texts of this claim, joined. -/
import Derived.Test.YtcmpmobhongkiaaGreatDoorCG0
import Derived.Test.YtcmpmobhongkiaaGreatDoorCG43
set_option linter.unusedVariables false
set_option linter.unusedSimpArgs false
namespace Go.Proofs.YtcmpmobhongkiaaGreatDoor
section
def Sy.destroy (s : Sy) (i : Nat) (n : List UInt8) : Option Sy := match s.cs[i]? with
 | some c => if 1 < c.ns.length then some (s.eU i { c with ns := c.ns.eraseIdx (vV c.ns n) }) else if c.sl.any (fun x => decide (x.n < c.r)) then none else some { s.shrink i with cs := (s.shrink i).cs.eraseIdx i }
 | none => none
theorem dM.shr {i : Nat} : ∀ {m : Nat} {s : Sy}, dM s → qM s i m → dM (s.shr i m) ∧ (∀ j b, (s.shr i m).away j b ↔ s.away j b) ∧ (s.shr i m).h.aF = s.h.aF ∧ (s.shr i m).cs.length = s.cs.length ∧ (s.shr i m).nss = s.nss
 | 0, s, hk, _ => ⟨hk, fun _ _ => Iff.rfl, rfl, rfl, rfl⟩
 | m + 1, s, hk, h => by
  obtain ⟨h1, h2, h3, h4, h5, h6⟩ := hk.iF h
  obtain ⟨g1, g2, g3, g5, g6⟩ := dM.shr h1 h4
  exact ⟨g1, fun j b => (g2 j b).trans (h2 j b), g3.trans h3, g5.trans h5, g6.trans h6⟩
theorem dM.shrink {s : Sy} (hk : dM s) {i : Nat} (hi : i < s.cs.length) : dM (s.shrink i) ∧ (∀ j b, (s.shrink i).away j b ↔ s.away j b) ∧ (s.shrink i).h.aF = s.h.aF ∧ (s.shrink i).cs.length = s.cs.length ∧ (s.shrink i).nss = s.nss := by
 have hc : s.cs[i]? = some s.cs[i] := gJ hi
 obtain ⟨h1, h2, h3, h4, h5⟩ := hk.dD hc
 unfold Sy.shrink
 rw [hc]
 simp only
 have hn : qM (s.dD i s.cs[i].ac.length) i s.cs[i].sl.length := ⟨{ s.cs[i] with ac := List.replicate s.cs[i].ac.length (-1) }, by rw [h4, List.getElem?_set_self hi], fun b hb => (List.mem_replicate.1 hb).2, Nat.le_refl _⟩
 obtain ⟨g1, g2, g3, g4, g5⟩ := h1.shr hn
 refine ⟨g1, fun j b => (g2 j b).trans (h2 j b), by rw [g3, h3], by rw [g4, h4, List.length_set], g5.trans ?_⟩
 unfold Sy.nss
 rw [h4]
 exact jE hc rfl
end
section
def Sy.whole (s : Sy) (b : Bk) : Prop := b ∈ s.h.live ∧ ∀ c ∈ s.cs, ∀ x ∈ c.sl, x.p ≠ b.a
theorem AB {α : Type} {l : List α} {i : Nat} {c c' d : α} (hi : l[i]? = some c) : d ∈ l.set i c' ↔ d = c' ∨ ∃ j, j ≠ i ∧ l[j]? = some d := by
 obtain ⟨hil, hic⟩ := List.getElem?_eq_some_iff.1 hi
 constructor
 ·intro h
  obtain ⟨j, hj, e⟩ := List.mem_iff_getElem.1 h
  rw [List.length_set] at hj
  rw [List.getElem_set] at e
  split at e
  ·exact .inl e.symm
  ·rename_i hne
   exact .inr ⟨j, fun e' => hne e'.symm, by rw [gJ hj, e]⟩
 ·rintro (rfl | ⟨j, hj, h⟩)
  ·exact List.mem_iff_getElem.2 ⟨i, by simpa using hil, by simp⟩
  ·obtain ⟨hjl, e⟩ := List.getElem?_eq_some_iff.1 h
   exact List.mem_iff_getElem.2 ⟨j, by simpa using hjl, by rw [List.getElem_set, if_neg fun e => hj e.symm, e]⟩
def Sy.VH (s : Sy) (p : Nat) : Prop := ∃ c ∈ s.cs, ∃ x ∈ c.sl, x.p = p
theorem fC {s : Sy} {b : Bk} : s.whole b ↔ b ∈ s.h.live ∧ ¬ s.VH b.a := by
 unfold Sy.whole Sy.VH
 constructor
 ·rintro ⟨h1, h2⟩
  exact ⟨h1, fun ⟨c, hc, x, hx, e⟩ => h2 c hc x hx e⟩
 ·rintro ⟨h1, h2⟩
  exact ⟨h1, fun c hc x hx e => h2 ⟨c, hc, x, hx, e⟩⟩
theorem yP {s s' : Sy} {i : Nat} {c c' : Ca} (hi : s.cs[i]? = some c) (hcs : s'.cs = s.cs.set i c') (p : Nat) : s'.VH p ↔ (∃ x ∈ c'.sl, x.p = p) ∨ ∃ j, j ≠ i ∧ ∃ d, s.cs[j]? = some d ∧ ∃ x ∈ d.sl, x.p = p := by
 unfold Sy.VH
 rw [hcs]
 constructor
 ·rintro ⟨d, hd, h⟩
  rcases (AB hi).1 hd with rfl | ⟨j, hj, hd⟩
  ·exact .inl h
  ·exact .inr ⟨j, hj, d, hd, h⟩
 ·rintro (h | ⟨j, hj, d, hd, h⟩)
  ·exact ⟨c', (AB hi).2 (.inl rfl), h⟩
  ·exact ⟨d, (AB hi).2 (.inr ⟨j, hj, hd⟩), h⟩
theorem KJ {s : Sy} {i : Nat} {c : Ca} (hi : s.cs[i]? = some c) (p : Nat) : s.VH p ↔ (∃ x ∈ c.sl, x.p = p) ∨ ∃ j, j ≠ i ∧ ∃ d, s.cs[j]? = some d ∧ ∃ x ∈ d.sl, x.p = p := by
 refine yP (s' := s) hi ?_ p
 obtain ⟨hil, hic⟩ := List.getElem?_eq_some_iff.1 hi
 rw [← hic, List.set_getElem_self]
theorem vT {s s' : Sy} {i : Nat} {c c' : Ca} (hi : s.cs[i]? = some c) (hcs : s'.cs = s.cs.set i c') (h : ∀ p, (∃ x ∈ c'.sl, x.p = p) ↔ ∃ x ∈ c.sl, x.p = p) (p : Nat) : s'.VH p ↔ s.VH p := by
 rw [yP hi hcs, KJ hi, h]
theorem Iu {l : List Sl} {k : Nat} {x x' : Sl} (hx : l[k]? = some x) (hp : x'.p = x.p) (p : Nat) : (∃ y ∈ l.set k x', y.p = p) ↔ ∃ y ∈ l, y.p = p := by
 obtain ⟨hkl, hkx⟩ := List.getElem?_eq_some_iff.1 hx
 rw [Kv hkl, Dq hkl, hkx, hp]
theorem TG {s : Sy} {i cpu k : Nat} (p : Nat) : (s.mine i cpu k).VH p ↔ s.VH p := by
 unfold Sy.mine
 cases hc : s.cs[i]? with
 | none => rfl
 | some c =>
  simp only
  cases hx : c.sl[k]? with
  | none => rfl
  | some x => exact vT (s' := s.eU i { c with ac := c.ac.set cpu (x.p : Int) }) (c' := { c with ac := c.ac.set cpu (x.p : Int) }) hc rfl (fun _ => Iff.rfl) p
theorem qZ {s : Sy} {i cpu k : Nat} : (s.mine i cpu k).h = s.h ∧ (s.mine i cpu k).w = s.w := by
 unfold Sy.mine
 cases hc : s.cs[i]? with
 | none => exact ⟨rfl, rfl⟩
 | some c =>
  simp only
  cases hx : c.sl[k]? with
  | none => exact ⟨rfl, rfl⟩
  | some x => exact ⟨rfl, rfl⟩
theorem AL {s : Sy} {i cpu k : Nat} (b : Bk) : (s.mine i cpu k).whole b ↔ s.whole b := by
 rw [fC, fC, TG, qZ.1]
theorem EI {s t : Sy} {i k : Nat} {a : Int} (h : s.pop i k = some (t, a)) : ∃ c x, s.cs[i]? = some c ∧ c.sl[k]? = some x ∧ t = s.eU i { c with sl := c.sl.set k ⟨x.p, x.n - 1, s.w.getD x.h.toNat 0⟩ } ∧ a = x.h := by
 unfold Sy.pop at h
 cases hc : s.cs[i]? with
 | none => rw [hc] at h; cases h
 | some c =>
  rw [hc] at h
  simp only at h
  cases hx : c.sl[k]? with
  | none => rw [hx] at h; cases h
  | some x =>
   rw [hx] at h
   have h1 := gP h
   rw [Prod.mk.injEq] at h1
   exact ⟨c, x, rfl, hx, h1.1.symm, h1.2.symm⟩
theorem Ph {s t : Sy} {i k : Nat} {a : Int} (h : s.pop i k = some (t, a)) (b : Bk) : t.whole b ↔ s.whole b := by
 obtain ⟨c, x, hc, hx, rfl, _⟩ := EI h
 rw [fC, fC]
 have h1 := vT (s' := s.eU i { c with sl := c.sl.set k ⟨x.p, x.n - 1, s.w.getD x.h.toNat 0⟩ }) hc rfl (Iu (x' := ⟨x.p, x.n - 1, s.w.getD x.h.toNat 0⟩) hx rfl) b.a
 rw [h1]
 exact Iff.rfl
theorem BK {l : List Bk} {b x : Bk} : x ∈ bD l b ↔ x = b ∨ x ∈ l := by
 refine ⟨CO, fun hx => ?_⟩
 unfold bD
 rw [← List.take_append_drop (lb l b.a) l] at hx
 simp only [List.mem_append, List.mem_cons] at hx ⊢
 rcases hx with h | h | h
 ·exact .inr (.inl h)
 ·exact .inl h
 ·exact .inr (.inr h)
def Sy.lw (s : Sy) (q : Nat) : Prop := ∃ b ∈ s.h.live, 16 * b.a ≤ q ∧ q < 16 * (b.a + 2 ^ b.o)
theorem dM.Iw {s s' : Sy} (hk : dM s) {i cpu k : Nat} {c : Ca} (hi : s.cs[i]? = some c) (dP : cpu < s.h.aF) (hg : s.grow i cpu c = some (s', k)) :
  ∃ a, s'.cs = s.cs.set i { c with sl := jH c.sl ⟨a, c.r, ((16 * a : Nat) : Int)⟩ } ∧ s'.h.live = bD s.h.live ⟨a, c.o, 0⟩ ∧ (∀ b ∈ s.h.live, apartB a c.o b) ∧ ∀ q, s.lw q → s'.w.getD q 0 = s.w.getD q 0 := by
 have hck := hk.ck c (gM hi)
 have hor : c.o ≤ 4 := by rw [hck.o]; exact gQ (kH _) (by decide)
 obtain ⟨h', a, hal, rfl, rfl⟩ := xA hg
 obtain ⟨hh, hcnt, hsame, hlive, hfit⟩ := hk.hk.alloc dP hor (by decide) hal
 have hcl : h'.live = bD s.h.live ⟨a, c.o, 0⟩ := hlive
 have hap : ∀ b ∈ s.h.live, apartB a c.o b := fun b hb => dB fun q h1 h2 => by
  have h3 := hh.one q
  rw [dA, hcl, qQ] at h3
  have h4 : 0 < cnt s.h.live q := iJ.2 ⟨b, hb, h2⟩
  have h5 : hit (⟨a, c.o, 0⟩ : Bk) q = 1 := iU.2 h1
  omega
 refine ⟨a, rfl, hcl, hap, fun q ⟨b, hb, h1, h2⟩ => ?_⟩
 refine nH _ _ _ _ _ (Nat.le_refl _) _ ?_ hck.z.1
 have h3 := hap b hb
 unfold apartB Bk.fin at h3
 have h4 := hck.room
 rw [Nat.mul_comm c.z c.r]
 generalize c.r * c.z = m at *
 generalize 2 ^ c.o = q1 at *
 generalize 2 ^ b.o = q2 at *
 omega
theorem dM.KN {s s' : Sy} (hk : dM s) {i cpu k : Nat} {c : Ca} (hi : s.cs[i]? = some c) (dP : cpu < s.h.aF) (hg : s.grow i cpu c = some (s', k)) (b : Bk) : s'.whole b ↔ s.whole b := by
 obtain ⟨a, hcs, hlive, hap, _⟩ := hk.Iw hi dP hg
 have hne : ∀ b ∈ s.h.live, b.a ≠ a := fun b hb e => by
  have h := hap b hb
  unfold apartB Bk.fin at h
  have h1 := Nat.two_pow_pos c.o
  have h2 := Nat.two_pow_pos b.o
  omega
 rw [fC, fC, hlive, BK, yP hi hcs, KJ hi]
 constructor
 ·rintro ⟨h1, h2⟩
  have hba : b.a ≠ a := fun e => h2 (.inl ⟨_, lD.2 (.inl rfl), e.symm⟩)
  rcases h1 with rfl | h1
  ·exact absurd rfl hba
  ·refine ⟨h1, fun h => h2 ?_⟩
   rcases h with ⟨x, hx, e⟩ | h
   ·exact .inl ⟨x, lD.2 (.inr hx), e⟩
   ·exact .inr h
 ·rintro ⟨h1, h2⟩
  refine ⟨.inr h1, fun h => h2 ?_⟩
  rcases h with ⟨x, hx, e⟩ | h
  ·rcases lD.1 hx with rfl | hx
   ·exact absurd e.symm (hne b h1)
   ·exact .inl ⟨x, hx, e⟩
  ·exact .inr h
theorem dM.EJ {s s' : Sy} (hk : dM s) {i cpu k : Nat} {c : Ca} (hi : s.cs[i]? = some c) (dP : cpu < s.h.aF) (hg : s.choose i cpu = some (s', k)) : (∀ b, s'.whole b ↔ s.whole b) ∧ ∀ q, s.lw q → s'.w.getD q 0 = s.w.getD q 0 := by
 unfold Sy.choose at hg
 rw [hi] at hg
 simp only at hg
 split at hg
 ·have h1 := gP hg
  rw [Prod.mk.injEq] at h1
  rw [← h1.1]
  exact ⟨fun _ => Iff.rfl, fun _ _ => rfl⟩
 ·split at hg
  ·have h1 := gP hg
   rw [Prod.mk.injEq] at h1
   rw [← h1.1]
   exact ⟨fun b => AL b, fun q _ => by rw [qZ.2]⟩
  ·split at hg
   ·rename_i heq
    have h1 := gP hg
    rw [Prod.mk.injEq] at h1
    rw [← h1.1]
    obtain ⟨_, _, _, _, h2⟩ := hk.Iw hi dP heq
    exact ⟨fun b => (AL b).trans (hk.KN hi dP heq b), fun q hq => by rw [qZ.2]; exact h2 q hq⟩
   ·cases hg
theorem dM.Pj {s s' : Sy} (hk : dM s) {i cpu : Nat} {c : Ca} {a : Int} (hi : s.cs[i]? = some c) (dP : cpu < s.h.aF) (hg : s.one i cpu = some (s', a)) : (∀ b, s'.whole b ↔ s.whole b) ∧ ∀ q, s.lw q → s'.w.getD q 0 = s.w.getD q 0 := by
 unfold Sy.one at hg
 cases hch : s.choose i cpu with
 | none => rw [hch] at hg; cases hg
 | some r =>
  obtain ⟨s2, k⟩ := r
  rw [hch] at hg
  simp only at hg
  obtain ⟨h1, h2⟩ := hk.EJ hi dP hch
  obtain ⟨_, _, _, _, h3, _⟩ := EI hg
  have h4 : s'.w = s2.w := by rw [h3]; rfl
  exact ⟨fun b => (Ph hg b).trans (h1 b), fun q hq => by rw [h4]; exact h2 q hq⟩

theorem AO {s : Sy} {i k a : Nat} (b : Bk) : (s.push i k a).whole b ↔ s.whole b := by
 unfold Sy.push
 cases hc : s.cs[i]? with
 | none => rfl
 | some c =>
  simp only
  cases hx : c.sl[k]? with
  | none => rfl
  | some x =>
   simp only
   rw [fC, fC]
   have h1 := vT (s' := { s with w := s.w.set a x.h, cs := s.cs.set i { c with sl := c.sl.set k ⟨x.p, x.n + 1, (a : Int)⟩ } }) hc rfl (Iu (x' := ⟨x.p, x.n + 1, (a : Int)⟩) hx rfl) b.a
   rw [h1]
theorem YM {s : Sy} {i k a : Nat} : (s.push i k a).h = s.h ∧ ∀ q, q ≠ a → (s.push i k a).w.getD q 0 = s.w.getD q 0 := by
 unfold Sy.push
 cases hc : s.cs[i]? with
 | none => exact ⟨rfl, fun _ _ => rfl⟩
 | some c =>
  simp only
  cases hx : c.sl[k]? with
  | none => exact ⟨rfl, fun _ _ => rfl⟩
  | some x =>
   refine ⟨rfl, fun q hq => ?_⟩
   show (s.w.set a x.h).getD q 0 = _
   rw [List.getD_eq_getElem?_getD, List.getElem?_set_ne (fun e => hq e.symm), ← List.getD_eq_getElem?_getD]
theorem dM.EK {s : Sy} (hk : dM s) {i k cpu : Nat} {c : Ca} {x : Sl} (hi : s.cs[i]? = some c) (hx : c.sl[k]? = some x) (dP : cpu < s.h.aF) (b : Bk) : b ∈ (s.discard i k cpu).h.live ↔ b ∈ s.h.live ∧ b.a ≠ x.p := by
 obtain ⟨hlb, hlp, he⟩ := mP hk (cpu := cpu) hi hx
 obtain ⟨_, _, _, g4⟩ := hk.hk.fZ dP hlb
 rw [he]
 show b ∈ (s.h.fZ cpu (lb s.h.live x.p) s.h.live[lb s.h.live x.p]).live ↔ _
 rw [g4, List.mem_eraseIdx_iff_getElem]
 constructor
 ·rintro ⟨j, hj, hne, e⟩
  refine ⟨by rw [← e]; exact gL hj, fun e2 => hne ?_⟩
  have hvs := hk.hk.vs
  rw [gN] at hvs
  rcases Nat.lt_trichotomy j (lb s.h.live x.p) with h | h | h
  ·have := hvs j _ hj hlb h
   rw [e] at this
   omega
  ·exact h
  ·have := hvs _ j hlb hj h
   rw [e] at this
   omega
 ·rintro ⟨hb, hne⟩
  obtain ⟨j, hj, e⟩ := List.mem_iff_getElem.1 hb
  refine ⟨j, hj, fun e2 => ?_, e⟩
  subst e2
  rw [e] at hlp
  exact hne hlp
theorem dM.rX {s : Sy} (hk : dM s) {i k cpu : Nat} {c : Ca} {x : Sl} (hi : s.cs[i]? = some c) (hx : c.sl[k]? = some x) (dP : cpu < s.h.aF) (b : Bk) : (s.discard i k cpu).whole b ↔ s.whole b := by
 have hcs : (s.discard i k cpu).cs = s.cs.set i { c with sl := c.sl.eraseIdx k } := by
  obtain ⟨_, _, he⟩ := mP hk (cpu := cpu) hi hx
  rw [he]
 obtain ⟨hkl, hkx⟩ := List.getElem?_eq_some_iff.1 hx
 rw [fC, fC, hk.EK hi hx dP, yP hi hcs, KJ hi, Ic, Dq hkl, hkx]
 constructor
 ·rintro ⟨⟨h1, h2⟩, h3⟩
  refine ⟨h1, fun h => h3 ?_⟩
  rcases h with (h | h) | h
  ·exact .inl h
  ·exact absurd h.symm h2
  ·exact .inr h
 ·rintro ⟨h1, h2⟩
  refine ⟨⟨h1, fun e => h2 (.inl (.inr e.symm))⟩, fun h => h2 ?_⟩
  rcases h with h | h
  ·exact .inl (.inl h)
  ·exact .inr h
theorem dM.free {s : Sy} (hk : dM s) {i k a cpu : Nat} {c : Ca} {x : Sl} (hi : s.cs[i]? = some c) (hx : c.sl[k]? = some x) (ho : lG s.w c x a) (dP : cpu < s.h.aF) :
  dM (s.free i k a cpu) ∧ (∀ j b, (s.free i k a cpu).away j b ↔ s.away j b ∧ ¬ (j = i ∧ b = a)) ∧ (s.free i k a cpu).h.aF = s.h.aF ∧ (∀ b, (s.free i k a cpu).whole b ↔ s.whole b) ∧ ∀ q, q ≠ a → (s.free i k a cpu).w.getD q 0 = s.w.getD q 0 := by
 obtain ⟨h1, h2, h3⟩ := hk.push hi hx ho
 have h4 := YM (s := s) (i := i) (k := k) (a := a)
 obtain ⟨hkl, hkx⟩ := List.getElem?_eq_some_iff.1 hx
 have hx' : (c.sl.set k ⟨x.p, x.n + 1, (a : Int)⟩)[k]? = some ⟨x.p, x.n + 1, (a : Int)⟩ := List.getElem?_set_self hkl
 unfold Sy.free
 split
 ·rename_i hsp
  unfold Sy.spare at hsp
  rw [h3] at hsp
  unfold Ca.spare at hsp
  simp only [hx', Bool.and_eq_true] at hsp
  have hid := hsp.1
  unfold Ca.idle at hid
  simp only [Bool.and_eq_true, decide_eq_true_eq, Bool.not_eq_true'] at hid
  have hac : ∀ b ∈ c.ac, b ≠ (x.p : Int) := fun b hb e => by
   have h5 := hid.2
   rw [← e, List.contains_iff_mem.2 hb] at h5
   cases h5
  have WY : cpu < (s.push i k a).h.aF := by rw [h4.1]; exact dP
  obtain ⟨g1, g2, g3, g4, g5, g6⟩ := h1.discard (cpu := cpu) h3 hx' (Nat.le_of_eq hid.1.symm) hac WY
  exact ⟨g1, fun j b => (g2 j b).trans (h2 j b), by rw [g3, h4.1], fun b => (h1.rX h3 hx' WY b).trans (AO b), fun q hq => by rw [g6]; exact h4.2 q hq⟩
 ·exact ⟨h1, h2, by rw [h4.1], AO, h4.2⟩

theorem dM.Iy {s : Sy} (hk : dM s) {i k : Nat} (h : qM s i (k + 1)) : (∀ b, (s.iF i k).whole b ↔ s.whole b) ∧ (s.iF i k).w = s.w := by
 obtain ⟨c, hc, ha, hl⟩ := h
 have hx : c.sl[k]? = some (c.sl[k]'(by omega)) := gJ _
 unfold Sy.iF
 rw [hc]
 simp only [hx]
 split
 ·rename_i hn
  have hcp : 0 < s.h.aF := hk.hk.cp.1
  obtain ⟨_, _, _, _, _, h6⟩ := hk.discard (cpu := 0) hc hx (by omega) (fun b hb => by have := ha b hb; omega) hcp
  exact ⟨fun b => hk.rX hc hx hcp b, h6⟩
 ·exact ⟨fun b => Iff.rfl, rfl⟩
theorem dM.Dw {i : Nat} : ∀ {m : Nat} {s : Sy}, dM s → qM s i m → (∀ b, (s.shr i m).whole b ↔ s.whole b) ∧ (s.shr i m).w = s.w
 | 0, s, hk, _ => ⟨fun _ => Iff.rfl, rfl⟩
 | m + 1, s, hk, h => by
  obtain ⟨h1, _, _, h4, _, _⟩ := hk.iF h
  obtain ⟨h5, h6⟩ := hk.Iy h
  obtain ⟨g1, g2⟩ := dM.Dw h1 h4
  exact ⟨fun b => (g1 b).trans (h5 b), g2.trans h6⟩
theorem dM.qO {s : Sy} {i : Nat} {c : Ca} (hk : dM s) (hi : s.cs[i]? = some c) : qM (s.dD i c.ac.length) i c.sl.length := by
 obtain ⟨_, _, _, h4, _⟩ := hk.dD hi
 have hil := (List.getElem?_eq_some_iff.1 hi).1
 exact ⟨{ c with ac := List.replicate c.ac.length (-1) }, by rw [h4, List.getElem?_set_self hil], fun b hb => (List.mem_replicate.1 hb).2, Nat.le_refl _⟩
theorem dM.EL {s : Sy} (hk : dM s) {i : Nat} (hi : i < s.cs.length) : (∀ b, (s.shrink i).whole b ↔ s.whole b) ∧ (s.shrink i).w = s.w := by
 have hc : s.cs[i]? = some s.cs[i] := gJ hi
 obtain ⟨h1, _, h3, h4, h5⟩ := hk.dD hc
 obtain ⟨g1, g2⟩ := dM.Dw h1 (hk.qO hc)
 unfold Sy.shrink
 rw [hc]
 simp only
 refine ⟨fun b => (g1 b).trans ?_, g2.trans h5⟩
 rw [fC, fC, h3]
 have h6 := vT (s' := s.dD i s.cs[i].ac.length) hc h4 (fun _ => Iff.rfl) b.a
 rw [h6]
theorem Dx {i : Nat} : ∀ {m : Nat} {s : Sy}, dM s → qM s i m → ∀ j, j ≠ i → (s.shr i m).cs[j]? = s.cs[j]?
 | 0, s, _, _, _, _ => rfl
 | m + 1, s, hk, h, j, hj => by
  obtain ⟨h1, _, _, h4, _, _⟩ := hk.iF h
  have h5 : (s.iF i m).cs[j]? = s.cs[j]? := by
   obtain ⟨c, hc, ha, hl⟩ := h
   have hx : c.sl[m]? = some (c.sl[m]'(by omega)) := gJ _
   unfold Sy.iF
   rw [hc]
   simp only [hx]
   split
   ·obtain ⟨_, _, he⟩ := mP hk (cpu := 0) hc hx
    rw [he]
    exact List.getElem?_set_ne fun e => hj e.symm
   ·rfl
  exact (Dx h1 h4 j hj).trans h5
theorem dM.EM {s : Sy} (hk : dM s) {i : Nat} (hi : i < s.cs.length) (j : Nat) (hj : j ≠ i) : (s.shrink i).cs[j]? = s.cs[j]? := by
 have hc : s.cs[i]? = some s.cs[i] := gJ hi
 obtain ⟨h1, _, _, h4, _⟩ := hk.dD hc
 have h5 := Dx h1 (hk.qO hc) j hj
 unfold Sy.shrink
 rw [hc]
 simp only
 rw [h5, h4]
 exact List.getElem?_set_ne fun e => hj e.symm
theorem KO {i : Nat} : ∀ {m : Nat} {s : Sy}, dM s → qM s i m → ∀ c, s.cs[i]? = some c → ∃ c', (s.shr i m).cs[i]? = some c' ∧ c'.ns = c.ns ∧ c'.z = c.z ∧ c'.r = c.r ∧ c'.ac = c.ac ∧ ∀ y ∈ c'.sl, y ∈ c.sl ∧ (y.n = c.r → ∃ k, m ≤ k ∧ c.sl[k]? = some y)
 | 0, s, _, _, c, hc => ⟨c, hc, rfl, rfl, rfl, rfl, fun y hy => ⟨hy, fun _ => by
  obtain ⟨k, hk, e⟩ := List.mem_iff_getElem.1 hy
  exact ⟨k, Nat.zero_le _, by rw [gJ hk, e]⟩⟩⟩
 | m + 1, s, hk, h, c, hc => by
  obtain ⟨h1, _, _, h4, _, _⟩ := hk.iF h
  obtain ⟨d, hd, ha, hl⟩ := h
  obtain rfl : c = d := by rw [hc] at hd; exact gP hd
  have hil := (List.getElem?_eq_some_iff.1 hc).1
  have hx : c.sl[m]? = some (c.sl[m]'(by omega)) := gJ _
  by_cases hn : (c.sl[m]'(by omega)).n = c.r
  ·have he : (s.iF i m).cs[i]? = some { c with sl := c.sl.eraseIdx m } := by
    unfold Sy.iF
    rw [hc]
    simp only [hx]
    rw [if_pos hn]
    obtain ⟨_, _, he⟩ := mP hk (cpu := 0) hc hx
    rw [he]
    show (s.cs.set i _)[i]? = _
    rw [List.getElem?_set_self hil]
   obtain ⟨c', g1, g2, g3, g4, g5, g6⟩ := KO h1 h4 _ he
   refine ⟨c', g1, g2, g3, g4, g5, fun y hy => ?_⟩
   obtain ⟨q1, q2⟩ := g6 y hy
   refine ⟨(List.eraseIdx_sublist _ _).subset q1, fun e => ?_⟩
   obtain ⟨k, hk', e'⟩ := q2 e
   refine ⟨k + 1, by omega, ?_⟩
   have e'' : (c.sl.eraseIdx m)[k]? = some y := e'
   rw [List.getElem?_eraseIdx] at e''
   rw [if_neg (by omega)] at e''
   exact e''
  ·have he : s.iF i m = s := by
    unfold Sy.iF
    rw [hc]
    simp only [hx]
    rw [if_neg hn]
   obtain ⟨c', g1, g2, g3, g4, g5, g6⟩ := KO h1 h4 c (by rw [he]; exact hc)
   refine ⟨c', g1, g2, g3, g4, g5, fun y hy => ?_⟩
   obtain ⟨q1, q2⟩ := g6 y hy
   refine ⟨q1, fun e => ?_⟩
   obtain ⟨k, hk', e'⟩ := q2 e
   refine ⟨k, ?_, e'⟩
   rcases Nat.lt_or_ge m k with h | h
   ·omega
   ·exfalso
    obtain rfl : k = m := by omega
    rw [hx] at e'
    exact hn (by rw [gP e']; exact e)
theorem dM.Pm {s : Sy} (hk : dM s) {i : Nat} {c : Ca} (hc : s.cs[i]? = some c) : ∃ c', (s.shrink i).cs[i]? = some c' ∧ c'.ns = c.ns ∧ c'.z = c.z ∧ ∀ y ∈ c'.sl, y ∈ c.sl ∧ y.n ≠ c.r := by
 obtain ⟨h1, _, _, h4, _⟩ := hk.dD hc
 have hil := (List.getElem?_eq_some_iff.1 hc).1
 obtain ⟨c', g1, g2, g3, g4, g5, g6⟩ := KO h1 (hk.qO hc) { c with ac := List.replicate c.ac.length (-1) } (by rw [h4, List.getElem?_set_self hil])
 refine ⟨c', ?_, g2, g3, fun y hy => ?_⟩
 ·unfold Sy.shrink
  rw [hc]
  exact g1
 ·obtain ⟨q1, q2⟩ := g6 y hy
  refine ⟨q1, fun e => ?_⟩
  obtain ⟨k, hk', e'⟩ := q2 e
  have := (List.getElem?_eq_some_iff.1 e').1
  have h9 : k < c.sl.length := this
  omega
theorem dM.Iz {s : Sy} (hk : dM s) {i : Nat} {c : Ca} (hc : s.cs[i]? = some c) : c.sl.any (fun x => decide (x.n < c.r)) = true ↔ ∃ a, s.away i a := by
 have hck := hk.ck c (gM hc)
 rw [List.any_eq_true]
 constructor
 ·rintro ⟨x, hx, hn⟩
  obtain ⟨l, h1, h2, h3⟩ := (hck.sk x hx).chain
  obtain ⟨a, h4, h5⟩ := OQ (c := c) (p := x.p) (l := l) hck.z.1 (by have := of_decide_eq_true hn; omega)
  exact ⟨a, (lV hc a).2 ⟨x, hx, (lH h1 a).2 ⟨h4, h5⟩⟩⟩
 ·rintro ⟨a, ha⟩
  obtain ⟨x, hx, ho⟩ := (lV hc a).1 ha
  obtain ⟨l, h1, h2, h3⟩ := (hck.sk x hx).chain
  refine ⟨x, hx, decide_eq_true ?_⟩
  apply Decidable.byContradiction
  intro hn
  rw [lH h1] at ho
  exact ho.2 (Dp hck.z.1 (fV.1 h1).2.2.2 h3 (by omega) ho.1)
theorem xE (s : Sy) (n : List UInt8) : s.named n = s.nss.findIdx? (fun l => l.contains n) := by
 unfold Sy.named Sy.nss
 rw [List.findIdx?_map]
 rfl
end
end Go.Proofs.YtcmpmobhongkiaaGreatDoor
