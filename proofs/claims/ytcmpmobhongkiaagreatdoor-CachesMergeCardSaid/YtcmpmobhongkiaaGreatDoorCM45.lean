/- texts of this claim, joined. -/
import Derived.Test.YtcmpmobhongkiaaGreatDoorCM0
import Derived.Test.YtcmpmobhongkiaaGreatDoorCM42
set_option linter.unusedVariables false
set_option linter.unusedSimpArgs false
namespace Go.Proofs.YtcmpmobhongkiaaGreatDoor
section
def Sy.destroy (s : Sy) (i : Nat) (n : List UInt8) : Option Sy := match s.cs[i]? with
 | some c => if 1 < c.ns.length then some (s.dU i { c with ns := c.ns.eraseIdx (uH c.ns n) }) else if c.sl.any (fun x => decide (x.n < c.r)) then none else some { s.shrink i with cs := (s.shrink i).cs.eraseIdx i }
 | none => none
theorem fC.shr {i : Nat} : ∀ {m : Nat} {s : Sy}, fC s → Dj s i m → fC (s.shr i m) ∧ (∀ j b, (s.shr i m).away j b ↔ s.away j b) ∧ (s.shr i m).h.aF = s.h.aF ∧ (s.shr i m).cs.length = s.cs.length ∧ (s.shr i m).nss = s.nss
 | 0, s, hk, _ => ⟨hk, fun _ _ => Iff.rfl, rfl, rfl, rfl⟩
 | m + 1, s, hk, h => by
  obtain ⟨h1, h2, h3, h4, h5, h6⟩ := hk.mO h
  obtain ⟨g1, g2, g3, g5, g6⟩ := fC.shr h1 h4
  exact ⟨g1, fun j b => (g2 j b).trans (h2 j b), g3.trans h3, g5.trans h5, g6.trans h6⟩
theorem fC.shrink {s : Sy} (hk : fC s) {i : Nat} (hi : i < s.cs.length) : fC (s.shrink i) ∧ (∀ j b, (s.shrink i).away j b ↔ s.away j b) ∧ (s.shrink i).h.aF = s.h.aF ∧ (s.shrink i).cs.length = s.cs.length ∧ (s.shrink i).nss = s.nss := by
 have hc : s.cs[i]? = some s.cs[i] := gJ hi
 obtain ⟨h1, h2, h3, h4, h5⟩ := hk.dR hc
 unfold Sy.shrink
 rw [hc]
 simp only
 have hn : Dj (s.dR i s.cs[i].ac.length) i s.cs[i].sl.length := ⟨{ s.cs[i] with ac := List.replicate s.cs[i].ac.length (-1) }, by rw [h4, List.getElem?_set_self hi], fun b hb => (List.mem_replicate.1 hb).2, Nat.le_refl _⟩
 obtain ⟨g1, g2, g3, g4, g5⟩ := h1.shr hn
 refine ⟨g1, fun j b => (g2 j b).trans (h2 j b), by rw [g3, h3], by rw [g4, h4, List.length_set], g5.trans ?_⟩
 unfold Sy.nss
 rw [h4]
 exact kJ hc rfl
end
section
def Sy.whole (s : Sy) (b : Bk) : Prop := b ∈ s.h.live ∧ ∀ c ∈ s.cs, ∀ x ∈ c.sl, x.p ≠ b.a
theorem AA {α : Type} {l : List α} {i : Nat} {c c' d : α} (hi : l[i]? = some c) : d ∈ l.set i c' ↔ d = c' ∨ ∃ j, j ≠ i ∧ l[j]? = some d := by
 obtain ⟨hil, hic⟩ := List.getElem?_eq_some_iff.1 hi
 constructor
 ·intro h
  obtain ⟨j, hj, e⟩ := List.mem_iff_getElem.1 h
  rw [List.length_set] at hj
  rw [List.getElem_set] at e
  split at e
  ·exact .inl e.symm
  ·rename_i hne
   exact .inr ⟨j, fun e' => hne e'.symm, by rw [gJ hj, e]⟩
 ·rintro (rfl | ⟨j, hj, h⟩)
  ·exact List.mem_iff_getElem.2 ⟨i, by simpa using hil, by simp⟩
  ·obtain ⟨hjl, e⟩ := List.getElem?_eq_some_iff.1 h
   exact List.mem_iff_getElem.2 ⟨j, by simpa using hjl, by rw [List.getElem_set, if_neg fun e => hj e.symm, e]⟩
def Sy.XY (s : Sy) (p : Nat) : Prop := ∃ c ∈ s.cs, ∃ x ∈ c.sl, x.p = p
theorem lW {s : Sy} {b : Bk} : s.whole b ↔ b ∈ s.h.live ∧ ¬ s.XY b.a := by
 unfold Sy.whole Sy.XY
 constructor
 ·rintro ⟨h1, h2⟩
  exact ⟨h1, fun ⟨c, hc, x, hx, e⟩ => h2 c hc x hx e⟩
 ·rintro ⟨h1, h2⟩
  exact ⟨h1, fun c hc x hx e => h2 ⟨c, hc, x, hx, e⟩⟩
theorem EI {s s' : Sy} {i : Nat} {c c' : Ca} (hi : s.cs[i]? = some c) (hcs : s'.cs = s.cs.set i c') (p : Nat) : s'.XY p ↔ (∃ x ∈ c'.sl, x.p = p) ∨ ∃ j, j ≠ i ∧ ∃ d, s.cs[j]? = some d ∧ ∃ x ∈ d.sl, x.p = p := by
 unfold Sy.XY
 rw [hcs]
 constructor
 ·rintro ⟨d, hd, h⟩
  rcases (AA hi).1 hd with rfl | ⟨j, hj, hd⟩
  ·exact .inl h
  ·exact .inr ⟨j, hj, d, hd, h⟩
 ·rintro (h | ⟨j, hj, d, hd, h⟩)
  ·exact ⟨c', (AA hi).2 (.inl rfl), h⟩
  ·exact ⟨d, (AA hi).2 (.inr ⟨j, hj, hd⟩), h⟩
theorem RU {s : Sy} {i : Nat} {c : Ca} (hi : s.cs[i]? = some c) (p : Nat) : s.XY p ↔ (∃ x ∈ c.sl, x.p = p) ∨ ∃ j, j ≠ i ∧ ∃ d, s.cs[j]? = some d ∧ ∃ x ∈ d.sl, x.p = p := by
 refine EI (s' := s) hi ?_ p
 obtain ⟨hil, hic⟩ := List.getElem?_eq_some_iff.1 hi
 rw [← hic, List.set_getElem_self]
theorem Ig {s s' : Sy} {i : Nat} {c c' : Ca} (hi : s.cs[i]? = some c) (hcs : s'.cs = s.cs.set i c') (h : ∀ p, (∃ x ∈ c'.sl, x.p = p) ↔ ∃ x ∈ c.sl, x.p = p) (p : Nat) : s'.XY p ↔ s.XY p := by
 rw [EI hi hcs, RU hi, h]
theorem RV {l : List Sl} {k : Nat} {x x' : Sl} (hx : l[k]? = some x) (hp : x'.p = x.p) (p : Nat) : (∃ y ∈ l.set k x', y.p = p) ↔ ∃ y ∈ l, y.p = p := by
 obtain ⟨hkl, hkx⟩ := List.getElem?_eq_some_iff.1 hx
 rw [JO hkl, Df hkl, hkx, hp]
def Sy.lw (s : Sy) (q : Nat) : Prop := ∃ b ∈ s.h.live, 16 * b.a ≤ q ∧ q < 16 * (b.a + 2 ^ b.o)
theorem AB {s : Sy} {i k a : Nat} (b : Bk) : (s.push i k a).whole b ↔ s.whole b := by
 unfold Sy.push
 cases hc : s.cs[i]? with
 | none => rfl
 | some c =>
  simp only
  cases hx : c.sl[k]? with
  | none => rfl
  | some x =>
   simp only
   rw [lW, lW]
   have h1 := Ig (s' := { s with w := s.w.set a x.h, cs := s.cs.set i { c with sl := c.sl.set k ⟨x.p, x.n + 1, (a : Int)⟩ } }) hc rfl (RV (x' := ⟨x.p, x.n + 1, (a : Int)⟩) hx rfl) b.a
   rw [h1]
theorem XZ {s : Sy} {i k a : Nat} : (s.push i k a).h = s.h ∧ ∀ q, q ≠ a → (s.push i k a).w.getD q 0 = s.w.getD q 0 := by
 unfold Sy.push
 cases hc : s.cs[i]? with
 | none => exact ⟨rfl, fun _ _ => rfl⟩
 | some c =>
  simp only
  cases hx : c.sl[k]? with
  | none => exact ⟨rfl, fun _ _ => rfl⟩
  | some x =>
   refine ⟨rfl, fun q hq => ?_⟩
   show (s.w.set a x.h).getD q 0 = _
   rw [List.getD_eq_getElem?_getD, List.getElem?_set_ne (fun e => hq e.symm), ← List.getD_eq_getElem?_getD]
theorem fC.EJ {s : Sy} (hk : fC s) {i k cpu : Nat} {c : Ca} {x : Sl} (hi : s.cs[i]? = some c) (hx : c.sl[k]? = some x) (fH : cpu < s.h.aF) (b : Bk) : b ∈ (s.discard i k cpu).h.live ↔ b ∈ s.h.live ∧ b.a ≠ x.p := by
 obtain ⟨hlb, hlp, he⟩ := uD hk (cpu := cpu) hi hx
 obtain ⟨_, _, _, g4⟩ := hk.hk.gX fH hlb
 rw [he]
 show b ∈ (s.h.gX cpu (lb s.h.live x.p) s.h.live[lb s.h.live x.p]).live ↔ _
 rw [g4, List.mem_eraseIdx_iff_getElem]
 constructor
 ·rintro ⟨j, hj, hne, e⟩
  refine ⟨by rw [← e]; exact gL hj, fun e2 => hne ?_⟩
  have hvs := hk.hk.vs
  rw [gN] at hvs
  rcases Nat.lt_trichotomy j (lb s.h.live x.p) with h | h | h
  ·have := hvs j _ hj hlb h
   rw [e] at this
   omega
  ·exact h
  ·have := hvs _ j hlb hj h
   rw [e] at this
   omega
 ·rintro ⟨hb, hne⟩
  obtain ⟨j, hj, e⟩ := List.mem_iff_getElem.1 hb
  refine ⟨j, hj, fun e2 => ?_, e⟩
  subst e2
  rw [e] at hlp
  exact hne hlp
theorem fC.BF {s : Sy} (hk : fC s) {i k cpu : Nat} {c : Ca} {x : Sl} (hi : s.cs[i]? = some c) (hx : c.sl[k]? = some x) (fH : cpu < s.h.aF) (b : Bk) : (s.discard i k cpu).whole b ↔ s.whole b := by
 have hcs : (s.discard i k cpu).cs = s.cs.set i { c with sl := c.sl.eraseIdx k } := by
  obtain ⟨_, _, he⟩ := uD hk (cpu := cpu) hi hx
  rw [he]
 obtain ⟨hkl, hkx⟩ := List.getElem?_eq_some_iff.1 hx
 rw [lW, lW, hk.EJ hi hx fH, EI hi hcs, RU hi, Hr, Df hkl, hkx]
 constructor
 ·rintro ⟨⟨h1, h2⟩, h3⟩
  refine ⟨h1, fun h => h3 ?_⟩
  rcases h with (h | h) | h
  ·exact .inl h
  ·exact absurd h.symm h2
  ·exact .inr h
 ·rintro ⟨h1, h2⟩
  refine ⟨⟨h1, fun e => h2 (.inl (.inr e.symm))⟩, fun h => h2 ?_⟩
  rcases h with h | h
  ·exact .inl (.inl h)
  ·exact .inr h
theorem fC.free {s : Sy} (hk : fC s) {i k a cpu : Nat} {c : Ca} {x : Sl} (hi : s.cs[i]? = some c) (hx : c.sl[k]? = some x) (ho : lG s.w c x a) (fH : cpu < s.h.aF) :
  fC (s.free i k a cpu) ∧ (∀ j b, (s.free i k a cpu).away j b ↔ s.away j b ∧ ¬ (j = i ∧ b = a)) ∧ (s.free i k a cpu).h.aF = s.h.aF ∧ (∀ b, (s.free i k a cpu).whole b ↔ s.whole b) ∧ ∀ q, q ≠ a → (s.free i k a cpu).w.getD q 0 = s.w.getD q 0 := by
 obtain ⟨h1, h2, h3⟩ := hk.push hi hx ho
 have h4 := XZ (s := s) (i := i) (k := k) (a := a)
 obtain ⟨hkl, hkx⟩ := List.getElem?_eq_some_iff.1 hx
 have hx' : (c.sl.set k ⟨x.p, x.n + 1, (a : Int)⟩)[k]? = some ⟨x.p, x.n + 1, (a : Int)⟩ := List.getElem?_set_self hkl
 unfold Sy.free
 split
 ·rename_i hsp
  unfold Sy.spare at hsp
  rw [h3] at hsp
  unfold Ca.spare at hsp
  simp only [hx', Bool.and_eq_true] at hsp
  have hid := hsp.1
  unfold Ca.idle at hid
  simp only [Bool.and_eq_true, decide_eq_true_eq, Bool.not_eq_true'] at hid
  have hac : ∀ b ∈ c.ac, b ≠ (x.p : Int) := fun b hb e => by
   have h5 := hid.2
   rw [← e, List.contains_iff_mem.2 hb] at h5
   cases h5
  have VR : cpu < (s.push i k a).h.aF := by rw [h4.1]; exact fH
  obtain ⟨g1, g2, g3, g4, g5, g6⟩ := h1.discard (cpu := cpu) h3 hx' (Nat.le_of_eq hid.1.symm) hac VR
  exact ⟨g1, fun j b => (g2 j b).trans (h2 j b), by rw [g3, h4.1], fun b => (h1.BF h3 hx' VR b).trans (AB b), fun q hq => by rw [g6]; exact h4.2 q hq⟩
 ·exact ⟨h1, h2, by rw [h4.1], AB, h4.2⟩

theorem fC.RX {s : Sy} (hk : fC s) {i : Nat} {c : Ca} (hc : s.cs[i]? = some c) : c.sl.any (fun x => decide (x.n < c.r)) = true ↔ ∃ a, s.away i a := by
 have hck := hk.ck c (gM hc)
 rw [List.any_eq_true]
 constructor
 ·rintro ⟨x, hx, hn⟩
  obtain ⟨l, h1, h2, h3⟩ := (hck.sk x hx).chain
  obtain ⟨a, h4, h5⟩ := Oh (c := c) (p := x.p) (l := l) hck.z.1 (by have := of_decide_eq_true hn; omega)
  exact ⟨a, (kY hc a).2 ⟨x, hx, (lH h1 a).2 ⟨h4, h5⟩⟩⟩
 ·rintro ⟨a, ha⟩
  obtain ⟨x, hx, ho⟩ := (kY hc a).1 ha
  obtain ⟨l, h1, h2, h3⟩ := (hck.sk x hx).chain
  refine ⟨x, hx, decide_eq_true ?_⟩
  apply Decidable.byContradiction
  intro hn
  rw [lH h1] at ho
  exact ho.2 (Dc hck.z.1 (gW.1 h1).2.2.2 h3 (by omega) ho.1)
theorem rF (s : Sy) (n : List UInt8) : s.named n = s.nss.findIdx? (fun l => l.contains n) := by
 unfold Sy.named Sy.nss
 rw [List.findIdx?_map]
 rfl
end
end Go.Proofs.YtcmpmobhongkiaaGreatDoor
