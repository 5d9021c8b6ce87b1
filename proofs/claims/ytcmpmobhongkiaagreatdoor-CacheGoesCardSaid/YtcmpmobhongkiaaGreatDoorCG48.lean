/- texts of this claim, joined. -/
import Derived.Test.YtcmpmobhongkiaaGreatDoorCG0
import Derived.Test.YtcmpmobhongkiaaGreatDoorCG31
import Derived.Test.YtcmpmobhongkiaaGreatDoorCG38
import Derived.Test.YtcmpmobhongkiaaGreatDoorCG41
import Derived.Test.YtcmpmobhongkiaaGreatDoorCG45
set_option linter.unusedVariables false
set_option linter.unusedSimpArgs false
namespace Go.Proofs.YtcmpmobhongkiaaGreatDoor
section
theorem AQ {s : Sy} {i cpu k j : Nat} (hj : j ≠ i) : (s.mine i cpu k).cs[j]? = s.cs[j]? := by
 unfold Sy.mine
 cases hc : s.cs[i]? with
 | none => rfl
 | some c =>
  simp only
  cases hx : c.sl[k]? with
  | none => rfl
  | some x => exact List.getElem?_set_ne fun e => hj e.symm
theorem Pn {s t : Sy} {i cpu j : Nat} {a : Int} (hj : j ≠ i) (h : s.one i cpu = some (t, a)) : t.cs[j]? = s.cs[j]? := by
 unfold Sy.one at h
 cases hch : s.choose i cpu with
 | none => rw [hch] at h; cases h
 | some r =>
  obtain ⟨s2, k⟩ := r
  rw [hch] at h
  simp only at h
  obtain ⟨c, x, _, _, rfl, _⟩ := EI h
  have h1 : (s2.eU i { c with sl := c.sl.set k ⟨x.p, x.n - 1, s2.w.getD x.h.toNat 0⟩ }).cs[j]? = s2.cs[j]? := List.getElem?_set_ne fun e => hj e.symm
  rw [h1]
  unfold Sy.choose at hch
  cases hc : s.cs[i]? with
  | none => rw [hc] at hch; cases hch
  | some c0 =>
   rw [hc] at hch
   simp only at hch
   split at hch
   ·have h2 := gP hch
    rw [Prod.mk.injEq] at h2
    rw [← h2.1]
   ·split at hch
    ·have h2 := gP hch
     rw [Prod.mk.injEq] at h2
     rw [← h2.1]
     exact AQ hj
    ·split at hch
     ·rename_i heq
      have h2 := gP hch
      rw [Prod.mk.injEq] at h2
      rw [← h2.1, AQ hj]
      obtain ⟨_, _, _, rfl, _⟩ := xA heq
      exact List.getElem?_set_ne fun e => hj e.symm
     ·cases hch
theorem AU {s : Sy} {i cpu j : Nat} (hj : j ≠ i) : ∀ {n : Nat} {t : Sy} {l : List Int}, s.bulk i cpu n = some (t, l) → t.cs[j]? = s.cs[j]?
 | 0, t, l, h => by
  have h1 := gP h
  rw [Prod.mk.injEq] at h1
  rw [← h1.1]
 | n + 1, t, l, h => by
  unfold Sy.bulk at h
  cases hb : s.bulk i cpu n with
  | none => rw [hb] at h; cases h
  | some r =>
   obtain ⟨u, m⟩ := r
   rw [hb] at h
   simp only at h
   cases ho : u.one i cpu with
   | none => rw [ho] at h; cases h
   | some q =>
    obtain ⟨t', a⟩ := q
    rw [ho] at h
    have h1 := gP h
    rw [Prod.mk.injEq] at h1
    rw [← h1.1]
    exact (Pn hj ho).trans (AU hj hb)
theorem yG {s : Sy} {i k a j : Nat} (hj : j ≠ i) : (s.push i k a).cs[j]? = s.cs[j]? := by
 unfold Sy.push
 cases hc : s.cs[i]? with
 | none => rfl
 | some c =>
  simp only
  cases hx : c.sl[k]? with
  | none => rfl
  | some x => exact List.getElem?_set_ne fun e => hj e.symm
theorem BL {s : Sy} {i k cpu j : Nat} (hj : j ≠ i) : (s.discard i k cpu).cs[j]? = s.cs[j]? := by
 unfold Sy.discard
 cases hc : s.cs[i]? with
 | none => rfl
 | some c =>
  simp only
  cases hx : c.sl[k]? with
  | none => rfl
  | some x =>
   simp only
   cases hb : s.h.live[lb s.h.live x.p]? with
   | none => rfl
   | some b => exact List.getElem?_set_ne fun e => hj e.symm
theorem KQ {s : Sy} {i k a cpu j : Nat} (hj : j ≠ i) : (s.free i k a cpu).cs[j]? = s.cs[j]? := by
 unfold Sy.free
 split
 ·rw [BL hj, yG hj]
 ·exact yG hj
theorem dM.AV {s : Sy} (hk : dM s) {i cpu : Nat} (hi : i < s.cs.length) (dP : cpu < s.h.aF) : ∀ {n : Nat} {t : Sy} {l : List Int}, s.bulk i cpu n = some (t, l) → ∀ b, t.whole b ↔ s.whole b
 | 0, t, l, h => by
  have h1 := gP h
  rw [Prod.mk.injEq] at h1
  rw [← h1.1]
  exact fun _ => Iff.rfl
 | n + 1, t, l, h => by
  unfold Sy.bulk at h
  cases hb : s.bulk i cpu n with
  | none => rw [hb] at h; cases h
  | some r =>
   obtain ⟨u, m⟩ := r
   rw [hb] at h
   simp only at h
   obtain ⟨h1, h2, h3, _⟩ := hk.qY hi dP hb
   cases ho : u.one i cpu with
   | none => rw [ho] at h; cases h
   | some q =>
    obtain ⟨t', a⟩ := q
    rw [ho] at h
    have h8 := gP h
    rw [Prod.mk.injEq] at h8
    rw [← h8.1]
    have hiu : u.cs[i]? = some (u.cs[i]'(by rw [h3]; exact hi)) := gJ _
    exact fun b => ((h1.Pj hiu (by rw [h2]; exact dP) ho).1 b).trans (hk.AV hi dP hb b)
def TI (h : Hp) (cpu o : Nat) : Nat → Option Hp
 | 0 => some h
 | m + 1 => match TI h cpu o m with
  | some h1 => match h1.alloc cpu o 0 false false with
   | some (h2, _) => some h2
   | none => none
  | none => none
theorem TJ {h : Hp} {cpu o : Nat} : ∀ {m : Nat}, (TI h cpu o m).isSome = true → ∀ j, j ≤ m → (TI h cpu o j).isSome = true
 | 0, hm, j, hj => by
  obtain rfl : j = 0 := by omega
  exact hm
 | m + 1, hm, j, hj => by
  by_cases e : j = m + 1
  ·rw [e]; exact hm
  ·refine TJ (m := m) ?_ j (by omega)
   unfold TI at hm
   cases hq : TI h cpu o m with
   | none => rw [hq] at hm; cases hm
   | some g => rfl
def Ca.left (c : Ca) : Nat := (c.sl.map (·.n)).sum
theorem IB {x x' : Sl} : ∀ {l : List Sl} {k : Nat}, l[k]? = some x → 0 < x.n → x'.n = x.n - 1 → ((l.set k x').map (·.n)).sum + 1 = (l.map (·.n)).sum
 | [], k, h, _, _ => by simp at h
 | y :: l, 0, h, h1, h2 => by
  obtain rfl : y = x := by simpa using h
  simp only [gG, List.map_cons, List.sum_cons]
  omega
 | y :: l, k + 1, h, h1, h2 => by
  have ih := IB (l := l) (k := k) (by simpa using h) h1 h2
  simp only [gH, List.map_cons, List.sum_cons]
  omega
theorem TK (l : List Sl) (x : Sl) : ((jH l x).map (·.n)).sum = x.n + (l.map (·.n)).sum := by
 unfold jH
 conv => rhs; arg 2; rw [← List.take_append_drop (EP l x.p) l]
 simp only [List.map_append, List.map_cons, List.sum_append, List.sum_cons]
 omega
theorem IC : ∀ {l : List Sl}, (∀ x ∈ l, x.n = 0) → (l.map (·.n)).sum = 0
 | [], _ => rfl
 | y :: l, h => by
  have h1 := IC (l := l) fun x hx => h x (List.mem_cons_of_mem _ hx)
  have h2 := h y List.mem_cons_self
  simp only [List.map_cons, List.sum_cons]
  omega
def Gr (s : Sy) (h0 : Hp) (i cpu z j m : Nat) : Prop := ∃ c, s.cs[i]? = some c ∧ c.z = z ∧ c.sl.length = m ∧ c.left + j = m * c.r ∧ TI h0 cpu (dR z) m = some s.h ∧ ∀ k, k ≠ cpu → c.ac.getD k (-1) = -1
theorem KU {s : Sy} {h0 : Hp} {i cpu z j m k : Nat} {c : Ca} {x : Sl} (hg : Gr s h0 i cpu z j m) (hc : s.cs[i]? = some c) (hx : c.sl[k]? = some x) (hn : 0 < x.n) : ∃ t a, s.pop i k = some (t, a) ∧ Gr t h0 i cpu z (j + 1) m := by
 obtain ⟨t, a, h⟩ := pop_some hc hx
 refine ⟨t, a, h, ?_⟩
 obtain ⟨c1, x1, h1, h2, rfl, _⟩ := EI h
 obtain rfl : c = c1 := by rw [hc] at h1; exact gP h1
 obtain rfl : x = x1 := by rw [hx] at h2; exact gP h2
 obtain ⟨c2, g1, g2, g3, g4, g5, g6⟩ := hg
 obtain rfl : c = c2 := by rw [hc] at g1; exact gP g1
 have hil := (List.getElem?_eq_some_iff.1 hc).1
 refine ⟨{ c with sl := c.sl.set k ⟨x.p, x.n - 1, s.w.getD x.h.toNat 0⟩ }, ?_, g2, ?_, ?_, g5, g6⟩
 ·show (s.cs.set i _)[i]? = _
  rw [List.getElem?_set_self hil]
 ·show (c.sl.set k _).length = m
  rw [List.length_set]
  exact g3
 ·have h3 := IB (x' := ⟨x.p, x.n - 1, s.w.getD x.h.toNat 0⟩) hx hn rfl
  unfold Ca.left at g4 ⊢
  show ((c.sl.set k ⟨x.p, x.n - 1, s.w.getD x.h.toNat 0⟩).map (·.n)).sum + (j + 1) = m * c.r
  omega
theorem EN {s : Sy} {i cpu k : Nat} {c : Ca} {x : Sl} (hc : s.cs[i]? = some c) (hx : c.sl[k]? = some x) : (s.mine i cpu k).cs[i]? = some { c with ac := c.ac.set cpu (x.p : Int) } := by
 have hil := (List.getElem?_eq_some_iff.1 hc).1
 unfold Sy.mine
 rw [hc]
 simp only [hx]
 show (s.cs.set i _)[i]? = _
 rw [List.getElem?_set_self hil]
theorem getD_set_ne {l : List Int} {i j : Nat} {u d : Int} (h : j ≠ i) : (l.set i u).getD j d = l.getD j d := by
 rw [List.getD_eq_getElem?_getD, List.getElem?_set_ne (fun e => h e.symm), ← List.getD_eq_getElem?_getD]
theorem MX {s : Sy} {h0 : Hp} {i cpu z j m k : Nat} {c : Ca} {x : Sl} (hg : Gr s h0 i cpu z j m) (hc : s.cs[i]? = some c) (hx : c.sl[k]? = some x) : Gr (s.mine i cpu k) h0 i cpu z j m := by
 obtain ⟨c2, g1, g2, g3, g4, g5, g6⟩ := hg
 obtain rfl : c = c2 := by rw [hc] at g1; exact gP g1
 refine ⟨_, EN hc hx, g2, g3, g4, ?_, fun q hq => ?_⟩
 ·rw [qZ.1]
  exact g5
 ·show (c.ac.set cpu (x.p : Int)).getD q (-1) = -1
  rw [getD_set_ne hq]
  exact g6 q hq
theorem KW {s : Sy} (hk : dM s) {i cpu : Nat} {c : Ca} (hc : s.cs[i]? = some c) (h : ∀ k, k ≠ cpu → c.ac.getD k (-1) = -1) (h1 : c.own cpu = none) (h2 : c.nobody = none) : ∀ x ∈ c.sl, x.n = 0 := fun x hx => by
 apply Decidable.byContradiction
 intro hn
 have hsr := (hk.ck c (gM hc)).sr
 unfold Ca.nobody at h2
 rw [List.findIdx?_eq_none_iff] at h2
 have h3 := h2 x hx
 simp only [Bool.and_eq_false_iff, decide_eq_false_iff_not, Bool.not_eq_false'] at h3
 rcases h3 with h3 | h3
 ·omega
 ·obtain ⟨q, hq, e⟩ := List.mem_iff_getElem.1 (List.contains_iff_mem.1 h3)
  have h4 : c.ac.getD q (-1) = (x.p : Int) := by
   rw [List.getD_eq_getElem?_getD, gJ hq]
   exact e
  obtain rfl : q = cpu := Decidable.byContradiction fun hne => by
   have := h q hne
   omega
  unfold Ca.own Ca.find at h1
  rw [h4] at h1
  cases hf : c.sl.findIdx? (fun y => decide ((y.p : Int) = (x.p : Int))) with
  | none =>
   rw [List.findIdx?_eq_none_iff] at hf
   have := hf x hx
   simp at this
  | some k =>
   rw [hf] at h1
   rw [List.findIdx?_eq_some_iff_getElem] at hf
   obtain ⟨hkl, hkp, _⟩ := hf
   obtain ⟨k', hk', e'⟩ := List.mem_iff_getElem.1 hx
   have h5 : k = k' := Yv hsr hkl hk' (by have := of_decide_eq_true hkp; rw [e']; omega)
   subst h5
   simp only [gJ hkl, e'] at h1
   rw [if_pos (by omega)] at h1
   cases h1
theorem YN {s : Sy} (hk : dM s) {h0 : Hp} {i cpu z j m : Nat} (hg : Gr s h0 i cpu z j m) (ha : m * dW z = j → (TI h0 cpu (dR z) (m + 1)).isSome = true) :
  ∃ t a m', s.one i cpu = some (t, a) ∧ Gr t h0 i cpu z (j + 1) m' ∧ (m' = m ∨ (m' = m + 1 ∧ m * dW z = j)) := by
 obtain ⟨c, g1, g2, g3, g4, g5, g6⟩ := id hg
 have hck := hk.ck c (gM g1)
 have hil := (List.getElem?_eq_some_iff.1 g1).1
 have hcr : c.r = dW z := by rw [hck.r, g2]
 have hco : c.o = dR z := by rw [hck.o, g2]
 cases hown : c.own cpu with
 | some k =>
  obtain ⟨_, hkl, hn⟩ := GK rfl hown
  obtain ⟨t, a, h1, h2⟩ := KU hg g1 (gJ hkl) hn
  refine ⟨t, a, m, ?_, h2, .inl rfl⟩
  unfold Sy.one Sy.choose
  rw [g1]
  simp only [hown]
  exact h1
 | none =>
  cases nK : c.nobody with
  | some k =>
   have hnb := nK
   unfold Ca.nobody at hnb
   rw [List.findIdx?_eq_some_iff_getElem] at hnb
   obtain ⟨hkl, hkp, _⟩ := hnb
   simp only [Bool.and_eq_true, decide_eq_true_eq] at hkp
   have hx : c.sl[k]? = some c.sl[k] := gJ hkl
   obtain ⟨t, a, h1, h2⟩ := KU (MX (cpu := cpu) hg g1 hx) (EN g1 hx) (x := c.sl[k]) hx hkp.1
   refine ⟨t, a, m, ?_, h2, .inl rfl⟩
   unfold Sy.one Sy.choose
   rw [g1]
   simp only [hown, nK]
   exact h1
  | none =>
   have hz := KW hk g1 g6 hown nK
   have h0' := IC hz
   have hmj : m * dW z = j := by
    unfold Ca.left at g4
    rw [hcr] at g4
    omega
   have hal := ha hmj
   unfold TI at hal
   rw [g5] at hal
   simp only at hal
   cases hq : s.h.alloc cpu (dR z) 0 false false with
   | none => rw [hq] at hal; cases hal
   | some r =>
    obtain ⟨h', p⟩ := r
    have hgr : s.grow i cpu c = some ({ w := chainTo s.w (16 * p) c.z c.r c.r, h := h', cs := s.cs.set i { c with sl := jH c.sl ⟨p, c.r, ((16 * p : Nat) : Int)⟩ } }, EP c.sl p) := by
     unfold Sy.grow
     rw [hco, hq]
    have hG : Gr ({ w := chainTo s.w (16 * p) c.z c.r c.r, h := h', cs := s.cs.set i { c with sl := jH c.sl ⟨p, c.r, ((16 * p : Nat) : Int)⟩ } } : Sy) h0 i cpu z j (m + 1) := by
     refine ⟨{ c with sl := jH c.sl ⟨p, c.r, ((16 * p : Nat) : Int)⟩ }, List.getElem?_set_self hil, g2, ?_, ?_, ?_, g6⟩
     ·show (jH c.sl _).length = m + 1
      rw [(GR _ _).1, g3]
     ·show ((jH c.sl ⟨p, c.r, ((16 * p : Nat) : Int)⟩).map (·.n)).sum + j = (m + 1) * c.r
      have e1 := TK c.sl ⟨p, c.r, ((16 * p : Nat) : Int)⟩
      have e2 : (m + 1) * c.r = m * c.r + c.r := Nat.succ_mul m c.r
      have e3 : m * c.r = j := by rw [hcr]; exact hmj
      simp only at e1
      rw [e1, h0', e2, e3]
      omega
     ·unfold TI
      rw [g5]
      simp only [hq]
    have hcg : ({ w := chainTo s.w (16 * p) c.z c.r c.r, h := h', cs := s.cs.set i { c with sl := jH c.sl ⟨p, c.r, ((16 * p : Nat) : Int)⟩ } } : Sy).cs[i]? = some { c with sl := jH c.sl ⟨p, c.r, ((16 * p : Nat) : Int)⟩ } := List.getElem?_set_self hil
    have hxg : ({ c with sl := jH c.sl ⟨p, c.r, ((16 * p : Nat) : Int)⟩ } : Ca).sl[EP c.sl p]? = some ⟨p, c.r, ((16 * p : Nat) : Int)⟩ := GX _ _
    have hr1 : 0 < c.r := by rw [hck.r]; exact Ah hck.z
    obtain ⟨t, a, h1, h2⟩ := KU (MX (cpu := cpu) hG hcg hxg) (EN hcg hxg) (x := ⟨p, c.r, ((16 * p : Nat) : Int)⟩) hxg hr1
    refine ⟨t, a, m + 1, ?_, h2, .inr ⟨rfl, hmj⟩⟩
    unfold Sy.one Sy.choose
    rw [g1]
    simp only [hown, nK, hgr]
    exact h1
theorem MZ {s : Sy} (hk : dM s) {h0 : Hp} {i cpu z : Nat} (dP : cpu < s.h.aF) (hg : Gr s h0 i cpu z 0 0) (hr : 4 ≤ dW z) (ha : (TI h0 cpu (dR z) 10).isSome = true) : ∀ j, j ≤ 40 → ∃ t l m, s.bulk i cpu j = some (t, l) ∧ Gr t h0 i cpu z j m ∧ m * dW z < j + dW z
 | 0, _ => ⟨s, [], 0, rfl, hg, by omega⟩
 | j + 1, hj => by
  obtain ⟨t, l, m, h1, h2, h3⟩ := MZ hk dP hg hr ha j (by omega)
  have hil : i < s.cs.length := by
   obtain ⟨c, hc, _⟩ := hg
   exact (List.getElem?_eq_some_iff.1 hc).1
  obtain ⟨hkt, _⟩ := hk.qY hil dP h1
  obtain ⟨t', a, m', h4, h5, h6⟩ := YN hkt h2 fun e => TJ ha (m + 1) (by
   have : m * 4 ≤ m * dW z := Nat.mul_le_mul_left _ hr
   omega)
  refine ⟨t', l ++ [a], m', Df h1 h4, h5, ?_⟩
  rcases h6 with rfl | ⟨rfl, e⟩
  ·omega
  ·rw [Nat.add_mul]
   omega

theorem AX {α β : Type} (f : α → β) : ∀ (l : List α) (i : Nat), (l.eraseIdx i).map f = (l.map f).eraseIdx i
 | [], _ => rfl
 | _ :: _, 0 => rfl
 | a :: l, i + 1 => by simp only [List.eraseIdx_cons_succ, List.map_cons, AX f l i]
def bt200 : Bt := ⟨[⟨0, 200⟩], []⟩
theorem AY : dU bt200.m = true ∧ dU (iT bt200) = true := by decide +kernel
def yH : Hp := newH (iT bt200) 64 0 2
theorem KY : ∀ o ∈ [0, 1], (TI yH 1 o 10).isSome = true := by decide +kernel
def xG (h : Hp) (z : Nat) : Sy := { fA h 6 with cs := (fA h 6).cs ++ [⟨[[120, 97]], z, dW z, dR z, [], List.replicate h.aF (-1)⟩] }
theorem yI (h : Hp) {z : Nat} (hz : z = 3 ∨ z = 5 ∨ z = 7) : (fA h 6).create [120, 97] z = some (xG h z) := by
 rcases hz with rfl | rfl | rfl <;> rfl
theorem AZ (h : Hp) (z : Nat) : (xG h z).named [120, 97] = some 6 := rfl
theorem Na {h : Hp} (hk : dX h) {z : Nat} (hz : z = 3 ∨ z = 5 ∨ z = 7) : dM (xG h z) := ((AP hk 6 (Nat.le_refl _)).create (n := [120, 97]) (z := z) (by decide) (by omega) (Dy h) (yI h hz)).1
theorem o8 (h : Hp) (z : Nat) : ∀ c ∈ (xG h z).cs, c.ns.length ≤ 1000 := fun c hc => by
 rcases List.mem_append.1 hc with h1 | h1
 ·unfold fA at h1
  obtain ⟨k, _, rfl⟩ := List.mem_map.1 h1
  show [kN k].length ≤ 1000
  simp
 ·obtain rfl := List.mem_singleton.1 h1
  show [[120, 97]].length ≤ 1000
  decide
theorem Nb (h : Hp) (z : Nat) : ∀ c ∈ (xG h z).cs, c.sl = [] := fun c hc => by
 rcases List.mem_append.1 hc with h1 | h1
 ·unfold fA at h1
  obtain ⟨k, _, rfl⟩ := List.mem_map.1 h1
  rfl
 ·obtain rfl := List.mem_singleton.1 h1
  rfl
structure Go6 (t : Sy) (z : Nat) (l : List Int) : Prop where
 ok : dM t
 ns : t.nss = (xG yH z).nss
 cp : t.h.aF = 2
 aw : ∀ b, t.away 6 b ↔ b ∈ l
 nd : l.Nodup
 wh : ∀ b, ¬ t.whole b
 ot : ∀ j, j ≠ 6 → ∀ c, t.cs[j]? = some c → c.sl = []
theorem La : dX yH := (MR AY.2 (by decide) (by decide) (by decide) (by decide)).1
theorem VI {z k : Nat} (hz : z = 3 ∨ z = 5 ∨ z = 7) (hk : k ≤ 40) : ∃ t l, (xG yH z).bulk 6 1 k = some (t, l) ∧ l.length = k ∧ Go6 t z l := by
 have h0 := Na La hz
 have hg : Gr (xG yH z) yH 6 1 z 0 0 := ⟨_, rfl, rfl, rfl, by rw [Nat.zero_mul]; rfl, rfl, fun q hq => by
  show (List.replicate 2 (-1 : Int)).getD q (-1) = -1
  match q with
  | 0 => rfl
  | 1 => rfl
  | q + 2 => rfl⟩
 obtain ⟨t, l, m, h1, _⟩ := MZ h0 (show 1 < 2 by decide) hg (by rcases hz with rfl | rfl | rfl <;> decide) (by
  rcases hz with rfl | rfl | rfl
  ·exact KY 0 (by simp)
  ·exact KY 1 (by simp)
  ·exact KY 1 (by simp)) k hk
 obtain ⟨g1, g2, g3, g4, g5, g6, g7⟩ := h0.qY (by show 6 < 7; decide) (show 1 < 2 by decide) h1
 have hno : ∀ j b, ¬ (xG yH z).away j b := fun j b ⟨c, hc, x, hx, _⟩ => by
  rw [Nb yH z c (gM hc)] at hx
  cases hx
 refine ⟨t, l, h1, g4, g1, SQ h1, g2, fun b => ?_, g5, fun b hb => ?_, fun j hj c hc => ?_⟩
 ·rw [g7]
  constructor
  ·rintro (h | ⟨_, h⟩)
   ·exact absurd h (hno _ _)
   ·exact h
  ·exact fun h => .inr ⟨rfl, h⟩
 ·have h2 := (h0.AV (by show 6 < 7; decide) (show 1 < 2 by decide) h1 b).1 hb
  cases h2.1
 ·rw [AU hj h1] at hc
  exact Nb yH z c (gM hc)
theorem Go6.step {t : Sy} {z : Nat} {a : Int} {l : List Int} (h : Go6 t z (a :: l)) : ∃ c k x, t.cs[6]? = some c ∧ c.sl[k]? = some x ∧ lG t.w c x a ∧ 0 ≤ a ∧ Go6 (t.free 6 k a.toNat 0) z l := by
 obtain ⟨c, hc, x, hx, ho⟩ := (h.aw a).2 (by simp)
 obtain ⟨k, hkl, e⟩ := List.mem_iff_getElem.1 hx
 have hxk : c.sl[k]? = some x := by rw [gJ hkl, e]
 have ha : 0 ≤ a := by
  have := (qW ho.1).1
  omega
 have hat : ((a.toNat : Nat) : Int) = a := Int.toNat_of_nonneg ha
 have ho' : lG t.w c x (a.toNat : Nat) := by rw [hat]; exact ho
 have hcp : 0 < t.h.aF := by rw [h.cp]; decide
 obtain ⟨g1, g2, g3, g4, _⟩ := h.ok.free hc hxk ho' hcp
 refine ⟨c, k, x, hc, hxk, ho, ha, g1, (Tj).trans h.ns, by rw [g3]; exact h.cp, fun b => ?_, (List.nodup_cons.1 h.nd).2, fun b hb => h.wh b ((g4 b).1 hb), fun j hj d hd => ?_⟩
 ·rw [g2, h.aw, hat]
  constructor
  ·rintro ⟨h1, h2⟩
   rcases List.mem_cons.1 h1 with rfl | h1
   ·exact absurd ⟨rfl, rfl⟩ h2
   ·exact h1
  ·intro h1
   refine ⟨List.mem_cons_of_mem _ h1, fun h2 => ?_⟩
   rw [h2.2] at h1
   exact (List.nodup_cons.1 h.nd).1 h1
 ·rw [KQ hj] at hd
  exact h.ot j hj d hd
theorem Go6.at {t : Sy} {z : Nat} {l : List Int} (h : Go6 t z l) : ∃ c, t.cs[6]? = some c ∧ c.ns = [[120, 97]] ∧ t.cs.length = 7 ∧ t.named [120, 97] = some 6 := by
 have h1 := h.ns
 have h2 : t.cs.length = 7 := by
  have := congrArg List.length h1
  unfold Sy.nss at this
  rw [List.length_map, List.length_map] at this
  exact this
 have h3 : t.cs[6]? = some (t.cs[6]'(by omega)) := gJ _
 refine ⟨_, h3, ?_, h2, ?_⟩
 ·have h4 := congrArg (·[6]?) h1
  unfold Sy.nss at h4
  simp only [List.getElem?_map, h3, Option.map_some] at h4
  have h5 : ((xG yH z).cs[6]?).map (·.ns) = some [[120, 97]] := rfl
  rw [h5] at h4
  exact gP h4
 ·rw [xE, h1, ← xE]
  exact AZ yH z
theorem Go6.busy {t : Sy} {z : Nat} {a : Int} {l : List Int} (h : Go6 t z (a :: l)) : t.destroy 6 [120, 97] = none := by
 obtain ⟨c, hc, hn, _, _⟩ := h.at
 unfold Sy.destroy
 rw [hc]
 simp only
 rw [if_neg (by rw [hn]; decide), if_pos ((h.ok.Iz hc).2 ⟨a, (h.aw a).2 (by simp)⟩)]
theorem Go6.gone {t : Sy} {z : Nat} (h : Go6 t z []) : ∃ t', t.destroy 6 [120, 97] = some t' ∧ dM t' ∧ t'.h.live = [] ∧ t'.named [120, 97] = none ∧ t'.h.aF = 2 ∧ ∀ c ∈ t'.cs, c.ns.length ≤ 1000 := by
 obtain ⟨c, hc, hn, hl, _⟩ := h.at
 have hil : 6 < t.cs.length := by omega
 have hnb : ¬ c.sl.any (fun x => decide (x.n < c.r)) = true := fun e => by
  obtain ⟨a, ha⟩ := (h.ok.Iz hc).1 e
  have := (h.aw a).1 ha
  simp at this
 obtain ⟨h1, h2, h3, h4, h5⟩ := h.ok.shrink hil
 obtain ⟨c', q1, q2, q3, q4⟩ := h.ok.Pm hc
 have hsl : c'.sl = [] := by
  cases e : c'.sl with
  | nil => rfl
  | cons y m =>
   exfalso
   obtain ⟨y1, y2⟩ := q4 y (by rw [e]; simp)
   have y3 := ((h.ok.ck c (gM hc)).sk y y1).Gv
   exact hnb (List.any_eq_true.2 ⟨y, y1, decide_eq_true (by omega)⟩)
 have hlive : (t.shrink 6).h.live = [] := by
  cases e : (t.shrink 6).h.live with
  | nil => rfl
  | cons b m =>
   exfalso
   have hb : b ∈ (t.shrink 6).h.live := by rw [e]; simp
   have hw : ¬ (t.shrink 6).whole b := fun hw => h.wh b (((h.ok.EL hil).1 b).1 hw)
   rw [fC] at hw
   apply hw
   refine ⟨hb, fun ⟨d, hd, x, hx, _⟩ => ?_⟩
   obtain ⟨j, hj, ed⟩ := List.mem_iff_getElem.1 hd
   by_cases hj6 : j = 6
   ·subst hj6
    rw [gJ hj, ed] at q1
    obtain rfl := gP q1
    rw [hsl] at hx
    cases hx
   ·have h6 := h.ok.EM hil j hj6
    rw [gJ hj, ed] at h6
    rw [h.ot j hj6 d h6.symm] at hx
    cases hx
 have hdes : t.destroy 6 [120, 97] = some { t.shrink 6 with cs := (t.shrink 6).cs.eraseIdx 6 } := by
  unfold Sy.destroy
  rw [hc]
  simp only
  rw [if_neg (by rw [hn]; decide), if_neg hnb]
 have aB9 : ({ t.shrink 6 with cs := (t.shrink 6).cs.eraseIdx 6 } : Sy).nss = (fA yH 6).nss := by
  show ((t.shrink 6).cs.eraseIdx 6).map (·.ns) = _
  rw [AX]
  have h6 : (t.shrink 6).cs.map (·.ns) = (xG yH z).nss := h5.trans h.ns
  rw [h6]
  rfl
 have hok : dM ({ t.shrink 6 with cs := (t.shrink 6).cs.eraseIdx 6 } : Sy) := by
  have hsub : ((t.shrink 6).cs.eraseIdx 6).Sublist (t.shrink 6).cs := List.eraseIdx_sublist _ _
  refine ⟨h1.wl, h1.hk, gQ hsub.length_le h1.cl, fun d hd => ?_, h1.zd.sublist hsub, h1.nd.sublist hsub, h1.pd.sublist hsub⟩
  exact (h1.ck d (hsub.subset hd)).move rfl fun y hy => ⟨((h1.ck d (hsub.subset hd)).sk y hy).live, ((h1.ck d (hsub.subset hd)).sk y hy).chain⟩
 refine ⟨_, hdes, hok, hlive, ?_, by show (t.shrink 6).h.aF = 2; rw [h3]; exact h.cp, lW aB9 fun c hc => by
  unfold fA at hc
  obtain ⟨k, _, rfl⟩ := List.mem_map.1 hc
  show [kN k].length ≤ 1000
  simp⟩
 rw [xE, aB9]
 rfl
end
section
open Go.RowKit
section
variable {w W W' : World} {G B T U : Nat} {X : Nat → Prop} {s s2 : Sy} {v v2 : Sc} {E : Array Value}
theorem SR.put7 (hs : SR W G X s v) (hT : X T) (v2 : Sc) (s2 : Sy) : SR (((((((W.setCell ⟨T, 0, none⟩ (.slice v2.a1 v2.n1 v2.c1)).setCell ⟨T, 1, none⟩ (.slice v2.hc.az 2 v2.hc.cz)).setCell ⟨T, 2, none⟩ (.slice v2.hc.am 2 v2.hc.cm)).setCell ⟨T, 3, none⟩ (.int .i64 (s2.h.aF : Int))).setCell ⟨T, 4, none⟩ (.slice v2.hc.al v2.hc.lc.length v2.hc.cl)).setCell ⟨T, 5, none⟩ (.slice v2.hc.av s2.h.live.length v2.hc.cv)).setCell ⟨T, 6, none⟩ (.slice v2.a2 v2.ys.length v2.c2)) G X s v :=
 SR.dQ (SR.dQ (SR.dQ (SR.dQ (SR.dQ (SR.dQ (SR.dQ hs hT 0 _) hT 1 _) hT 2 _) hT 3 _) hT 4 _) hT 5 _) hT 6 _
theorem tV {b : Nat} (hb : Below b w W) (hT : b ≤ T) (v2 : Sc) (s2 : Sy) : Below b w (((((((W.setCell ⟨T, 0, none⟩ (.slice v2.a1 v2.n1 v2.c1)).setCell ⟨T, 1, none⟩ (.slice v2.hc.az 2 v2.hc.cz)).setCell ⟨T, 2, none⟩ (.slice v2.hc.am 2 v2.hc.cm)).setCell ⟨T, 3, none⟩ (.int .i64 (s2.h.aF : Int))).setCell ⟨T, 4, none⟩ (.slice v2.hc.al v2.hc.lc.length v2.hc.cl)).setCell ⟨T, 5, none⟩ (.slice v2.hc.av s2.h.live.length v2.hc.cv)).setCell ⟨T, 6, none⟩ (.slice v2.a2 v2.ys.length v2.c2)) :=
 Below.setCell (Below.setCell (Below.setCell (Below.setCell (Below.setCell (Below.setCell (Below.setCell hb (show b ≤ (⟨T, 0, none⟩ : Addr).block from hT) _) (show b ≤ (⟨T, 1, none⟩ : Addr).block from hT) _) (show b ≤ (⟨T, 2, none⟩ : Addr).block from hT) _) (show b ≤ (⟨T, 3, none⟩ : Addr).block from hT) _) (show b ≤ (⟨T, 4, none⟩ : Addr).block from hT) _) (show b ≤ (⟨T, 5, none⟩ : Addr).block from hT) _) (show b ≤ (⟨T, 6, none⟩ : Addr).block from hT) _
theorem jY.put7 (hn : jY W B s v) (hT : T < B) (hB : G < B) : jY (((((((W.setCell ⟨T, 0, none⟩ (.slice v.a1 v.n1 v.c1)).setCell ⟨T, 1, none⟩ (.slice v.hc.az 2 v.hc.cz)).setCell ⟨T, 2, none⟩ (.slice v.hc.am 2 v.hc.cm)).setCell ⟨T, 3, none⟩ (.int .i64 (s.h.aF : Int))).setCell ⟨T, 4, none⟩ (.slice v.hc.al v.hc.lc.length v.hc.cl)).setCell ⟨T, 5, none⟩ (.slice v.hc.av s.h.live.length v.hc.cv)).setCell ⟨T, 6, none⟩ (.slice v.a2 v.ys.length v.c2)) G s v :=
 (SR.put7 (X := fun k => k < B) hn hT v s).toX hB (fun k hk => Nat.lt_trans hk hB) (Nat.lt_irrefl _)
end
end
section
open Go.RowKit
section
variable {w W W' : World} {G B T U Bn : Nat} {X Y : Nat → Prop} {s s2 : Sy} {v v2 : Sc} {E : Array Value}
theorem SR.ge (hn : jY W Bn s v) : (∀ r ∈ v.rows s, ∀ g, r.v.ownBlock = some g → Bn ≤ g) ∧ ∀ q ∈ v.hc.rows s.h ++ v.hc.reads s.h, ∀ g, q.v.ownBlock = some g → Bn ≤ g := by
 refine ⟨fun r hr g hg => Nat.le_of_not_lt fun h => (hn.og r hr g hg).2 h, fun q hq g hg => Nat.le_of_not_lt fun h => ?_⟩
 rcases List.mem_append.1 hq with hq | hq
 ·exact (hn.hr.og q hq g hg).2 h
 ·exact hn.hr.rx q hq g hg h
theorem SR.box (hn : SR W G X s v) (hY : ∀ k, Y k → X k ∧ k < W.heap.size) : SS (W.alloc (.cells #[.slice v.a1 v.n1 v.c1, .slice v.hc.az 2 v.hc.cz, .slice v.hc.am 2 v.hc.cm, .int .i64 (s.h.aF : Int), .slice v.hc.al v.hc.lc.length v.hc.cl, .slice v.hc.av s.h.live.length v.hc.cv, .slice v.a2 v.ys.length v.c2] 47)) W.heap.size Y s v := by
 have hb := aC W (.cells #[.slice v.a1 v.n1 v.c1, .slice v.hc.az 2 v.hc.cz, .slice v.hc.am 2 v.hc.cm, .int .i64 (s.h.aF : Int), .slice v.hc.al v.hc.lc.length v.hc.cl, .slice v.hc.av s.h.live.length v.hc.cv, .slice v.a2 v.ys.length v.c2] 47)
 have h1 := hn.below hb
 have hsz : W.heap.size < (W.alloc (.cells #[.slice v.a1 v.n1 v.c1, .slice v.hc.az 2 v.hc.cz, .slice v.hc.am 2 v.hc.cm, .int .i64 (s.h.aF : Int), .slice v.hc.al v.hc.lc.length v.hc.cl, .slice v.hc.av s.h.live.length v.hc.cv, .slice v.a2 v.ys.length v.c2] 47)).heap.size := by simp
 refine ⟨⟨h1.own, fun r hr g hg => ⟨fun e => by have := hn.lt r hr g hg; omega, fun e => (hn.og r hr g hg).2 (hY g e).1⟩, h1.hr.any hsz (fun q hq k hk => ⟨fun e => by have := hn.hr.lt q hq k hk; omega, fun e => ?_⟩) (fun k hk => Nat.lt_trans (hY k hk).2 hsz) (fun e => by have := (hY _ e).2; omega), h1.hd, h1.cy⟩, bC W _ _, eH W _ _⟩
 have h2 := (hY k e).1
 rcases List.mem_append.1 hq with hq | hq
 ·exact (hn.hr.og q hq k hk).2 h2
 ·exact hn.hr.rx q hq k hk h2
theorem jY.box (hn : jY W Bn s v) : SS (W.alloc (.cells #[.slice v.a1 v.n1 v.c1, .slice v.hc.az 2 v.hc.cz, .slice v.hc.am 2 v.hc.cm, .int .i64 (s.h.aF : Int), .slice v.hc.al v.hc.lc.length v.hc.cl, .slice v.hc.av s.h.live.length v.hc.cv, .slice v.a2 v.ys.length v.c2] 47)) W.heap.size (fun k => k < Bn) s v := SR.box hn fun k hk => ⟨hk, Nat.lt_trans hk hn.hr.gs⟩
theorem jY.store {a0 a1 a2 a3 a4 a5 a6 : Value} (hn : jY W Bn s v) (hB : B < Bn) (K : ∀ o, W.cell? ⟨B, o, none⟩ = (#[a0, a1, a2, a3, a4, a5, a6] : Array Value)[o]?) (F : ∀ o, W.frozen? ⟨B, o, none⟩ = false) : SS (((((((W.setCell ⟨B, 0, none⟩ (.slice v.a1 v.n1 v.c1)).setCell ⟨B, 1, none⟩ (.slice v.hc.az 2 v.hc.cz)).setCell ⟨B, 2, none⟩ (.slice v.hc.am 2 v.hc.cm)).setCell ⟨B, 3, none⟩ (.int .i64 (s.h.aF : Int))).setCell ⟨B, 4, none⟩ (.slice v.hc.al v.hc.lc.length v.hc.cl)).setCell ⟨B, 5, none⟩ (.slice v.hc.av s.h.live.length v.hc.cv)).setCell ⟨B, 6, none⟩ (.slice v.a2 v.ys.length v.c2)) B (fun k => k < Bn ∧ k ≠ B) s v :=
 SS.put7 (SR.lift hn hB (fun k hk => hk.1) (fun h => h.2 rfl)) K F
theorem TL {b : Nat} {e : TypeId} {size n : Nat} {a : Value} {xs : List Value} (h : W.ownsRow b e size a n xs) (hT : a.ownBlock ≠ some T) (v : Sc) (s : Sy) : (((((((W.setCell ⟨T, 0, none⟩ (.slice v.a1 v.n1 v.c1)).setCell ⟨T, 1, none⟩ (.slice v.hc.az 2 v.hc.cz)).setCell ⟨T, 2, none⟩ (.slice v.hc.am 2 v.hc.cm)).setCell ⟨T, 3, none⟩ (.int .i64 (s.h.aF : Int))).setCell ⟨T, 4, none⟩ (.slice v.hc.al v.hc.lc.length v.hc.cl)).setCell ⟨T, 5, none⟩ (.slice v.hc.av s.h.live.length v.hc.cv)).setCell ⟨T, 6, none⟩ (.slice v.a2 v.ys.length v.c2)).ownsRow b e size a n xs :=
 bJ (bJ (bJ (bJ (bJ (bJ (bJ h hT _) hT _) hT _) hT _) hT _) hT _) hT _
end
end
end Go.Proofs.YtcmpmobhongkiaaGreatDoor
