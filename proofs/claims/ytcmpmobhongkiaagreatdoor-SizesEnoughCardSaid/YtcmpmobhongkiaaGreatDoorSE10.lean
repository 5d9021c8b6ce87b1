/- texts of this claim, joined. -/
import Derived.Test.YtcmpmobhongkiaaGreatDoorSE0
import Derived.Test.YtcmpmobhongkiaaGreatDoorSE5
import Derived.Test.YtcmpmobhongkiaaGreatDoorSE8
import Derived.Test.YtcmpmobhongkiaaGreatDoorSE9
import Derived.Lib.SliceRun
import Derived.Deep.RegionHeld3
import Derived.Deep.DeepCutAuto
import Derived.Lib.ConvBytes
set_option linter.unusedVariables false
set_option linter.unusedSimpArgs false
namespace Go.Proofs.YtcmpmobhongkiaaGreatDoor
section
def objs (p k i : Nat) : List Int := (List.range i).map fun j => ((p + j * k : Nat) : Int)

theorem o7 (p k i : Nat) : (objs p k i).length = i := by simp [objs]
theorem JQ (p k i : Nat) : objs p k (i + 1) = objs p k i ++ [((p + i * k : Nat) : Int)] := by simp [objs, List.range_succ]

theorem vY (xs : List Int) (p k n : Nat) (hk : 1 ≤ k) (hin : p + k * n ≤ xs.length) : ∀ j, j ≤ n → ∀ i, i < j → (chainTo xs p k n j)[p + i * k]? = some (if i + 1 < n then ((p + (i + 1) * k : Nat) : Int) else -1)
 | 0, _, i, hi => by omega
 | j + 1, hj, i, hi => by
  have hlt : ∀ i, i < n → p + i * k < xs.length := fun i hi => by
   have : i * k + k ≤ k * n := by rw [← Nat.succ_mul, Nat.mul_comm]; exact Nat.mul_le_mul_left _ hi
   omega
  unfold chainTo
  by_cases e : i = j
  ·subst e
   rw [List.getElem?_set_self (by rw [eG]; exact hlt i (by omega))]
  ·have hne : p + j * k ≠ p + i * k := by
    intro h
    have h1 : j * k = i * k := by omega
    exact e (Nat.eq_of_mul_eq_mul_right (by omega) h1).symm
   rw [List.getElem?_set_ne hne]
   exact vY xs p k n hk hin j (by omega) i (by omega)

theorem uO (xs : List Int) (p k n : Nat) (most : Int) (hk : 1 ≤ k) (hn : 1 ≤ n) (hin : p + k * n ≤ xs.length) :
  ∀ d i f, i + d = n → 1 ≤ d → d + 1 ≤ f → (i : Int) ≤ most → fK (chainTo xs p k n n) most f ((p + i * k : Nat) : Int) (objs p k i) = if (n : Int) ≤ most then some (objs p k n) else none := by
 intro d
 induction d with
 | zero => intro i f _ h; omega
 | succ d ih =>
  intro i f hid _ hf aCf
  obtain ⟨f, rfl⟩ : ∃ f', f = f' + 1 := ⟨f - 1, by omega⟩
  have hpos : ((p + i * k : Nat) : Int) ≠ -1 := by omega
  have hlt : p + i * k < xs.length := by
   have : i * k + k ≤ k * n := by rw [← Nat.succ_mul, Nat.mul_comm]; exact Nat.mul_le_mul_left _ (by omega)
   omega
  unfold fK
  rw [if_neg hpos, o7]
  by_cases hm : (i : Int) = most
  ·rw [if_pos (Or.inl (by omega)), if_neg (by omega)]
  ·have h2 : QA (chainTo xs p k n n).length ((p + i * k : Nat) : Int) 1 = true := by
    unfold QA; rw [eG]; exact decide_eq_true (by omega)
   have h3 : qR (objs p k i) ((p + i * k : Nat) : Int) = false := by
    unfold qR
    rw [List.contains_eq_any_beq, List.any_eq_false]
    intro x hx
    simp only [objs, List.mem_map, List.mem_range] at hx
    obtain ⟨j, hj, rfl⟩ := hx
    simp only [beq_iff_eq]
    intro h
    have h1 : i * k = j * k := by omega
    have := Nat.eq_of_mul_eq_mul_right (by omega) h1
    omega
   rw [if_neg (by rw [h2, h3]; simp; omega), Int.toNat_natCast, List.getD_eq_getElem?_getD, vY xs p k n hk hin n (Nat.le_refl _) i (by omega), Option.getD_some, ← JQ]
   by_cases hl : i + 1 < n
   ·rw [if_pos hl]
    exact ih (i + 1) f (by omega) (by omega) (by omega) (by omega)
   ·rw [if_neg hl]
    obtain rfl : n = i + 1 := by omega
    obtain ⟨f, rfl⟩ : ∃ f', f = f' + 1 := ⟨f - 1, by omega⟩
    unfold fK
    rw [if_pos rfl, if_pos (by omega)]

theorem sH (xs : List Int) (p k n : Nat) (most : Int) (hk : 1 ≤ k) (hn : 1 ≤ n) (hin : p + k * n ≤ xs.length) (h0 : 0 ≤ most) :
  follow (chainTo xs p k n n) p most = if (n : Int) ≤ most then some (objs p k n) else none := by
 have hkn : n ≤ k * n := Nat.le_mul_of_pos_left _ (by omega)
 have h := uO xs p k n most hk hn hin n 0 ((chainTo xs p k n n).length + 2) (by omega) hn (by rw [eG]; omega) (by omega)
 simpa [follow, objs] using h
end
section
structure Sl where
 p : Nat
 n : Nat
 h : Int
deriving DecidableEq
structure Ca where
 ns : List (List UInt8)
 z : Nat
 r : Nat
 o : Nat
 sl : List Sl
 ac : List Int
deriving DecidableEq
structure Sy where
 w : List Int
 h : Hp
 cs : List Ca
deriving DecidableEq

def dQ (k : Nat) : Nat := if 4 ≤ 16 / k then 0 else if 4 ≤ 32 / k then 1 else 2
def eH (k : Nat) : Nat := 16 * 2 ^ dQ k / k
def nameB (s : List UInt8) : Bool := decide (0 < s.length ∧ s.length ≤ 8) && s.all fun c => decide ((97 ≤ c ∧ c ≤ 122) ∨ (48 ≤ c ∧ c ≤ 57))
def gZ (c : Ca) (p : Nat) (a : Int) : Bool := decide (0 ≤ a - 16 * p ∧ a - 16 * p < c.r * c.z ∧ (a - 16 * p) % c.z = 0)

structure pF (s : Sy) (c : Ca) (x : Sl) : Prop where
 live : ∃ b ∈ s.h.live, b.a = x.p ∧ b.o = c.o
 chain : ∃ l, follow s.w x.h c.r = some l ∧ l.length = x.n ∧ ∀ a ∈ l, gZ c x.p a = true
structure nP (s : Sy) (c : Ca) : Prop where
 z : 1 ≤ c.z ∧ c.z ≤ 64
 o : c.o = dQ c.z
 r : c.r = eH c.z
 ns : c.ns ≠ []
 nm : ∀ n ∈ c.ns, nameB n = true
 nr : c.ns.Pairwise fun a b => Go.Op.bytesLess a b = true
 ac : c.ac.length = s.h.aF
 sr : c.sl.Pairwise fun a b => a.p < b.p
 sk : ∀ x ∈ c.sl, pF s c x
 aw : ∀ a ∈ c.ac, a = -1 ∨ ∃ x ∈ c.sl, (x.p : Int) = a
 ad : c.ac.Pairwise fun a b => a = b → a = -1
structure fH (s : Sy) : Prop where
 wl : s.w.length = 4096
 hk : eY s.h
 cl : s.cs.length ≤ 20
 ck : ∀ c ∈ s.cs, nP s c
 zd : s.cs.Pairwise fun c d => c.z ≠ d.z
 nd : s.cs.Pairwise fun c d => ∀ n ∈ c.ns, n ∉ d.ns
 pd : s.cs.Pairwise fun c d => ∀ x ∈ c.sl, ∀ y ∈ d.sl, x.p ≠ y.p

def Sy.named (s : Sy) (n : List UInt8) : Option Nat := s.cs.findIdx? fun c => c.ns.contains n
def Sy.jO (s : Sy) (i : Nat) (c : Ca) : Sy := { s with cs := s.cs.set i c }
def Ca.find (c : Ca) (p : Int) : Option Nat := c.sl.findIdx? fun x => decide ((x.p : Int) = p)
def Gq (l : List Sl) (p : Nat) : Nat := (l.takeWhile fun x => decide (x.p < p)).length
def lV (l : List Sl) (x : Sl) : List Sl := l.take (Gq l x.p) ++ x :: l.drop (Gq l x.p)
def Sy.grow (s : Sy) (i cpu : Nat) (c : Ca) : Option (Sy × Nat) := match s.h.alloc cpu c.o 0 false false with
 | some (h', a) => some ({ w := chainTo s.w (16 * a) c.z c.r c.r, h := h', cs := s.cs.set i { c with sl := lV c.sl ⟨a, c.r, ((16 * a : Nat) : Int)⟩ } }, Gq c.sl a)
 | none => none
def Ca.own (c : Ca) (cpu : Nat) : Option Nat := match c.find (c.ac.getD cpu (-1)) with
 | some k => match c.sl[k]? with
  | some x => if 0 < x.n then some k else none
  | none => none
 | none => none
def Ca.nobody (c : Ca) : Option Nat := c.sl.findIdx? fun x => decide (0 < x.n) && !c.ac.contains (x.p : Int)
def Sy.mine (s : Sy) (i cpu k : Nat) : Sy := match s.cs[i]? with
 | some c => match c.sl[k]? with
  | some x => s.jO i { c with ac := c.ac.set cpu (x.p : Int) }
  | none => s
 | none => s
def Sy.choose (s : Sy) (i cpu : Nat) : Option (Sy × Nat) := match s.cs[i]? with
 | some c => match c.own cpu with
  | some k => some (s, k)
  | none => match c.nobody with
   | some k => some (s.mine i cpu k, k)
   | none => match s.grow i cpu c with
    | some (s', k) => some (s'.mine i cpu k, k)
    | none => none
 | none => none
def Sy.pop (s : Sy) (i k : Nat) : Option (Sy × Int) := match s.cs[i]? with
 | some c => match c.sl[k]? with
  | some x => some (s.jO i { c with sl := c.sl.set k ⟨x.p, x.n - 1, s.w.getD x.h.toNat 0⟩ }, x.h)
  | none => none
 | none => none
def Sy.one (s : Sy) (i cpu : Nat) : Option (Sy × Int) := match s.choose i cpu with
 | some (s', k) => s'.pop i k
 | none => none
def xR (l : List (List UInt8)) (n : List UInt8) : Nat := (l.takeWhile fun x => Go.Op.bytesLess x n).length
def Sy.create (s : Sy) (n : List UInt8) (z : Nat) : Option Sy := match s.cs.findIdx? fun c => decide (c.z = z) with
 | some i => match s.cs[i]? with
  | some c => some (s.jO i { c with ns := c.ns.take (xR c.ns n) ++ n :: c.ns.drop (xR c.ns n) })
  | none => none
 | none => if s.cs.length = 20 then none else some { s with cs := s.cs ++ [⟨[n], z, eH z, dQ z, [], List.replicate s.h.aF (-1)⟩] }
end
section
theorem qL (l : List Bk) (b : Bk) (q : Nat) : cnt (bC l b) q = cnt l q + hit b q := by
 unfold bC
 conv => rhs; rw [← List.take_append_drop (lb l b.a) l]
 rw [bH, bH, cnt]
 omega
theorem AV {l : List Bk} {i : Nat} (hi : i < l.length) (q : Nat) : cnt (l.eraseIdx i) q + hit l[i] q = cnt l q := by
 have h1 : l = l.take i ++ l[i] :: l.drop (i + 1) := by rw [← List.drop_eq_getElem_cons hi, List.take_append_drop]
 conv => rhs; rw [h1]
 rw [List.eraseIdx_eq_take_drop_succ, bH, bH, cnt]
 omega
theorem Gt {l : List Bk} (h : nN l) {b : Bk} (hn : ∀ x ∈ l, x.a ≠ b.a) : nN (bC l b) := by
 unfold nN bC
 rw [List.pairwise_append]
 refine ⟨h.sublist (List.take_sublist _ _), List.pairwise_cons.2 ⟨fun y hy => ?_, h.sublist (List.drop_sublist _ _)⟩, fun x hx y hy => ?_⟩
 ·have h1 := o9 h y hy
  have h2 := hn y (List.mem_of_mem_drop hy)
  omega
 ·have h1 := sJ x hx
  rw [List.mem_cons] at hy
  rcases hy with rfl | hy
  ·exact h1
  ·have h2 := o9 h y hy
   omega
theorem AX {l : List Bk} {b x : Bk} (h : x ∈ bC l b) : x = b ∨ x ∈ l := by
 unfold bC at h
 rw [List.mem_append, List.mem_cons] at h
 rcases h with h | rfl | h
 ·exact .inr (List.mem_of_mem_take h)
 ·exact .inl rfl
 ·exact .inr (List.mem_of_mem_drop h)
theorem NH (h : Hp) (p : Nat) : cnt h.live p ≤ cnt h.all p := by rw [dM]; omega

theorem eY.NI {g : Hp} (hk : eY g) {a o t : Nat} (hfit : bY 0 256 a o) (ht : t < 3) (hd : ∀ q, cnt g.all q + hit ⟨a, o, t⟩ q ≤ 1) :
  eY { g with live := bC g.live ⟨a, o, t⟩ } ∧ ∀ q, cnt ({ g with live := bC g.live ⟨a, o, t⟩ } : Hp).all q = cnt g.all q + hit ⟨a, o, t⟩ q := by
 have hc : ∀ q, cnt ({ g with live := bC g.live ⟨a, o, t⟩ } : Hp).all q = cnt g.all q + hit ⟨a, o, t⟩ q := fun q => by
  rw [dM, dM]
  simp only
  rw [qL]
  omega
 refine ⟨⟨hk.o0, hk.o1, hk.f0, hk.e0, hk.e1, hk.m0, hk.m1, hk.cp, hk.lk, hk.lr, fun b hb => ?_, Gt hk.vs fun x hx e => ?_, fun q => by rw [hc]; exact hd q⟩, hc⟩
 ·rcases AX hb with rfl | hb
  ·exact ⟨hfit, ht⟩
  ·exact hk.lv b hb
 ·have h1 := hd a
  have h2 := NH g a
  have hpo := dH o
  have hpx := dH x.o
  have h3 : 0 < cnt g.live a := iE.2 ⟨x, hx, by unfold inB; simp only at e; omega⟩
  have h4 : hit ⟨a, o, t⟩ a = 1 := iQ.2 (by unfold inB; simp only; omega)
  omega

theorem eY.alloc {h h' : Hp} (hk : eY h) {cpu order t a : Nat} {urgent low : Bool} (hc : cpu < h.aF) (ho : order ≤ 4) (ht : t < 3) (he : h.alloc cpu order t urgent low = some (h', a)) :
  eY h' ∧ (∀ q, cnt h'.all q = cnt h.all q) ∧ Same h h' ∧ h'.live = bC h.live ⟨a, order, t⟩ ∧ bY 0 256 a order := by
 have key : ∃ g, JW h order g a ∧ h' = { g with live := bC g.live ⟨a, order, t⟩ } := by
  unfold Hp.alloc at he
  cases h1 : h.attempt cpu order t urgent low with
  | some r =>
   rw [h1] at he
   simp only [Option.some.injEq, Prod.mk.injEq] at he
   obtain ⟨rfl, rfl⟩ := he
   exact ⟨r.1, hk.attempt hc ho ht h1, rfl⟩
  | none =>
   rw [h1] at he
   simp only at he
   cases h2 : h.drain.attempt cpu order t urgent low with
   | none => rw [h2] at he; cases he
   | some r =>
    rw [h2] at he
    simp only [Option.some.injEq, Prod.mk.injEq] at he
    obtain ⟨rfl, rfl⟩ := he
    obtain ⟨d1, d2, d3, d4, d5⟩ := hk.drain
    have hT := d1.attempt (by rw [d3.aF]; exact hc) ho ht h2
    exact ⟨r.1, ⟨hT.ok, hT.fit, fun t p => by rw [hT.c, d2], d3.trans hT.same, hT.live.trans d5⟩, rfl⟩
 obtain ⟨g, hT, rfl⟩ := key
 obtain ⟨k1, k2⟩ := hT.ok.NI hT.fit ht (fun q => by rw [hT.c t q]; exact hk.one q)
 exact ⟨k1, fun q => by rw [k2, hT.c t q], Same.trans hT.same ⟨rfl, rfl, rfl, rfl⟩, by simp only; rw [hT.live], hT.fit⟩
end
section
theorem QO {k : Nat} : eH k * k ≤ 64 := by
 unfold eH
 refine gQ (Nat.div_mul_le_self _ _) ?_
 have : dQ k ≤ 2 := by unfold dQ; split <;> (try split) <;> omega
 rcases (show dQ k = 0 ∨ dQ k = 1 ∨ dQ k = 2 by omega) with h | h | h <;> rw [h] <;> decide
theorem wF (xs : List Int) (most : Int) : ∀ (f : Nat) (p : Int) (out l : List Int), (out.length : Int) ≤ most → fK xs most f p out = some l → (l.length : Int) ≤ most
 | 0, _, _, _, _, h => by simp [fK] at h
 | f + 1, p, out, l, ho, h => by
  unfold fK at h
  split at h
  ·rw [← gP h]; exact ho
  ·split at h
   ·cases h
   ·rename_i h2
    refine wF xs most f _ _ l ?_ h
    simp only [List.length_append, List.length_cons, List.length_nil]
    have : ¬ (most ≤ (out.length : Int)) := fun h3 => h2 (.inl h3)
    omega
theorem Gu {xs : List Int} {p most : Int} {l : List Int} (hm : 0 ≤ most) (h : follow xs p most = some l) : (l.length : Int) ≤ most := wF xs most _ p [] l (by simpa using hm) h
theorem nP.rz {s : Sy} {c : Ca} (h : nP s c) : c.r * c.z ≤ 64 := by rw [h.r]; exact QO
theorem nP.r64 {s : Sy} {c : Ca} (h : nP s c) : c.r ≤ 64 := gQ (Nat.le_mul_of_pos_right _ h.z.1) h.rz
theorem pF.zV {s : Sy} {c : Ca} {x : Sl} (h : pF s c x) (hk : eY s.h) : x.p < 256 := by
 obtain ⟨b, hb, h1, _⟩ := h.live
 have := (hk.lv b hb).1.2.2.1
 omega
theorem pF.QS {s : Sy} {c : Ca} {x : Sl} (h : pF s c x) : x.n ≤ c.r := by
 obtain ⟨l, h1, h2, _⟩ := h.chain
 have := Gu (by omega) h1
 omega
theorem sN {c : Ca} {p : Nat} {a : Int} (h : gZ c p a = true) : 16 * (p : Int) ≤ a ∧ a < 16 * p + c.r * c.z ∧ (a - 16 * p) % c.z = 0 := by
 have := of_decide_eq_true h
 omega
theorem AY : ∀ {l : List Sl} {k N : Nat}, (l.Pairwise fun a b => a.p < b.p) → (∀ x ∈ l, k ≤ x.p ∧ x.p < N) → l.length + k ≤ N ∨ l = []
 | [], _, _, _, _ => .inr rfl
 | c :: m, k, N, q1, q2 => by
  have q3 := List.pairwise_cons.1 q1
  have q4 := q2 c (by simp)
  rcases AY (k := c.p + 1) (N := N) q3.2 fun x hx => ⟨q3.1 x hx, (q2 x (by simp [hx])).2⟩ with q5 | rfl
  ·simp only [List.length_cons]; exact .inl (by omega)
  ·simp only [List.length_cons, List.length_nil]; exact .inl (by omega)
theorem nP.nR {s : Sy} {c : Ca} (h : nP s c) (hk : eY s.h) : c.sl.length ≤ 256 := by
 rcases AY (k := 0) (N := 256) h.sr fun x hx => ⟨Nat.zero_le _, (h.sk x hx).zV hk⟩ with h1 | h1
 ·omega
 ·rw [h1]; exact Nat.zero_le _
end
section
theorem JY {h g : Hp} (hk : eY h) (hg : eY g) (hs : Same h g) (i : Nat) (u lo : Bool) : g.held i u lo = h.held i u lo := by
 have e1 : g.z1.f = h.z1.f := by rw [← hg.e0, ← hk.e0, hs.split]
 have e2 : g.z1.e = h.z1.e := by rw [hg.e1, hk.e1]
 unfold Hp.held Hp.min
 rw [e1, e2, hs.m0, hs.m1]
theorem eY.JZ {h h' : Hp} (hk : eY h) {l : Ls} {hd a n : Nat} (hl : l.c < h.aF ∧ l.z < 2 ∧ l.t < 3) (h8 : ∀ x ∈ h.ls, x.key = l.key → x.p.length + (n + 1) ≤ 8) (hn : n + 1 ≤ 8) (he : h.jG l.z 0 l.t hd = some (h', a)) :
  eY h' ∧ eY { h' with ls := fQ h'.ls l a } ∧ (∀ x ∈ fQ h'.ls l a, x.key = l.key → x.p.length + n ≤ 8) ∧ Same h { h' with ls := fQ h'.ls l a } := by
 obtain ⟨hT, hls, hz⟩ := hk.jG (by omega) hl.2.2 hl.2.1 he
 have hl' : l.c < h'.aF ∧ l.z < 2 ∧ l.t < 3 := by rw [hT.same.aF]; exact hl
 obtain ⟨g1, g2⟩ := hT.ok.push (l := l) (p := a) hl' ⟨hT.fit.2.2.1, by rw [hT.same.split]; exact hz⟩ (fun x hx hk => by rw [hls] at hx; have := h8 x hx hk; omega) (fun q => by rw [hT.c 0 q]; exact hk.one q)
 refine ⟨hT.ok, g1, fun x hx hkey => ?_, Same.trans hT.same ⟨rfl, rfl, rfl, rfl⟩⟩
 have := Ea hT.ok.lk x hx hkey
 have h2 : xW h'.ls l.key + (n + 1) ≤ 8 := by
  unfold xW
  cases hf : h'.ls.find? fun x => decide (x.key = l.key) with
  | none => simp only; omega
  | some y =>
   have hy := List.mem_of_find?_eq_some hf
   have hyk := List.find?_some hf
   rw [hls] at hy
   exact h8 y hy (of_decide_eq_true hyk)
 omega
theorem AZ {ls : List Ls} {k : Nat} (h : oQ ls k = true) : ∃ hi : iV ls k < ls.length, ls[iV ls k].key = k := by
 unfold oQ at h
 cases he : ls[iV ls k]? with
 | none => rw [he] at h; cases h
 | some x =>
  rw [he] at h
  obtain ⟨hi, hx⟩ := List.getElem?_eq_some_iff.1 he
  exact ⟨hi, by rw [hx]; simpa using h⟩
theorem xX {ls : List Ls} {k : Nat} (h : oQ ls k = false) : ∀ y, ls[iV ls k]? = some y → y.key ≠ k := fun y hy => by
 unfold oQ at h
 rw [hy] at h
 simpa using h
theorem Cb {h : Hp} {l : Ls} {hd : Nat} (hh : oQ h.ls l.key = true) (hi : iV h.ls l.key < h.ls.length) : h.single l hd = some ({ h with ls := if h.ls[iV h.ls l.key].p.length = 1 then h.ls.eraseIdx (iV h.ls l.key) else h.ls.set (iV h.ls l.key) { h.ls[iV h.ls l.key] with p := h.ls[iV h.ls l.key].p.dropLast } }, h.ls[iV h.ls l.key].p.getLastD 0) := by
 obtain ⟨_, hx⟩ := AZ hh
 unfold Hp.single
 rw [gJ hi]
 simp only [hx, if_true]
theorem Gv {h : Hp} {l : Ls} {hd : Nat} (hh : oQ h.ls l.key = false) : h.single l hd = (h.jG l.z 0 l.t hd).map fun r => (r.1.fill l hd 3, r.2) := by
 have h1 := xX hh
 unfold Hp.single
 cases he : h.ls[iV h.ls l.key]? with
 | none => rfl
 | some x => simp only [h1 x he, if_false]
end
section
open Go.RowKit

set_option maxHeartbeats 2000000 in
theorem Oc (x b : Bk) (B : Nat) (W : World) (hx : x.o ≤ 4) (hxa : x.a ≤ 1000) (hb : b.o ≤ 4) (hba : b.a ≤ 1000) (hB : B < W.heap.size) (h0 : W.cell? ⟨B, 0, none⟩ = some (.int .i64 b.a)) (h1 : W.cell? ⟨B, 1, none⟩ = some (.int .i64 b.o)) (h2 : W.cell? ⟨B, 2, none⟩ = some (.int .i64 b.t)) :
  Calls Tryz.prog 172 (#[.agg (aN x).toArray] ++ #[.pointer (some ⟨B, 0, none⟩)]) W fun ev w' => ev = .returned (.bool (decide (x.a < b.fin ∧ b.a < x.fin))) ∧ Below W.heap.size W w' := by
 show Calls Tryz.prog 172 #[.agg #[.int .i64 x.a, .int .i64 x.o, .int .i64 x.t], .pointer (some ⟨B, 0, none⟩)] W _
 have hb0 := aC W (.cells #[.int .i64 (x.a : Int), .int .i64 (x.o : Int), .int .i64 (x.t : Int)] 63)
 have K := aY W #[.int .i64 (x.a : Int), .int .i64 (x.o : Int), .int .i64 (x.t : Int)] 63
 have hs : W.heap.size < (W.alloc (.cells #[.int .i64 (x.a : Int), .int .i64 (x.o : Int), .int .i64 (x.t : Int)] 63)).heap.size := by simp
 have hB2 : B < (W.alloc (.cells #[.int .i64 (x.a : Int), .int .i64 (x.o : Int), .int .i64 (x.t : Int)] 63)).heap.size := by omega
 have g0 := (hb0.cell (p := ⟨B, 0, none⟩) hB).trans h0
 have g1 := (hb0.cell (p := ⟨B, 1, none⟩) hB).trans h1
 have g2 := (hb0.cell (p := ⟨B, 2, none⟩) hB).trans h2
 have k0 := K 0
 have k1 := K 1
 have k2 := K 2
 simp only [gB, gC, gD] at k0 k1 k2
 have c1 : ((x.a : Int) < (b.fin : Int)) ↔ x.a < b.fin := by omega
 clear h0 h1 h2 K
 cases hd : decide (x.a < b.fin) with
 | true =>
  have hd' : decide ((x.a : Int) < (b.fin : Int)) = true := decide_eq_true (by have := of_decide_eq_true hd; omega)
  go_enter Tryz.func172, Tryz.ntmps172
  go_wp2_with fail
  generalize W.alloc (.cells #[.int .i64 (x.a : Int), .int .i64 (x.o : Int), .int .i64 (x.t : Int)] 63) = w0 at *
  refine aS (by kernel_rfl) (by kernel_rfl) ?_
  repeat (first | go_big_quiet_step ((go_at_call 164; first | with_reducible exact Calls.bI (iD b _ hb hba) | with_reducible exact Calls.bI (iD x _ hx hxa))) | quiet_step ((go_at_call 164; first | with_reducible exact Calls.bI (iD b _ hb hba) | with_reducible exact Calls.bI (iD x _ hx hxa))))
  refine wpQuiet_nil ?_
  rintro _ ⟨wx, rfl⟩
  have hbx := Below.step hb0 (aQ w0 wx)
  go_wp2
  go_ret
  exact ⟨aU (by rw [Bool.decide_and, hd, Bool.true_and]), hbx⟩
 | false =>
  have hd' : decide ((x.a : Int) < (b.fin : Int)) = false := decide_eq_false (by have := of_decide_eq_false hd; omega)
  go_enter Tryz.func172, Tryz.ntmps172
  go_wp2_with fail
  generalize W.alloc (.cells #[.int .i64 (x.a : Int), .int .i64 (x.o : Int), .int .i64 (x.t : Int)] 63) = w0 at *
  refine aS (by kernel_rfl) (by kernel_rfl) ?_
  repeat (first | go_big_quiet_step ((go_at_call 164; first | with_reducible exact Calls.bI (iD b _ hb hba) | with_reducible exact Calls.bI (iD x _ hx hxa))) | quiet_step ((go_at_call 164; first | with_reducible exact Calls.bI (iD b _ hb hba) | with_reducible exact Calls.bI (iD x _ hx hxa))))
  refine wpQuiet_nil ?_
  rintro _ ⟨wx, rfl⟩
  have hbx := Below.step hb0 (aQ w0 wx)
  go_wp2
  go_ret
  exact ⟨aU (by rw [Bool.decide_and, hd, Bool.false_and]), hbx⟩

theorem Xj (b : Bk) (o t B C : Nat) (W : World) (hB : B < W.heap.size) (hc : W.cell? ⟨B, 0, none⟩ = some (.int .i64 o)) (hC : C < W.heap.size) (hc2 : W.cell? ⟨C, 0, none⟩ = some (.int .i64 t)) :
  Calls Tryz.prog 202 (#[.agg (aN b).toArray] ++ #[.pointer (some ⟨B, 0, none⟩), .pointer (some ⟨C, 0, none⟩)]) W fun ev w' => ev = .returned (.bool (decide (b.o = o ∧ b.t = t))) ∧ Below W.heap.size W w' := by
 have hne : B ≠ W.heap.size := by omega
 have hne2 : C ≠ W.heap.size := by omega
 show Calls Tryz.prog 202 #[.agg #[.int .i64 b.a, .int .i64 b.o, .int .i64 b.t], .pointer (some ⟨B, 0, none⟩), .pointer (some ⟨C, 0, none⟩)] W _
 by_cases c1 : b.o = o
 ·by_cases c2 : b.t = t
  ·subst c1 c2
   go_enter Tryz.func202, Tryz.ntmps202
   go_wp2
   go_ret
   exact ⟨aU (by simp), aC _ _⟩
  ·have d2 : ((b.t : Int) == (t : Int)) = false := by rw [beq_eq_false_iff_ne]; omega
   subst c1
   go_enter Tryz.func202, Tryz.ntmps202
   go_wp2
   go_ret
   exact ⟨aU (by symm; exact decide_eq_false (fun h => c2 h.2)), aC _ _⟩
 ·have d1 : ((b.o : Int) == (o : Int)) = false := by rw [beq_eq_false_iff_ne]; omega
  go_enter Tryz.func202, Tryz.ntmps202
  go_wp2
  go_ret
  exact ⟨aU (by symm; exact decide_eq_false (fun h => c1 h.1)), aC _ _⟩

theorem uV (a1 a2 : Option Addr) (n1 n2 c1 c2 : Nat) (f e : Nat) (z : Zn) (o t : Nat) (w : World) (hat : Dy w a1 a2 n1 n2 z) (hl : n1 ≤ 1000) :
  Calls Tryz.prog 191 #[.agg #[.int .i64 f, .int .i64 e, .slice a1 n1 c1, .slice a2 n2 c2], .int .i64 o, .int .i64 t] w fun ev w' => ev = .returned (.int .i64 (bZ (fun b => decide (b.o = o ∧ b.t = t)) z.l)) ∧ Below w.heap.size w w' := by
 obtain ⟨K3, K4, K5, F3, F4, F5, hsz, hbw⟩ := boxes3 w #[.int .i64 (f : Int), .int .i64 (e : Int), .slice a1 n1 c1, .slice a2 n2 c2] 102 #[.int .i64 (o : Int)] 3 #[.int .i64 (t : Int)] 3
 have nC := hat.below hbw
 have l1 := hat.l1
 have k4 := K4 0
 have k5 := K5 0
 simp only [gB, gC] at k4 k5
 clear hat K3 K4 K5 F3 F4 F5
 have eg : ∀ args w, (callFunc 202 args).run Tryz.prog w = .ok (.enter 202 args) w := enters_of Tryz.func202 (by kernel_rfl) rfl
 go_enter Tryz.func191, Tryz.ntmps191
 go_wp2_with fail
 generalize ((w.alloc (.cells #[.int .i64 (f : Int), .int .i64 (e : Int), .slice a1 n1 c1, .slice a2 n2 c2] 102)).alloc (.cells #[.int .i64 (o : Int)] 3)).alloc (.cells #[.int .i64 (t : Int)] 3) = w0 at *
 refine (wI _ _ _ z.l _ _ (fun b => decide (b.o = o ∧ b.t = t)) _ l1 (by omega) nC.r1 eg (fun W hW x hx => Xj x o t _ _ W (gI (show w.heap.size + 1 < w0.heap.size by omega) hW.size) ((hW.cell (p := ⟨w.heap.size + 1, 0, none⟩) (by show w.heap.size + 1 < _; omega)).trans k4) (gI (show w.heap.size + 1 + 1 < w0.heap.size by omega) hW.size) ((hW.cell (p := ⟨w.heap.size + 1 + 1, 0, none⟩) (by show w.heap.size + 1 + 1 < _; omega)).trans k5))).mono ?_
 rintro ev w1 ⟨rfl, hb1⟩
 go_wp2
 go_ret
 exact ⟨dF (by simp only [Bool.decide_and]), Below.step hbw hb1⟩
end
section
open Go.RowKit

def sV (l : List UInt8) : Value := .string ⟨l.toArray⟩
def encS (l : List UInt8) : List Value := [sV l]
theorem aV (l : List UInt8) : (encS l).length = 1 := rfl
theorem lM {w : World} {g o : Nat} {r : List UInt8} (hc : ∀ i v, (encS r)[i]? = some v → w.cell? ⟨g, o + i, none⟩ = some v) : w.cell? ⟨g, o, none⟩ = some (.string ⟨r.toArray⟩) := hc 0 _ rfl
def aW (x : Sl) : List Value := [vI x.p, vI x.n, vI x.h]
theorem aO (x : Sl) : (aW x).length = 3 := rfl
theorem gX {w : World} {b o : Nat} {r : Sl} (hc : ∀ i v, (aW r)[i]? = some v → w.cell? ⟨b, o + i, none⟩ = some v) : w.cell? ⟨b, o, none⟩ = some (.int .i64 r.p) ∧ w.cell? ⟨b, o + 1, none⟩ = some (.int .i64 r.n) ∧ w.cell? ⟨b, o + 2, none⟩ = some (.int .i64 r.h) := ⟨hc 0 _ rfl, hc 1 _ rfl, hc 2 _ rfl⟩
structure Cc where
 a1 : Option Addr
 n1 : Nat
 c1 : Nat
 a2 : Option Addr
 n2 : Nat
 c2 : Nat
 a3 : Option Addr
 n3 : Nat
 c3 : Nat
 c : Ca
def dP (y : Cc) : List Value := [.slice y.a1 y.n1 y.c1, vI y.c.z, vI y.c.r, vI y.c.o, .slice y.a2 y.n2 y.c2, .slice y.a3 y.n3 y.c3]
theorem dR (y : Cc) : (dP y).length = 6 := rfl
theorem kQ {w : World} {b o : Nat} {y : Cc} (hc : ∀ i v, (dP y)[i]? = some v → w.cell? ⟨b, o + i, none⟩ = some v) : w.cell? ⟨b, o, none⟩ = some (.slice y.a1 y.n1 y.c1) ∧ w.cell? ⟨b, o + 1, none⟩ = some (.int .i64 y.c.z) ∧ w.cell? ⟨b, o + 2, none⟩ = some (.int .i64 y.c.r) ∧ w.cell? ⟨b, o + 3, none⟩ = some (.int .i64 y.c.o) ∧ w.cell? ⟨b, o + 4, none⟩ = some (.slice y.a2 y.n2 y.c2) ∧ w.cell? ⟨b, o + 5, none⟩ = some (.slice y.a3 y.n3 y.c3) := ⟨hc 0 _ rfl, hc 1 _ rfl, hc 2 _ rfl, hc 3 _ rfl, hc 4 _ rfl, hc 5 _ rfl⟩
structure CB (w : World) (y : Cc) : Prop where
 l1 : y.c.ns.length = y.n1
 l2 : y.c.sl.length = y.n2
 l3 : y.c.ac.length = y.n3
 r1 : Row w y.a1 (flat encS y.c.ns)
 r2 : Row w y.a2 (flat aW y.c.sl)
 r3 : Row w y.a3 (y.c.ac.map vI)
 k1 : y.n1 ≤ y.c1
 k2 : y.n2 ≤ y.c2
 k3 : y.n3 ≤ y.c3
theorem CB.below {w w' : World} {y : Cc} (h : CB w y) (hb : Below w.heap.size w w') : CB w' y := ⟨h.l1, h.l2, h.l3, h.r1.below hb, h.r2.below hb, h.r3.below hb, h.k1, h.k2, h.k3⟩

set_option maxHeartbeats 4000000 in
set_option maxRecDepth 100000 in
theorem x9 (c : Ca) (a1 a2 a3 : Option Addr) (n1 c1 n2 c2 n3 c3 p : Nat) (a : Int) (w : World) (hz : 1 ≤ c.z) (hrz : c.r * c.z ≤ 100000) (hp : p ≤ 1000) (ha1 : -1000000000000 ≤ a) (ha2 : a ≤ 1000000000000) :
  Calls Tryz.prog 90 #[.agg #[.slice a1 n1 c1, .int .i64 c.z, .int .i64 c.r, .int .i64 c.o, .slice a2 n2 c2, .slice a3 n3 c3], .int .i64 p, .int .i64 a] w fun ev w' => ev = .returned (.bool (gZ c p a)) ∧ Below w.heap.size w w' := by
 have hb := aC w (.cells #[.slice a1 n1 c1, .int .i64 (c.z : Int), .int .i64 (c.r : Int), .int .i64 (c.o : Int), .slice a2 n2 c2, .slice a3 n3 c3] 94)
 have K := aY w #[.slice a1 n1 c1, .int .i64 (c.z : Int), .int .i64 (c.r : Int), .int .i64 (c.o : Int), .slice a2 n2 c2, .slice a3 n3 c3] 94
 have k1 := K 1
 have k2 := K 2
 simp only [gB, gC, gD] at k1 k2
 have hmul : ((c.r : Int) * (c.z : Int)) = ((c.r * c.z : Nat) : Int) := by rw [Int.natCast_mul]
 have hnn : 0 ≤ (c.r : Int) * (c.z : Int) := by rw [hmul]; omega
 have hub : (c.r : Int) * (c.z : Int) ≤ 100000 := by rw [hmul]; omega
 clear hmul
 have HB := gO hb
 clear hb K
 have hzi : ((c.z : Int) == 0) = false := by rw [beq_eq_false_iff_ne]; omega
 by_cases h1 : 0 ≤ a - p * 16
 ·by_cases h2 : a - p * 16 < (c.r : Int) * c.z
  ·have d1 : decide (0 ≤ a - (p : Int) * 16) = true := decide_eq_true h1
   go_enter Tryz.func90, Tryz.ntmps90
   go_wp2_with fail
   go_ret
   refine ⟨aU ?_, HB.out⟩
   unfold gZ
   rw [Int.mul_comm 16 (p : Int)]
   by_cases h3 : (a - (p : Int) * 16) % (c.z : Int) = 0
   ·rw [h3, decide_eq_true ⟨h1, h2, rfl⟩]; rfl
   ·rw [decide_eq_false (fun h => h3 h.2.2)]
    exact beq_eq_false_iff_ne.2 h3
  ·have d1 : decide (0 ≤ a - (p : Int) * 16) = true := decide_eq_true h1
   go_enter Tryz.func90, Tryz.ntmps90
   go_wp2_with fail
   go_ret
   refine ⟨aU ?_, HB.out⟩
   unfold gZ
   rw [Int.mul_comm 16 (p : Int)]
   symm
   exact decide_eq_false (fun h => absurd h.2.1 (Int.not_lt.2 h2))
 ·have d1 : decide (0 ≤ a - (p : Int) * 16) = false := decide_eq_false h1
  go_enter Tryz.func90, Tryz.ntmps90
  go_wp2_with fail
  go_ret
  refine ⟨aU ?_, HB.out⟩
  unfold gZ
  rw [Int.mul_comm 16 (p : Int)]
  symm
  exact decide_eq_false (fun h => absurd h.1 (Int.not_le.2 h1))
end
section
open Go.RowKit

def Qi (b : Bt) (p : Nat) : Bool := bV b.m p && !bV b.r p
def gU (b : Bt) : List Rg := cZ (Qi b)

set_option maxHeartbeats 2000000 in
set_option maxRecDepth 100000 in
theorem MG (a1 a2 : Option Addr) (n1 n2 c1 c2 : Nat) (b : Bt) (w : World) (hat : Dt w a1 a2 n1 n2 b) (h1 : cO b.m = true) (h2 : cO b.r = true) :
  Calls Tryz.prog 56 #[.agg #[.slice a1 n1 c1, .slice a2 n2 c2]] w fun e w' => ∃ a' c', e = .returned (.tuple #[.slice a' (gU b).length c', .int .i64 0]) ∧ w'.ownsRow w.heap.size 55 2 (.slice a' (gU b).length c') (gU b).length (flat eX (gU b)) ∧ Below w.heap.size w w' := by
 have hb1 := sD h1
 have hb2 := sD h2
 obtain ⟨K0, F0, hsz, hbw⟩ := boxes1 w #[.slice a1 n1 c1, .slice a2 n2 c2] 27
 obtain ⟨l1, l2, q1, q2⟩ := hat.below hbw
 have Zo := oG h1
 have Zp := oG h2
 have hok1 := kK h1
 have hok2 := kK h2
 generalize hF : gU b = F
 have HF := gO hF
 clear hat hF
 go_enter Tryz.func56, Tryz.ntmps56
 go_wp2_with fail
 generalize w.alloc (.cells #[.slice a1 n1 c1, .slice a2 n2 c2] 27) = w0 at *
 refine (uH _ _ _ _ _ _ b.m b.r _ l1 l2 (by omega) (by omega) q1 q2 Zo Zp h1 h2).mono ?_
 rintro e w1 ⟨rfl, hb1'⟩
 have K0a := aB K0 hsz hb1'
 have q1a := q1.below hb1'
 have q2a := q2.below hb1'
 have uY := Below.step hbw hb1'
 have hsz1 : w.heap.size < w1.heap.size := gI hsz hb1'.size
 clear K0 F0 q1 q2 Zo Zp hb1' h1 h2
 have LK0 : ∀ W, Below w1.heap.size w1 W → ∀ o, W.cell? ⟨w.heap.size, o, none⟩ = (#[.slice a1 n1 c1, .slice a2 n2 c2] : Array Value)[o]? := fun W h o => aB K0a hsz1 h o
 go_upto_region 4 with fail
 go_cut [5, 6] (fun s5 s6 wx => ∃ (g5 g6 : Nat) (c5 c6 : Nat), s5 = .slice (some ⟨g5, 0, none⟩) 256 c5 ∧ s6 = .slice (some ⟨g6, 0, none⟩) 256 c6 ∧ wx.ownsRow w1.heap.size 4 1 (.slice (some ⟨g5, 0, none⟩) 256 c5) 256 ((bl (bV b.m)).map vB) ∧ wx.ownsRow w1.heap.size 4 1 (.slice (some ⟨g6, 0, none⟩) 256 c6) 256 ((bl (bV b.r)).map vB) ∧ g5 ≠ g6 ∧ Below w1.heap.size w1 wx)
 case first =>
  go_region_held3 (fun W => Below w1.heap.size w1 W) ((repeat (first | assumption | exact Below.refl _ _ | apply Below.drew | refine Below.step ?_ (by assumption)))) (first | (go_at_call_of 101 (Value.slice a1 n1 c1); refine (BI _ _ _ b.m _ l1 (q1a.below (by assumption)) hok1 (by omega)).mono ?_; rintro e wm ⟨am, cm, rfl, xC, hbm⟩) | (go_at_call_of 101 (Value.slice a2 n2 c2); refine (BI _ _ _ b.r _ l2 (q2a.below (by assumption)) hok2 (by omega)).mono ?_; rintro e wr ⟨ar, cr, rfl, hor, hbr⟩))
  all_goals (go_wp2_with fail; go_meet)
  ·obtain ⟨g5, _, rfl, hg5, hs5, _, _⟩ := dW xC 0 (by rw [List.length_map, iR]; omega)
   obtain ⟨g6, _, rfl, hg6, hs6, _, _⟩ := dW hor 0 (by rw [List.length_map, iR]; omega)
   exact ⟨g5, g6, cm, cr, rfl, rfl, own_base (own_below xC hbr (Nat.le_refl _)) (Nat.le_refl _), own_base hor (by have := hbm.size; simpa using this), by omega, by assumption⟩
 case rest =>
  obtain ⟨g5, g6, c5, c6, rfl, rfl, ho5, ho6, hne, hbx⟩ := hcut
  have hbw2 := Below.step uY hbx
  have HO5 := gO ho5
  have HO6 := gO ho6
  clear LK0 K0a q1a q2a hok1 hok2 ho5 ho6
  go_wp2
  go_loopw [7, 21] (fun _ s21 wq => ∃ i : Nat, i ≤ 256 ∧ s21 = .int .i64 i ∧ Hid (wq.ownsRow w1.heap.size 4 1 (.slice (some ⟨g5, 0, none⟩) 256 c5) 256 ((bl (fun p => bV b.m p && !(decide (p < i) && bV b.r p))).map vB)) ∧ Hid (wq.ownsRow w1.heap.size 4 1 (.slice (some ⟨g6, 0, none⟩) 256 c6) 256 ((bl (bV b.r)).map vB)) ∧ Below w.heap.size w wq) (fun _ s21 _ => 256 - (intOf s21).toNat)
  case atStart =>
   refine ⟨0, by omega, rfl, ?_, HO6, hbw2⟩
   rw [show bl (fun p => bV b.m p && !(decide (p < 0) && bV b.r p)) = bl (bV b.m) from qF fun p _ => by simp]
   exact HO5
  case round =>
   obtain ⟨i, hi, rfl, hown5, hown6, hb3⟩ := hrel
   clear HO5 HO6
   by_cases hlt : i < 256
   ·obtain ⟨b5, off5, e5, hb5, hc5⟩ := Dq (aX hown5.out) hlt
    obtain ⟨rfl, rfl⟩ : g5 = b5 ∧ 0 = off5 := by simpa using e5
    obtain ⟨b6, off6, e6, hb6, hc6⟩ := Dq (aX hown6.out) hlt
    obtain ⟨rfl, rfl⟩ : g6 = b6 ∧ 0 = off6 := by simpa using e6
    obtain ⟨g, v, eg, hg, hgs, hcg, hfg⟩ := dW hown5.out i (by rw [List.length_map, iR]; omega)
    obtain rfl : g5 = g := by simpa using eg
    rw [decide_eq_false (show ¬ i < i by omega), Bool.false_and, Bool.not_false, Bool.and_true, Nat.zero_add] at hc5
    rw [Nat.zero_add] at hc6
    have HN : Hid (∀ v, v = (bV b.m i && !bV b.r i) → ((wr.setCell ⟨g5, i, none⟩ (.bool v)).ownsRow w1.heap.size 4 1 (.slice (some ⟨g5, 0, none⟩) 256 c5) 256 ((bl (fun p => bV b.m p && !(decide (p < i + 1) && bV b.r p))).map vB))) := fun v hv => by
     have h := (World.ownsRow.stored hown5.out i (vB v)).1
     rw [← List.map_set, Qg] at h
     rw [show bl (fun p => bV b.m p && !(decide (p < i + 1) && bV b.r p)) = bl (fun p => if p = i then v else bV b.m p && !(decide (p < i) && bV b.r p)) from qF fun p _ => by
      by_cases e : p = i
      ·subst e
       rw [if_pos rfl, hv, decide_eq_true (Nat.lt_succ_self p), Bool.true_and]
      ·rw [if_neg e, decide_eq_decide.2 (show p < i + 1 ↔ p < i by omega)]]
     exact h
    have HM : Hid (∀ v, ((wr.setCell ⟨g5, i, none⟩ (.bool v)).ownsRow w1.heap.size 4 1 (.slice (some ⟨g6, 0, none⟩) 256 c6) 256 ((bl (bV b.r)).map vB))) := fun v => dG hown6.out (by simp [Value.ownBlock]; exact fun h => hne h.symm) _
    have hz := uY.size
    clear hown5 hown6 hcg e5 e6 eg
    cases hm : bV b.m i with
    | false =>
     rw [hm] at hc5
     go_wp2
     go_roundw
     case rel => exact ⟨i + 1, by omega, by go_num, HN.out _ (by rw [hm]; rfl), HM.out _, hb3.setCell (by simp only; omega) _⟩
     case measure => simp [intOf]; omega
    | true =>
     rw [hm] at hc5
     cases hr : bV b.r i with
     | false =>
      rw [hr] at hc6
      go_wp2
      go_roundw
      case rel => exact ⟨i + 1, by omega, by go_num, HN.out _ (by rw [hm, hr]; rfl), HM.out _, hb3.setCell (by simp only; omega) _⟩
      case measure => simp [intOf]; omega
     | true =>
      rw [hr] at hc6
      go_wp2
      go_roundw
      case rel => exact ⟨i + 1, by omega, by go_num, HN.out _ (by rw [hm, hr]; rfl), HM.out _, hb3.setCell (by simp only; omega) _⟩
      case measure => simp [intOf]; omega
   ·obtain rfl : i = 256 := by omega
    have hrow := aX hown5.out
    clear hown5 hown6
    go_wp2_with fail
    refine (Fz _ _ _ _ hrow).mono ?_
    rw [show cZ (fun p => bV b.m p && !(decide (p < 256) && bV b.r p)) = F from by
     rw [← HF.out]
     exact oO fun p hp => by rw [decide_eq_true hp, Bool.true_and]; rfl]
    rintro e w5 ⟨a', c', rfl, hown5, hb6⟩
    have H5 := gO (own_base hown5 hb3.size)
    clear hown5
    go_wp2
    go_ret2
    exact ⟨a', c', rfl, H5.out, Below.step hb3 hb6⟩
end
section
theorem JJ (f : Nat → Bool) (r : Rg) (hf : 0 ≤ r.f) (hs : 1 ≤ r.s) (p : Nat) : upd f r.f.toNat (r.f + r.s).toNat false p = (f p && !mD r p) := by
 unfold upd mD
 by_cases h : r.f ≤ (p : Int) ∧ (p : Int) < r.f + r.s
 ·rw [if_pos (by omega), decide_eq_true h]
  simp
 ·rw [if_neg (by omega), decide_eq_false h]
  simp
theorem Qx {m : List Rg} {r1 r2 : Rg} (hm : cO m = true) (h1 : 0 ≤ r1.f ∧ 1 ≤ r1.s) (h2 : 0 ≤ r2.f ∧ 1 ≤ r2.s) : (gU ⟨m, [r1, r2]⟩).length ≤ m.length + 2 := by
 have e : ∀ p, p < 256 → Qi ⟨m, [r1, r2]⟩ p = upd (upd (bV m) r1.f.toNat (r1.f + r1.s).toNat false) r2.f.toNat (r2.f + r2.s).toNat false p := fun p _ => by
  rw [JJ _ r2 h2.1 h2.2, JJ _ r1 h1.1 h1.2]
  unfold Qi bV
  simp only [List.any_cons, List.any_nil, Bool.or_false, Bool.not_or, Bool.and_assoc]
 unfold gU
 rw [oO e]
 have l1 := mF (upd (bV m) r1.f.toNat (r1.f + r1.s).toNat false) r2.f.toNat (r2.f + r2.s).toNat false (by omega)
 have l2 := mF (bV m) r1.f.toNat (r1.f + r1.s).toNat false (by omega)
 have l3 := congrArg List.length (zI hm)
 omega
theorem FY (a b c : Int) : cO (gU (zS a b c)) = true := by
 have hm := (IQ a b c).1
 have h1 := gV a (m := 20) (by decide)
 have h5 := gV c (m := 30) (by decide)
 have h6 := gV a (m := 7) (by decide)
 have h7 := gV b (m := 9) (by decide)
 have h8 := gV c (m := 5) (by decide)
 have h := Qx (m := (zS a b c).m) (r1 := ⟨pk a 20 + pk c 30, 1 + pk a 7⟩) (r2 := ⟨150 + pk b 9, 1 + pk c 5⟩) hm ⟨by simp only; omega, by simp only; omega⟩ ⟨by simp only; omega, by simp only; omega⟩
 refine Dn _ (gQ h ?_)
 show 2 + 2 ≤ 40
 omega
theorem TA (a b c : Int) : ∃ split least aF : Nat, 16 * pk a 9 = (split : Int) ∧ pk b 12 = (least : Int) ∧ 1 + pk c 4 = (aF : Int) ∧ split ≤ 256 ∧ split % 16 = 0 ∧ least ≤ 256 ∧ 1 ≤ aF ∧ aF ≤ 4 := by
 have h1 := gV a (m := 9) (by decide)
 have h2 := gV b (m := 12) (by decide)
 have h3 := gV c (m := 4) (by decide)
 exact ⟨(16 * pk a 9).toNat, (pk b 12).toNat, (1 + pk c 4).toNat, by omega, by omega, by omega, by omega, by omega, by omega, by omega, by omega⟩
end
end Go.Proofs.YtcmpmobhongkiaaGreatDoor
