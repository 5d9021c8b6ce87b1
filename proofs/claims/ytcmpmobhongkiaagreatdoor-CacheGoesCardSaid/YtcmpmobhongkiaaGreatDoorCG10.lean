/- texts of this claim, joined. -/
import Derived.Test.YtcmpmobhongkiaaGreatDoorCG0
import Derived.Test.YtcmpmobhongkiaaGreatDoorCG1
import Derived.Test.YtcmpmobhongkiaaGreatDoorCG2
import Derived.Test.YtcmpmobhongkiaaGreatDoorCG8
import Derived.Test.YtcmpmobhongkiaaGreatDoorCG9
import Derived.Maps.OwnOps
import Derived.Maps.Views
import Derived.ProofKit
import Derived.OpenShut
import Derived.Below
import Derived.ChangeSame
import Derived.Carry
import Derived.StillTailTactics
import Derived.Lib.ConvBytes
import Derived.StringKeys
import Derived.Lib.Strings
set_option linter.unusedVariables false
set_option linter.unusedSimpArgs false
namespace Go.Proofs.YtcmpmobhongkiaaGreatDoor
section
open Go.RowKit
attribute [local go_sem ↓] iI

def chainTo (xs : List Int) (p k n : Nat) : Nat → List Int
 | 0 => xs
 | i + 1 => (chainTo xs p k n i).set (p + i * k) (if i + 1 < n then ((p + (i + 1) * k : Nat) : Int) else -1)

theorem fD (xs : List Int) (p k n : Nat) : ∀ i, (chainTo xs p k n i).length = xs.length
 | 0 => rfl
 | i + 1 => by simp [chainTo, fD xs p k n i]

theorem PS (a : Option Addr) (cap : Nat) (xs : List Int) (p k n : Nat) (w : World) (hl : xs.length ≤ 1000000) (hr : Row w a (xs.map vI)) (hk1 : 1 ≤ k) (hk2 : k ≤ 64) (hn1 : 1 ≤ n) (hn2 : n ≤ xs.length) (hin : p + k * n ≤ xs.length) :
  Calls Tryz.prog 181 #[.slice a xs.length cap, .int .i64 p, .int .i64 k, .int .i64 n] w fun e w' => ∃ a' c', e = .returned (.tuple #[.slice a' xs.length c', .int .i64 0]) ∧ w'.ownsRow w.heap.size 3 1 (.slice a' xs.length c') xs.length ((chainTo xs p k n n).map vI) ∧ Below w.heap.size w w' := by
 have hkn : 0 ≤ (k : Int) * (n : Int) := Int.mul_nonneg (by omega) (by omega)
 have hkn2 : (k : Int) * (n : Int) ≤ xs.length - p := by
  have : ((k * n : Nat) : Int) = (k : Int) * (n : Int) := by simp
  omega
 have HB : Hid (TS xs.length p ((k : Int) * (n : Int)) = true) := by unfold TS; exact decide_eq_true (by omega)
 have d1 : decide ((k : Int) < 1) = false := decide_eq_false (by omega)
 have d2 : decide (64 < (k : Int)) = false := decide_eq_false (by omega)
 have d3 : decide ((n : Int) < 1) = false := decide_eq_false (by omega)
 go_enter Tryz.func181, Tryz.ntmps181
 go_wp2_with (first | (go_at_call 142; refine (Dz _ _ _ _ _ _ (by omega) (by omega) (by omega)).mono ?_; rw [HB.out]; rintro e w' ⟨rfl, rfl⟩) | (go_at_call 85; refine (Nk _ _ _ _ (by omega) hr).mono ?_; rintro e w1 ⟨a', c', rfl, hown, hb⟩; have HO := gO hown; clear hown))
 go_loopw [11, 12, 41] (fun _ _ s41 wr => ∃ i : Nat, i ≤ n ∧ s41 = .int .i64 i ∧ Hid (wr.ownsRow w.heap.size 3 1 (.slice a' xs.length c') xs.length ((chainTo xs p k n i).map vI)) ∧ Below w.heap.size w wr) (fun _ _ s41 _ => n - (intOf s41).toNat)
 case atStart => exact ⟨0, Nat.zero_le _, rfl, HO, hb⟩
 case round =>
  obtain ⟨i, hi, rfl, hown, hbw⟩ := hrel
  by_cases hlt : i < n
  ·have hidx : p + i * k < xs.length := by
    have : i * k + k ≤ k * n := by rw [← Nat.succ_mul, Nat.mul_comm]; exact Nat.mul_le_mul_left _ hlt
    omega
   have hik : 0 ≤ (i : Int) * (k : Int) := Int.mul_nonneg (by omega) (by omega)
   have aGZ : (p : Int) + (i : Int) * (k : Int) < xs.length := by
    have : ((p + i * k : Nat) : Int) = (p : Int) + (i : Int) * (k : Int) := by simp
    omega
   obtain ⟨g, v, rfl, hg, hgs, hc, hf⟩ := dZ hown.out (p + i * k) (by rw [List.length_map, fD]; exact hidx)
   have aG0 : 0 ≤ ((i : Int) + 1) * (k : Int) := Int.mul_nonneg (by omega) (by omega)
   have aCO : ((i : Int) + 1) * (k : Int) = (i : Int) * (k : Int) + k := by rw [Int.add_mul, Int.one_mul]
   have aG1 : ((i : Int) + 1) * (k : Int) ≤ xs.length + 64 := by omega
   clear aCO
   by_cases hlast : i + 1 < n
   ·have hl2 : (i : Int) < (n : Int) - 1 := by omega
    go_wp2
    go_roundw
    case rel => exact ⟨i + 1, by omega, by go_num, by
      have h := (World.ownsRow.stored hown.out (p + i * k) (vI (p + ((i : Int) + 1) * k))).1
      show World.ownsRow _ _ _ _ _ _ ((chainTo xs p k n (i + 1)).map vI)
      unfold chainTo
      rw [if_pos hlast, List.map_set]
      rw [show (((p + (i + 1) * k : Nat) : Int)) = p + ((i : Int) + 1) * k from by simp]
      exact h, hbw.setCell hg _⟩
    case measure => simp [intOf]; omega
   ·have hl2 : ¬ (i : Int) < (n : Int) - 1 := by omega
    go_wp2
    go_roundw
    case rel => exact ⟨i + 1, by omega, by go_num, by
      have h := (World.ownsRow.stored hown.out (p + i * k) (vI (-1))).1
      show World.ownsRow _ _ _ _ _ _ ((chainTo xs p k n (i + 1)).map vI)
      unfold chainTo
      rw [if_neg hlast, List.map_set]
      exact h, hbw.setCell hg _⟩
    case measure => simp [intOf]; omega
  ·obtain rfl : i = n := by omega
   go_wp2
   go_ret2
   exact ⟨a', c', rfl, hown.out, hbw⟩
end
section
def objs (p k i : Nat) : List Int := (List.range i).map fun j => ((p + j * k : Nat) : Int)

theorem mW (p k i : Nat) : (objs p k i).length = i := by simp [objs]
theorem Nl (p k i : Nat) : objs p k (i + 1) = objs p k i ++ [((p + i * k : Nat) : Int)] := by simp [objs, List.range_succ]

theorem xH (xs : List Int) (p k n : Nat) (hk : 1 ≤ k) (hin : p + k * n ≤ xs.length) : ∀ j, j ≤ n → ∀ i, i < j → (chainTo xs p k n j)[p + i * k]? = some (if i + 1 < n then ((p + (i + 1) * k : Nat) : Int) else -1)
 | 0, _, i, hi => by omega
 | j + 1, hj, i, hi => by
  have hlt : ∀ i, i < n → p + i * k < xs.length := fun i hi => by
   have : i * k + k ≤ k * n := by rw [← Nat.succ_mul, Nat.mul_comm]; exact Nat.mul_le_mul_left _ hi
   omega
  unfold chainTo
  by_cases e : i = j
  ·subst e
   rw [List.getElem?_set_self (by rw [fD]; exact hlt i (by omega))]
  ·have hne : p + j * k ≠ p + i * k := by
    intro h
    have h1 : j * k = i * k := by omega
    exact e (Nat.eq_of_mul_eq_mul_right (by omega) h1).symm
   rw [List.getElem?_set_ne hne]
   exact xH xs p k n hk hin j (by omega) i (by omega)

theorem wB (xs : List Int) (p k n : Nat) (most : Int) (hk : 1 ≤ k) (hn : 1 ≤ n) (hin : p + k * n ≤ xs.length) :
  ∀ d i f, i + d = n → 1 ≤ d → d + 1 ≤ f → (i : Int) ≤ most → gU (chainTo xs p k n n) most f ((p + i * k : Nat) : Int) (objs p k i) = if (n : Int) ≤ most then some (objs p k n) else none := by
 intro d
 induction d with
 | zero => intro i f _ h; omega
 | succ d ih =>
  intro i f hid _ hf aFf
  obtain ⟨f, rfl⟩ : ∃ f', f = f' + 1 := ⟨f - 1, by omega⟩
  have hpos : ((p + i * k : Nat) : Int) ≠ -1 := by omega
  have hlt : p + i * k < xs.length := by
   have : i * k + k ≤ k * n := by rw [← Nat.succ_mul, Nat.mul_comm]; exact Nat.mul_le_mul_left _ (by omega)
   omega
  unfold gU
  rw [if_neg hpos, mW]
  by_cases hm : (i : Int) = most
  ·rw [if_pos (Or.inl (by omega)), if_neg (by omega)]
  ·have h2 : TS (chainTo xs p k n n).length ((p + i * k : Nat) : Int) 1 = true := by
    unfold TS; rw [fD]; exact decide_eq_true (by omega)
   have h3 : rY (objs p k i) ((p + i * k : Nat) : Int) = false := by
    unfold rY
    rw [List.contains_eq_any_beq, List.any_eq_false]
    intro x hx
    simp only [objs, List.mem_map, List.mem_range] at hx
    obtain ⟨j, hj, rfl⟩ := hx
    simp only [beq_iff_eq]
    intro h
    have h1 : i * k = j * k := by omega
    have := Nat.eq_of_mul_eq_mul_right (by omega) h1
    omega
   rw [if_neg (by rw [h2, h3]; simp; omega), Int.toNat_natCast, List.getD_eq_getElem?_getD, xH xs p k n hk hin n (Nat.le_refl _) i (by omega), Option.getD_some, ← Nl]
   by_cases hl : i + 1 < n
   ·rw [if_pos hl]
    exact ih (i + 1) f (by omega) (by omega) (by omega) (by omega)
   ·rw [if_neg hl]
    obtain rfl : n = i + 1 := by omega
    obtain ⟨f, rfl⟩ : ∃ f', f = f' + 1 := ⟨f - 1, by omega⟩
    unfold gU
    rw [if_pos rfl, if_pos (by omega)]

theorem tX (xs : List Int) (p k n : Nat) (most : Int) (hk : 1 ≤ k) (hn : 1 ≤ n) (hin : p + k * n ≤ xs.length) (h0 : 0 ≤ most) :
  follow (chainTo xs p k n n) p most = if (n : Int) ≤ most then some (objs p k n) else none := by
 have hkn : n ≤ k * n := Nat.le_mul_of_pos_left _ (by omega)
 have h := wB xs p k n most hk hn hin n 0 ((chainTo xs p k n n).length + 2) (by omega) hn (by rw [fD]; omega) (by omega)
 simpa [follow, objs] using h
end
section
def hit (b : Bk) (p : Nat) : Nat := if b.a ≤ p ∧ p < b.fin then 1 else 0
def cnt : List Bk → Nat → Nat
 | [], _ => 0
 | b :: l, p => hit b p + cnt l p
theorem bK (l m : List Bk) (p : Nat) : cnt (l ++ m) p = cnt l p + cnt m p := by
 induction l with
 | nil => simp [cnt]
 | cons b l ih => rw [List.cons_append, cnt, cnt, ih]; omega
theorem iU {b : Bk} {p : Nat} : hit b p = 1 ↔ inB b.a b.o p := by
 unfold hit inB Bk.fin
 split <;> simp_all
theorem DJ (b : Bk) (p : Nat) : hit b p ≤ 1 := by unfold hit; split <;> omega
theorem iJ {l : List Bk} {p : Nat} : 0 < cnt l p ↔ eP l p := by
 induction l with
 | nil => simp [cnt, eP]
 | cons b l ih =>
  rw [cnt]
  constructor
  ·intro h
   by_cases hb : hit b p = 1
   ·exact ⟨b, by simp, iU.1 hb⟩
   ·have h1 := DJ b p
    obtain ⟨c, hc, hp⟩ := ih.1 (by omega)
    exact ⟨c, by simp [hc], hp⟩
  ·rintro ⟨c, hc, hp⟩
   rw [List.mem_cons] at hc
   rcases hc with rfl | hc
   ·have := iU.2 hp; omega
   ·have := ih.2 ⟨c, hc, hp⟩; omega
theorem kP {l : List Bk} (hd : l.Pairwise fun b c => apartB b.a b.o c) (p : Nat) : cnt l p ≤ 1 := by
 induction l with
 | nil => simp [cnt]
 | cons b l ih =>
  obtain ⟨h1, h2⟩ := List.pairwise_cons.1 hd
  rw [cnt]
  have h3 := DJ b p
  have h4 := ih h2
  by_cases hb : hit b p = 1
  ·have hz : ¬ 0 < cnt l p := fun h => by
    obtain ⟨c, hc, hp⟩ := iJ.1 h
    exact iQ (h1 c hc) p (iU.1 hb) hp
   omega
  ·omega
theorem kQ {l : List Bk} (h : l.Pairwise fun x y => x.fin ≤ y.a) : l.Pairwise fun b c => apartB b.a b.o c := h.imp fun {x y} h => by unfold apartB Bk.fin at *; omega
theorem PY {z z' : Zn} {order at_ : Nat} (hz : z.ok) (ht : Taken z order z' at_) (t : Nat) (p : Nat) : cnt z'.l p + hit ⟨at_, order, t⟩ p = cnt z.l p := by
 have h1 := kP (kQ hz.2.sep) p
 have h2 := kP (kQ ht.ok.2.sep) p
 have h3 := ht.PU p
 have h4 := DJ ⟨at_, order, t⟩ p
 have h5 : hit ⟨at_, order, t⟩ p = 1 ↔ inB at_ order p := iU
 have c1 := @iJ z.l p
 have c2 := @iJ z'.l p
 by_cases hp : inB at_ order p
 ·have e1 := h5.2 hp
  have e2 : ¬ 0 < cnt z'.l p := fun h => by
   obtain ⟨c, hc, hcp⟩ := c2.1 h
   exact iQ (ht.apart c hc) p hp hcp
  have e3 := c1.2 (h3.1 (.inr hp))
  omega
 ·have e1 : hit ⟨at_, order, t⟩ p = 0 := by
   have : ¬ hit ⟨at_, order, t⟩ p = 1 := fun h => hp (h5.1 h)
   omega
  by_cases hc : eP z.l p
  ·have e2 := c1.2 hc
   rcases h3.2 hc with h | h
   ·have := c2.2 h; omega
   ·exact absurd h hp
  ·have e2 : ¬ 0 < cnt z.l p := fun h => hc (c1.1 h)
   have e3 : ¬ 0 < cnt z'.l p := fun h => hc (h3.1 (.inl (c2.1 h)))
   omega
theorem PZ {z : Zn} (hz : z.ok) {a o : Nat} (hb : bY z.f z.e a o) (hd : ∀ x ∈ z.l, apartB a o x) (t p : Nat) : cnt (z.back a o).l p = cnt z.l p + hit ⟨a, o, t⟩ p := by
 obtain ⟨g1, g2⟩ := Zn.oL hz hb hd
 have h1 := kP (kQ hz.2.sep) p
 have h2 := kP (kQ g1.2.sep) p
 have h3 := g2 p
 have h4 := DJ ⟨a, o, t⟩ p
 have h5 : hit ⟨a, o, t⟩ p = 1 ↔ inB a o p := iU
 have c1 := @iJ z.l p
 have c2 := @iJ (z.back a o).l p
 by_cases hp : inB a o p
 ·have e1 := h5.2 hp
  have e2 : ¬ 0 < cnt z.l p := fun h => by
   obtain ⟨c, hc, hcp⟩ := c1.1 h
   exact iQ (hd c hc) p hp hcp
  have e3 := c2.2 (h3.2 (.inr hp))
  omega
 ·have e1 : hit ⟨a, o, t⟩ p = 0 := by
   have : ¬ hit ⟨a, o, t⟩ p = 1 := fun h => hp (h5.1 h)
   omega
  by_cases hc : eP z.l p
  ·have e2 := c1.2 hc
   have e3 := c2.2 (h3.2 (.inl hc))
   omega
  ·have e2 : ¬ 0 < cnt z.l p := fun h => hc (c1.1 h)
   have e3 : ¬ 0 < cnt (z.back a o).l p := fun h => by
    rcases h3.1 (c2.1 h) with h' | h'
    ·exact hc h'
    ·exact hp h'
   omega

def sumTo (f : Nat → Nat) : Nat → Nat
 | 0 => 0
 | n + 1 => sumTo f n + f n
theorem Cb (f g : Nat → Nat) : ∀ n, sumTo (fun p => f p + g p) n = sumTo f n + sumTo g n
 | 0 => rfl
 | n + 1 => by rw [sumTo, sumTo, sumTo, Cb f g n]; omega
theorem Ce (b : Bk) : ∀ n, sumTo (hit b) n = min n b.fin - min n b.a
 | 0 => by simp [sumTo]
 | n + 1 => by
  rw [sumTo, Ce b n]
  unfold hit
  have h1 : b.a < b.fin := by unfold Bk.fin; have := dK b.o; omega
  split <;> omega
def szB : List Bk → Nat
 | [] => 0
 | b :: l => 2 ^ b.o + szB l
theorem Nq {l : List Bk} {N : Nat} (h : ∀ b ∈ l, b.fin ≤ N) : sumTo (cnt l) N = szB l := by
 induction l with
 | nil =>
  have : ∀ n, sumTo (cnt []) n = 0 := fun n => by
   induction n with
   | zero => rfl
   | succ n ih => rw [sumTo, ih]; rfl
  rw [this]; rfl
 | cons b l ih =>
  have h1 : cnt (b :: l) = fun p => hit b p + cnt l p := rfl
  rw [h1, Cb, Ce, ih (fun c hc => h c (by simp [hc])), szB]
  have h2 := h b (by simp)
  unfold Bk.fin at *
  generalize 2 ^ b.o = q at *
  rw [Nat.min_eq_right h2, Nat.min_eq_right (by omega)]
  omega
end
section
structure Ls where
 c : Nat
 z : Nat
 t : Nat
 p : List Nat
deriving DecidableEq
def Ls.key (l : Ls) : Nat := (l.c * 2 + l.z) * 3 + l.t
def jK (l : List Nat) : List Bk := l.map fun p => ⟨p, 0, 0⟩
def lsB : List Ls → List Bk
 | [] => []
 | l :: r => jK l.p ++ lsB r
structure Hp where
 z0 : Zn
 z1 : Zn
 m0 : Nat
 m1 : Nat
 aF : Nat
 ls : List Ls
 live : List Bk
deriving DecidableEq
def Hp.all (h : Hp) : List Bk := h.z0.l ++ (h.z1.l ++ (lsB h.ls ++ h.live))
def aCQ (aF split : Nat) (l : Ls) : Prop := l.c < aF ∧ l.z < 2 ∧ l.t < 3 ∧ 0 < l.p.length ∧ l.p.length ≤ 8 ∧ ∀ p ∈ l.p, p < 256 ∧ (p < split ↔ l.z = 0)

structure dX (h : Hp) : Prop where
 o0 : h.z0.ok
 o1 : h.z1.ok
 f0 : h.z0.f = 0
 e0 : h.z0.e = h.z1.f
 e1 : h.z1.e = 256
 m0 : h.m0 ≤ 256
 m1 : h.m1 ≤ 256
 cp : 1 ≤ h.aF ∧ h.aF ≤ 4
 lk : h.ls.Pairwise fun a b => a.key < b.key
 lr : ∀ l ∈ h.ls, aCQ h.aF h.z0.e l
 lv : ∀ b ∈ h.live, bY 0 256 b.a b.o ∧ b.t < 3
 vs : h.live.Pairwise fun x y => x.a < y.a
 one : ∀ p, cnt h.all p ≤ 1

def Hp.zone (h : Hp) (i : Nat) : Zn := if i = 0 then h.z0 else h.z1
def Hp.iG (h : Hp) (i : Nat) (z : Zn) : Hp := if i = 0 then { h with z0 := z } else { h with z1 := z }
def Hp.gX (h : Hp) (p : Nat) : Nat := if p < h.z0.e then 0 else 1
def Hp.min (h : Hp) (i : Nat) : Nat := if i = 0 then h.m0 else h.m1
def Hp.gY (h : Hp) (a o : Nat) : Hp := h.iG (h.gX a) ((h.zone (h.gX a)).back a o)
def Hp.held (h : Hp) (i : Nat) (urgent low : Bool) : Nat := (if urgent then h.min i / 2 else h.min i) + (if i = 0 ∧ low = false then (h.z1.e - h.z1.f) / 32 else 0)
def Hp.jS (h : Hp) (i order t hd : Nat) : Option (Hp × Nat) := if szB (h.zone i).l < hd + 2 ^ order then none else match (h.zone i).take order t with
 | some (z', a) => some (h.iG i z', a)
 | none => none
def iK (ls : List Ls) (k : Nat) : Nat := (ls.takeWhile fun l => decide (l.key < k)).length
def nU (ls : List Ls) (k : Nat) : Bool := match ls[iK ls k]? with
 | some l => decide (l.key = k)
 | none => false
def bF (ls : List Ls) (l : Ls) (p : Nat) : List Ls := match ls[iK ls l.key]? with
 | some x => if x.key = l.key then ls.set (iK ls l.key) { x with p := x.p ++ [p] } else ls.take (iK ls l.key) ++ { l with p := [p] } :: ls.drop (iK ls l.key)
 | none => ls.take (iK ls l.key) ++ { l with p := [p] } :: ls.drop (iK ls l.key)
def Hp.fill (h : Hp) (l : Ls) (hd : Nat) : Nat → Hp
 | 0 => h
 | n + 1 => match h.jS l.z 0 l.t hd with
  | some (h', q) => Hp.fill { h' with ls := bF h'.ls l q } l hd n
  | none => h
def Hp.single (h : Hp) (l : Ls) (hd : Nat) : Option (Hp × Nat) := match h.ls[iK h.ls l.key]? with
 | some x => if x.key = l.key then some ({ h with ls := if x.p.length = 1 then h.ls.eraseIdx (iK h.ls l.key) else h.ls.set (iK h.ls l.key) { x with p := x.p.dropLast } }, x.p.getLastD 0) else (h.jS l.z 0 l.t hd).map fun r => (r.1.fill l hd 3, r.2)
 | none => (h.jS l.z 0 l.t hd).map fun r => (r.1.fill l hd 3, r.2)
def Hp.ask (h : Hp) (cpu i order t : Nat) (urgent low : Bool) : Option (Hp × Nat) := if order = 0 then h.single ⟨cpu, i, t, []⟩ (h.held i urgent low) else h.jS i order t (h.held i urgent low)
def Hp.attempt (h : Hp) (cpu order t : Nat) (urgent low : Bool) : Option (Hp × Nat) :=
 if low then h.ask cpu 0 order t urgent low else match h.ask cpu 1 order t urgent low with
  | some r => some r
  | none => h.ask cpu 0 order t urgent low
def aV (h : Hp) : List Nat → Hp
 | [] => h
 | p :: l => aV (h.gY p 0) l
def bT (h : Hp) : List Ls → Hp
 | [] => h
 | l :: r => bT (aV h l.p) r
def Hp.drain (h : Hp) : Hp := { bT h h.ls with ls := [] }
def Hp.alloc (h : Hp) (cpu order t : Nat) (urgent low : Bool) : Option (Hp × Nat) :=
 match (match h.attempt cpu order t urgent low with
  | some r => some r
  | none => h.drain.attempt cpu order t urgent low) with
 | some (h', a) => some ({ h' with live := bD h'.live ⟨a, order, t⟩ }, a)
 | none => none
def Hp.give (h : Hp) (cpu p : Nat) : Hp :=
 let l : Ls := ⟨cpu, h.gX p, (h.zone (h.gX p)).y.getD ((p - (h.zone (h.gX p)).f) / 8) 0, []⟩
 let h1 := { h with ls := bF h.ls l p }
 match h1.ls[iK h1.ls l.key]? with
 | some x => if 8 < x.p.length then { aV h1 (x.p.take 4) with ls := h1.ls.set (iK h1.ls l.key) { x with p := x.p.drop 4 } } else h1
 | none => h1
def Hp.fZ (h : Hp) (cpu i : Nat) (b : Bk) : Hp :=
 let h1 := { h with live := h.live.eraseIdx i }
 if 0 < b.o then h1.gY b.a b.o else h1.give cpu b.a
end
section
structure Sl where
 p : Nat
 n : Nat
 h : Int
deriving DecidableEq
structure Ca where
 ns : List (List UInt8)
 z : Nat
 r : Nat
 o : Nat
 sl : List Sl
 ac : List Int
deriving DecidableEq
structure Sy where
 w : List Int
 h : Hp
 cs : List Ca
deriving DecidableEq

def dR (k : Nat) : Nat := if 4 ≤ 16 / k then 0 else if 4 ≤ 32 / k then 1 else 2
def dW (k : Nat) : Nat := 16 * 2 ^ dR k / k
def nameB (s : List UInt8) : Bool := decide (0 < s.length ∧ s.length ≤ 8) && s.all fun c => decide ((97 ≤ c ∧ c ≤ 122) ∨ (48 ≤ c ∧ c ≤ 57))
def iH (c : Ca) (p : Nat) (a : Int) : Bool := decide (0 ≤ a - 16 * p ∧ a - 16 * p < c.r * c.z ∧ (a - 16 * p) % c.z = 0)

structure pG (s : Sy) (c : Ca) (x : Sl) : Prop where
 live : ∃ b ∈ s.h.live, b.a = x.p ∧ b.o = c.o
 chain : ∃ l, follow s.w x.h c.r = some l ∧ l.length = x.n ∧ ∀ a ∈ l, iH c x.p a = true
structure oM (s : Sy) (c : Ca) : Prop where
 z : 1 ≤ c.z ∧ c.z ≤ 64
 o : c.o = dR c.z
 r : c.r = dW c.z
 ns : c.ns ≠ []
 nm : ∀ n ∈ c.ns, nameB n = true
 nr : c.ns.Pairwise fun a b => Go.Op.bytesLess a b = true
 ac : c.ac.length = s.h.aF
 sr : c.sl.Pairwise fun a b => a.p < b.p
 sk : ∀ x ∈ c.sl, pG s c x
 aw : ∀ a ∈ c.ac, a = -1 ∨ ∃ x ∈ c.sl, (x.p : Int) = a
 ad : c.ac.Pairwise fun a b => a = b → a = -1
structure dM (s : Sy) : Prop where
 wl : s.w.length = 4096
 hk : dX s.h
 cl : s.cs.length ≤ 20
 ck : ∀ c ∈ s.cs, oM s c
 zd : s.cs.Pairwise fun c d => c.z ≠ d.z
 nd : s.cs.Pairwise fun c d => ∀ n ∈ c.ns, n ∉ d.ns
 pd : s.cs.Pairwise fun c d => ∀ x ∈ c.sl, ∀ y ∈ d.sl, x.p ≠ y.p

def Sy.named (s : Sy) (n : List UInt8) : Option Nat := s.cs.findIdx? fun c => c.ns.contains n
def Sy.eU (s : Sy) (i : Nat) (c : Ca) : Sy := { s with cs := s.cs.set i c }
def Ca.find (c : Ca) (p : Int) : Option Nat := c.sl.findIdx? fun x => decide ((x.p : Int) = p)
def EP (l : List Sl) (p : Nat) : Nat := (l.takeWhile fun x => decide (x.p < p)).length
def jH (l : List Sl) (x : Sl) : List Sl := l.take (EP l x.p) ++ x :: l.drop (EP l x.p)
def Sy.grow (s : Sy) (i cpu : Nat) (c : Ca) : Option (Sy × Nat) := match s.h.alloc cpu c.o 0 false false with
 | some (h', a) => some ({ w := chainTo s.w (16 * a) c.z c.r c.r, h := h', cs := s.cs.set i { c with sl := jH c.sl ⟨a, c.r, ((16 * a : Nat) : Int)⟩ } }, EP c.sl a)
 | none => none
def Ca.own (c : Ca) (cpu : Nat) : Option Nat := match c.find (c.ac.getD cpu (-1)) with
 | some k => match c.sl[k]? with
  | some x => if 0 < x.n then some k else none
  | none => none
 | none => none
def Ca.nobody (c : Ca) : Option Nat := c.sl.findIdx? fun x => decide (0 < x.n) && !c.ac.contains (x.p : Int)
def Sy.mine (s : Sy) (i cpu k : Nat) : Sy := match s.cs[i]? with
 | some c => match c.sl[k]? with
  | some x => s.eU i { c with ac := c.ac.set cpu (x.p : Int) }
  | none => s
 | none => s
def Sy.choose (s : Sy) (i cpu : Nat) : Option (Sy × Nat) := match s.cs[i]? with
 | some c => match c.own cpu with
  | some k => some (s, k)
  | none => match c.nobody with
   | some k => some (s.mine i cpu k, k)
   | none => match s.grow i cpu c with
    | some (s', k) => some (s'.mine i cpu k, k)
    | none => none
 | none => none
def Sy.pop (s : Sy) (i k : Nat) : Option (Sy × Int) := match s.cs[i]? with
 | some c => match c.sl[k]? with
  | some x => some (s.eU i { c with sl := c.sl.set k ⟨x.p, x.n - 1, s.w.getD x.h.toNat 0⟩ }, x.h)
  | none => none
 | none => none
def Sy.one (s : Sy) (i cpu : Nat) : Option (Sy × Int) := match s.choose i cpu with
 | some (s', k) => s'.pop i k
 | none => none
def Sy.bulk (s : Sy) (i cpu : Nat) : Nat → Option (Sy × List Int)
 | 0 => some (s, [])
 | n + 1 => match s.bulk i cpu n with
  | some (s', l) => match s'.one i cpu with
   | some (t, a) => some (t, l ++ [a])
   | none => none
  | none => none
def vV (l : List (List UInt8)) (n : List UInt8) : Nat := (l.takeWhile fun x => Go.Op.bytesLess x n).length
def Sy.create (s : Sy) (n : List UInt8) (z : Nat) : Option Sy := match s.cs.findIdx? fun c => decide (c.z = z) with
 | some i => match s.cs[i]? with
  | some c => some (s.eU i { c with ns := c.ns.take (vV c.ns n) ++ n :: c.ns.drop (vV c.ns n) })
  | none => none
 | none => if s.cs.length = 20 then none else some { s with cs := s.cs ++ [⟨[n], z, dW z, dR z, [], List.replicate s.h.aF (-1)⟩] }
end
section
open Go.RowKit

structure Safe (X : Nat → Prop) (w w' : World) : Prop where
 os : w'.os = w.os
 tape : w'.tape = w.tape
 output : w'.output = w.output
 size : w.heap.size ≤ w'.heap.size
 block : ∀ k, k < w.heap.size → X k → w'.heap[k]? = w.heap[k]?
section
variable {X Y : Nat → Prop} {a b c w w' : World} {B : Nat}
theorem Safe.refl (X : Nat → Prop) (w : World) : Safe X w w := ⟨rfl, rfl, rfl, Nat.le_refl _, fun _ _ _ => rfl⟩
theorem Safe.trans (h : Safe X a b) (k : Safe X b c) : Safe X a c := ⟨k.os.trans h.os, k.tape.trans h.tape, k.output.trans h.output, gQ h.size k.size, fun j hj hx => (k.block j (gI hj h.size) hx).trans (h.block j hj hx)⟩
theorem Safe.sub (h : Safe X a b) (hy : ∀ k, k < a.heap.size → Y k → X k) : Safe Y a b := ⟨h.os, h.tape, h.output, h.size, fun j hj hx => h.block j hj (hy j hj hx)⟩
theorem Safe.fK (h : Below w.heap.size w w') : Safe X w w' := ⟨h.os, h.tape, h.output, h.size, fun k hk _ => h.block k hk⟩
theorem Safe.jM {row : Option Nat} (h : w.grownBy w' row) (hr : ∀ k, X k → some k ≠ row) : Safe X w w' := ⟨h.os, h.tape, h.output, h.size, fun k hk hx => h.block k hk (hr k hx)⟩
theorem Safe.then (h : Safe X a b) (k : Below b.heap.size b c) : Safe X a c := h.trans (.fK k)
theorem Safe.below (h : Safe X w w') (hX : ∀ k, k < B → X k) (hB : B ≤ w.heap.size) : Below B w w' := ⟨h.os, h.tape, h.output, h.size, fun k hk => h.block k (gI hk hB) (hX k hk)⟩
theorem Safe.after (h0 : Below B a w) (h : Safe X w w') (hX : ∀ k, k < B → X k) (hB : B ≤ w.heap.size) : Below B a w' := h0.trans (h.below hX hB)
theorem Safe.set (h : Safe X a b) {g : Nat} (hg : ¬ X g) (i : Nat) (u : Value) : Safe X a (b.setCell ⟨g, i, none⟩ u) := h.trans ⟨rfl, rfl, rfl, by simp [World.setCell], fun k hk hx => Below.heap_setCell _ _ _ _ (fun e => hg (by rw [← show k = g from e]; exact hx))⟩
theorem Safe.cell (h : Safe X w w') {p : Addr} (hp : p.block < w.heap.size) (hx : X p.block) : w'.cell? p = w.cell? p := World.cell?_of_block (w := w) (h.block p.block hp hx)
theorem Safe.frozen (h : Safe X w w') {p : Addr} (hp : p.block < w.heap.size) (hx : X p.block) : w'.frozen? p = w.frozen? p := World.frozen?_of_block (w := w) (h.block p.block hp hx)
theorem Safe.box (h : Safe X w w') {g : Nat} {vs : Array Value} (hc : ∀ o, w.cell? ⟨g, o, none⟩ = vs[o]?) (hg : g < w.heap.size) (hx : X g) (o : Nat) : w'.cell? ⟨g, o, none⟩ = vs[o]? := (h.cell (p := ⟨g, o, none⟩) hg hx).trans (hc o)
theorem Safe.Qg (h : Safe X w w') {g : Nat} (hc : ∀ o, w.frozen? ⟨g, o, none⟩ = false) (hg : g < w.heap.size) (hx : X g) (o : Nat) : w'.frozen? ⟨g, o, none⟩ = false := (h.frozen (p := ⟨g, o, none⟩) hg hx).trans (hc o)
end
end
section
open Go.RowKit

def sV (l : List UInt8) : Value := .string ⟨l.toArray⟩
def encS (l : List UInt8) : List Value := [sV l]
theorem aU (l : List UInt8) : (encS l).length = 1 := rfl
theorem mD {w : World} {g o : Nat} {r : List UInt8} (hc : ∀ i v, (encS r)[i]? = some v → w.cell? ⟨g, o + i, none⟩ = some v) : w.cell? ⟨g, o, none⟩ = some (.string ⟨r.toArray⟩) := hc 0 _ rfl
def aY (x : Sl) : List Value := [vI x.p, vI x.n, vI x.h]
theorem aK (x : Sl) : (aY x).length = 3 := rfl
theorem fB {w : World} {b o : Nat} {r : Sl} (hc : ∀ i v, (aY r)[i]? = some v → w.cell? ⟨b, o + i, none⟩ = some v) : w.cell? ⟨b, o, none⟩ = some (.int .i64 r.p) ∧ w.cell? ⟨b, o + 1, none⟩ = some (.int .i64 r.n) ∧ w.cell? ⟨b, o + 2, none⟩ = some (.int .i64 r.h) := ⟨hc 0 _ rfl, hc 1 _ rfl, hc 2 _ rfl⟩
structure Cc where
 a1 : Option Addr
 n1 : Nat
 c1 : Nat
 a2 : Option Addr
 n2 : Nat
 c2 : Nat
 a3 : Option Addr
 n3 : Nat
 c3 : Nat
 c : Ca
def bW (y : Cc) : List Value := [.slice y.a1 y.n1 y.c1, vI y.c.z, vI y.c.r, vI y.c.o, .slice y.a2 y.n2 y.c2, .slice y.a3 y.n3 y.c3]
theorem cO (y : Cc) : (bW y).length = 6 := rfl
theorem nC {w : World} {b o : Nat} {y : Cc} (hc : ∀ i v, (bW y)[i]? = some v → w.cell? ⟨b, o + i, none⟩ = some v) : w.cell? ⟨b, o, none⟩ = some (.slice y.a1 y.n1 y.c1) ∧ w.cell? ⟨b, o + 1, none⟩ = some (.int .i64 y.c.z) ∧ w.cell? ⟨b, o + 2, none⟩ = some (.int .i64 y.c.r) ∧ w.cell? ⟨b, o + 3, none⟩ = some (.int .i64 y.c.o) ∧ w.cell? ⟨b, o + 4, none⟩ = some (.slice y.a2 y.n2 y.c2) ∧ w.cell? ⟨b, o + 5, none⟩ = some (.slice y.a3 y.n3 y.c3) := ⟨hc 0 _ rfl, hc 1 _ rfl, hc 2 _ rfl, hc 3 _ rfl, hc 4 _ rfl, hc 5 _ rfl⟩
structure IZ (w : World) (y : Cc) : Prop where
 l1 : y.c.ns.length = y.n1
 l2 : y.c.sl.length = y.n2
 l3 : y.c.ac.length = y.n3
 r1 : Row w y.a1 (flat encS y.c.ns)
 r2 : Row w y.a2 (flat aY y.c.sl)
 r3 : Row w y.a3 (y.c.ac.map vI)
 k1 : y.n1 ≤ y.c1
 k2 : y.n2 ≤ y.c2
 k3 : y.n3 ≤ y.c3
theorem IZ.below {w w' : World} {y : Cc} (h : IZ w y) (hb : Below w.heap.size w w') : IZ w' y := ⟨h.l1, h.l2, h.l3, h.r1.below hb, h.r2.below hb, h.r3.below hb, h.k1, h.k2, h.k3⟩

set_option maxHeartbeats 4000000 in
set_option maxRecDepth 100000 in
theorem yV (c : Ca) (a1 a2 a3 : Option Addr) (n1 c1 n2 c2 n3 c3 p : Nat) (a : Int) (w : World) (hz : 1 ≤ c.z) (hrz : c.r * c.z ≤ 100000) (hp : p ≤ 1000) (ha1 : -1000000000000 ≤ a) (ha2 : a ≤ 1000000000000) :
  Calls Tryz.prog 90 #[.agg #[.slice a1 n1 c1, .int .i64 c.z, .int .i64 c.r, .int .i64 c.o, .slice a2 n2 c2, .slice a3 n3 c3], .int .i64 p, .int .i64 a] w fun ev w' => ev = .returned (.bool (iH c p a)) ∧ Below w.heap.size w w' := by
 have hb := aC w (.cells #[.slice a1 n1 c1, .int .i64 (c.z : Int), .int .i64 (c.r : Int), .int .i64 (c.o : Int), .slice a2 n2 c2, .slice a3 n3 c3] 94)
 have K := bC w #[.slice a1 n1 c1, .int .i64 (c.z : Int), .int .i64 (c.r : Int), .int .i64 (c.o : Int), .slice a2 n2 c2, .slice a3 n3 c3] 94
 have k1 := K 1
 have k2 := K 2
 simp only [gB, gC, gD] at k1 k2
 have hmul : ((c.r : Int) * (c.z : Int)) = ((c.r * c.z : Nat) : Int) := by rw [Int.natCast_mul]
 have hnn : 0 ≤ (c.r : Int) * (c.z : Int) := by rw [hmul]; omega
 have hub : (c.r : Int) * (c.z : Int) ≤ 100000 := by rw [hmul]; omega
 clear hmul
 have HB := gO hb
 clear hb K
 have hzi : ((c.z : Int) == 0) = false := by rw [beq_eq_false_iff_ne]; omega
 by_cases h1 : 0 ≤ a - p * 16
 ·by_cases h2 : a - p * 16 < (c.r : Int) * c.z
  ·have d1 : decide (0 ≤ a - (p : Int) * 16) = true := decide_eq_true h1
   go_enter Tryz.func90, Tryz.ntmps90
   go_wp2_with fail
   go_ret
   refine ⟨aX ?_, HB.out⟩
   unfold iH
   rw [Int.mul_comm 16 (p : Int)]
   by_cases h3 : (a - (p : Int) * 16) % (c.z : Int) = 0
   ·rw [h3, decide_eq_true ⟨h1, h2, rfl⟩]; rfl
   ·rw [decide_eq_false (fun h => h3 h.2.2)]
    exact beq_eq_false_iff_ne.2 h3
  ·have d1 : decide (0 ≤ a - (p : Int) * 16) = true := decide_eq_true h1
   go_enter Tryz.func90, Tryz.ntmps90
   go_wp2_with fail
   go_ret
   refine ⟨aX ?_, HB.out⟩
   unfold iH
   rw [Int.mul_comm 16 (p : Int)]
   symm
   exact decide_eq_false (fun h => absurd h.2.1 (Int.not_lt.2 h2))
 ·have d1 : decide (0 ≤ a - (p : Int) * 16) = false := decide_eq_false h1
  go_enter Tryz.func90, Tryz.ntmps90
  go_wp2_with fail
  go_ret
  refine ⟨aX ?_, HB.out⟩
  unfold iH
  rw [Int.mul_comm 16 (p : Int)]
  symm
  exact decide_eq_false (fun h => absurd h.1 (Int.not_le.2 h1))
end
section
theorem dA (h : Hp) (p : Nat) : cnt h.all p = cnt h.z0.l p + cnt h.z1.l p + cnt (lsB h.ls) p + cnt h.live p := by
 unfold Hp.all
 rw [bK, bK, bK]
 omega
theorem zC (h : Hp) (i p : Nat) : cnt (h.zone i).l p ≤ cnt h.all p := by
 rw [dA]
 unfold Hp.zone
 split <;> omega
theorem FN (h : Hp) (i : Nat) (z : Zn) (p : Nat) : cnt (h.iG i z).all p + cnt (h.zone i).l p = cnt h.all p + cnt z.l p := by
 rw [dA, dA]
 unfold Hp.iG Hp.zone
 split <;> simp only <;> omega
theorem dX.zone {h : Hp} (hk : dX h) (i : Nat) : (h.zone i).ok := by
 unfold Hp.zone
 split
 ·exact hk.o0
 ·exact hk.o1
theorem dX.iG {h : Hp} (hk : dX h) (i : Nat) {z : Zn} (hz : z.ok) (hf : z.f = (h.zone i).f) (he : z.e = (h.zone i).e) (h1 : ∀ p, cnt (h.iG i z).all p ≤ 1) : dX (h.iG i z) := by
 by_cases hi : i = 0
 ·subst hi
  have e : h.iG 0 z = { h with z0 := z } := if_pos rfl
  have e2 : h.zone 0 = h.z0 := if_pos rfl
  rw [e2] at hf he
  rw [e] at h1 ⊢
  exact ⟨hz, hk.o1, hf.trans hk.f0, he.trans hk.e0, hk.e1, hk.m0, hk.m1, hk.cp, hk.lk, fun l hl => by simp only; rw [he]; exact hk.lr l hl, hk.lv, hk.vs, h1⟩
 ·have e : h.iG i z = { h with z1 := z } := if_neg hi
  have e2 : h.zone i = h.z1 := if_neg hi
  rw [e2] at hf he
  rw [e] at h1 ⊢
  exact ⟨hk.o0, hz, hk.f0, hk.e0.trans hf.symm, he.trans hk.e1, hk.m0, hk.m1, hk.cp, hk.lk, hk.lr, hk.lv, hk.vs, h1⟩
structure Same (h g : Hp) : Prop where
 m0 : g.m0 = h.m0
 m1 : g.m1 = h.m1
 aF : g.aF = h.aF
 split : g.z0.e = h.z0.e
theorem Same.refl (h : Hp) : Same h h := ⟨rfl, rfl, rfl, rfl⟩
theorem Same.trans {a b c : Hp} (h1 : Same a b) (h2 : Same b c) : Same a c := ⟨h2.m0.trans h1.m0, h2.m1.trans h1.m1, h2.aF.trans h1.aF, h2.split.trans h1.split⟩
theorem CJ {h : Hp} {i : Nat} {z : Zn} (he : z.e = (h.zone i).e) : Same h (h.iG i z) ∧ (h.iG i z).ls = h.ls ∧ (h.iG i z).live = h.live := by
 unfold Hp.iG
 unfold Hp.zone at he
 split
 ·rename_i hi
  rw [if_pos hi] at he
  exact ⟨⟨rfl, rfl, rfl, he⟩, rfl, rfl⟩
 ·exact ⟨⟨rfl, rfl, rfl, rfl⟩, rfl, rfl⟩
theorem dX.fits {h : Hp} (hk : dX h) {a o : Nat} (hb : bY 0 256 a o) : bY (h.zone (h.gX a)).f (h.zone (h.gX a)).e a o := by
 obtain ⟨h1, h2, h3, h4⟩ := hb
 unfold Hp.gX
 by_cases hlt : a < h.z0.e
 ·rw [if_pos hlt]
  have e : h.zone 0 = h.z0 := if_pos rfl
  rw [e, hk.f0]
  exact ⟨h1, by omega, hlt, h4⟩
 ·rw [if_neg hlt]
  have e : h.zone 1 = h.z1 := if_neg (by omega)
  rw [e, hk.e1, ← hk.e0]
  exact ⟨h1, by omega, h3, h4⟩
theorem dX.gY {h : Hp} (hk : dX h) {a o : Nat} (hb : bY 0 256 a o) (hd : ∀ p, cnt h.all p + hit ⟨a, o, 0⟩ p ≤ 1) :
  dX (h.gY a o) ∧ (∀ p, cnt (h.gY a o).all p = cnt h.all p + hit ⟨a, o, 0⟩ p) ∧ Same h (h.gY a o) ∧ (h.gY a o).ls = h.ls ∧ (h.gY a o).live = h.live := by
 have hz := hk.zone (h.gX a)
 have hfit := hk.fits hb
 have hap : ∀ x ∈ (h.zone (h.gX a)).l, apartB a o x := fun x hx => dB fun p h1 h2 => by
  have g1 := hd p
  have g2 := zC h (h.gX a) p
  have g3 := iJ.2 (show eP (h.zone (h.gX a)).l p from ⟨x, hx, h2⟩)
  have g4 : hit ⟨a, o, 0⟩ p = 1 := iU.2 h1
  omega
 have hc : ∀ p, cnt (h.gY a o).all p = cnt h.all p + hit ⟨a, o, 0⟩ p := fun p => by
  have g1 := FN h (h.gX a) ((h.zone (h.gX a)).back a o) p
  have g2 := PZ hz hfit hap 0 p
  unfold Hp.gY
  omega
 have hs := CJ (h := h) (i := h.gX a) (z := (h.zone (h.gX a)).back a o) rfl
 exact ⟨hk.iG _ (Zn.oL hz hfit hap).1 rfl rfl (fun p => by have := hc p; unfold Hp.gY at this; rw [this]; exact hd p), hc, hs.1, hs.2.1, hs.2.2⟩
theorem Qq {z : Zn} (hz : z.ok) : szB z.l ≤ 256 := by
 have h1 : ∀ b ∈ z.l, b.fin ≤ 256 := fun b hb => by
  have h2 := (hz.2.fit b hb).1
  have h3 := pJ hz.1.e16 h2
  have h4 := hz.1.e2
  unfold Bk.fin
  omega
 rw [← Nq h1]
 have h5 : ∀ n, sumTo (cnt z.l) n ≤ n := fun n => by
  induction n with
  | zero => exact Nat.le_refl _
  | succ n ih =>
   have := kP (kQ hz.2.sep) n
   rw [sumTo]
   omega
 exact h5 256
structure NK (h : Hp) (order : Nat) (h' : Hp) (a : Nat) : Prop where
 ok : dX h'
 fit : bY 0 256 a order
 c : ∀ t p, cnt h'.all p + hit ⟨a, order, t⟩ p = cnt h.all p
 same : Same h h'
 live : h'.live = h.live
theorem dX.jS {h h' : Hp} (hk : dX h) {i order t hd a : Nat} (ho : order ≤ 4) (ht : t < 3) (hi : i < 2) (he : h.jS i order t hd = some (h', a)) :
  NK h order h' a ∧ h'.ls = h.ls ∧ (a < h.z0.e ↔ i = 0) := by
 unfold Hp.jS at he
 split at he
 ·cases he
 ·cases hz : (h.zone i).take order t with
  | none => rw [hz] at he; cases he
  | some r =>
   obtain ⟨z', a'⟩ := r
   rw [hz] at he
   simp only [Option.some.injEq, Prod.mk.injEq] at he
   obtain ⟨rfl, rfl⟩ := he
   have Bl := hk.zone i
   have hex : ∃ b ∈ (h.zone i).l, order ≤ b.o := Classical.byContradiction fun hn => by
    rw [Zn.BZ hn] at hz; cases hz
   obtain ⟨z2, a2, h1, hT⟩ := Zn.BU Bl ho ht hex
   rw [hz] at h1
   simp only [Option.some.injEq, Prod.mk.injEq] at h1
   obtain ⟨rfl, rfl⟩ := h1
   have hc : ∀ t p, cnt (h.iG i z').all p + hit ⟨a', order, t⟩ p = cnt h.all p := fun t p => by
    have g1 := FN h i z' p
    have g2 := PY Bl hT t p
    omega
   have hs := CJ (h := h) (i := i) (z := z') hT.e
   have hfit := hT.fit
   have hbound : bY 0 256 a' order ∧ (a' < h.z0.e ↔ i = 0) := by
    obtain ⟨g1, g2, g3, g4⟩ := hfit
    unfold Hp.zone at g2 g3
    by_cases hi0 : i = 0
    ·rw [if_pos hi0] at g2 g3
     have := hk.o0.1.e2
     exact ⟨⟨g1, by omega, by omega, g4⟩, fun _ => hi0, fun _ => g3⟩
    ·rw [if_neg hi0] at g2 g3
     have := hk.e1
     have := hk.e0
     exact ⟨⟨g1, by omega, by omega, g4⟩, fun h => by omega, fun h => absurd h hi0⟩
   exact ⟨⟨hk.iG i hT.ok hT.f hT.e (fun p => by have := hc 0 p; have := hk.one p; omega), hbound.1, hc, hs.1, hs.2.2⟩, hs.2.1, hbound.2⟩
end
section
theorem Jm (l m : List Ls) : lsB (l ++ m) = lsB l ++ lsB m := by
 induction l with
 | nil => rfl
 | cons x l ih => rw [List.cons_append, lsB, lsB, ih, List.append_assoc]
theorem iD (l m : List Nat) (q : Nat) : cnt (jK (l ++ m)) q = cnt (jK l) q + cnt (jK m) q := by
 unfold jK
 rw [List.map_append, bK]
theorem xQ (p q : Nat) : cnt (jK [p]) q = hit ⟨p, 0, 0⟩ q := rfl
theorem iZ (l m : List Ls) (q : Nat) : cnt (lsB (l ++ m)) q = cnt (lsB l) q + cnt (lsB m) q := by rw [Jm, bK]
theorem fM (x : Ls) (l : List Ls) (q : Nat) : cnt (lsB (x :: l)) q = cnt (jK x.p) q + cnt (lsB l) q := by rw [lsB, bK]
theorem zD {l : List Ls} {i : Nat} (hi : i < l.length) : l = l.take i ++ l[i] :: l.drop (i + 1) := by
 rw [← List.drop_eq_getElem_cons hi, List.take_append_drop]
theorem qE {l : List Ls} {i : Nat} (hi : i < l.length) (x : Ls) (q : Nat) : cnt (lsB (l.set i x)) q + cnt (jK l[i].p) q = cnt (lsB l) q + cnt (jK x.p) q := by
 have h1 : l.set i x = l.take i ++ x :: l.drop (i + 1) := by rw [List.set_eq_take_append_cons_drop, if_pos hi]
 conv => rhs; rw [zD hi]
 rw [h1, iZ, iZ, fM, fM]
 omega
theorem rO {l : List Ls} {i : Nat} (hi : i < l.length) (q : Nat) : cnt (lsB (l.eraseIdx i)) q + cnt (jK l[i].p) q = cnt (lsB l) q := by
 conv => rhs; rw [zD hi]
 rw [List.eraseIdx_eq_take_drop_succ, iZ, iZ, fM]
 omega
theorem xR (l : List Ls) (i : Nat) (x : Ls) (q : Nat) : cnt (lsB (l.take i ++ x :: l.drop i)) q = cnt (lsB l) q + cnt (jK x.p) q := by
 conv => rhs; rw [← List.take_append_drop i l]
 rw [iZ, iZ, fM]
 omega
theorem cnt_push (ls : List Ls) (l : Ls) (p q : Nat) : cnt (lsB (bF ls l p)) q = cnt (lsB ls) q + hit ⟨p, 0, 0⟩ q := by
 unfold bF
 split
 ·rename_i x hx
  obtain ⟨hi, hxi⟩ := List.getElem?_eq_some_iff.1 hx
  split
  ·have h := qE hi { x with p := x.p ++ [p] } q
   rw [hxi] at h
   simp only [iD, xQ] at h
   omega
  ·rw [xR]
   rfl
 ·rw [xR]
  rfl

def jL (ls : List Ls) : Prop := ls.Pairwise fun a b => a.key < b.key
theorem Qr (ls : List Ls) (k : Nat) : iK ls k ≤ ls.length := by
 unfold iK
 exact (List.takeWhile_prefix _).length_le
theorem wI {ls : List Ls} {k : Nat} : ∀ x ∈ ls.take (iK ls k), x.key < k := by
 intro x hx
 unfold iK at hx
 rw [yM] at hx
 exact of_decide_eq_true (IU (p := fun l : Ls => decide (l.key < k)) hx)
theorem qP {ls : List Ls} (h : jL ls) {k : Nat} : ∀ x ∈ ls.drop (iK ls k), k ≤ x.key := by
 intro x hx
 unfold iK at hx
 rw [drop_tw] at hx
 induction ls with
 | nil => simp at hx
 | cons y ls ih =>
  obtain ⟨h1, h2⟩ := List.pairwise_cons.1 h
  by_cases hy : y.key < k
  ·rw [List.dropWhile_cons_of_pos (by simpa using hy)] at hx
   exact ih h2 hx
  ·rw [List.dropWhile_cons_of_neg (by simpa using hy), List.mem_cons] at hx
   rcases hx with rfl | hx
   ·omega
   ·have := h1 x hx; omega
theorem zF {ls : List Ls} (h : jL ls) {i : Nat} (hi : i < ls.length) {x : Ls} (hx : x.key = ls[i].key) : jL (ls.set i x) := by
 unfold jL at *
 rw [gN] at *
 intro a b ha hb hab
 rw [List.length_set] at ha hb
 rw [List.getElem_set, List.getElem_set]
 have h1 := h a b ha hb hab
 by_cases e1 : i = a
 ·subst e1
  rw [if_pos rfl, if_neg (by omega), hx]
  exact h1
 ·rw [if_neg e1]
  by_cases e2 : i = b
  ·subst e2
   rw [if_pos rfl, hx]
   exact h1
  ·rw [if_neg e2]
   exact h1
theorem FP {ls : List Ls} (h : jL ls) {x : Ls} (hn : ∀ y ∈ ls, y.key ≠ x.key) : jL (ls.take (iK ls x.key) ++ x :: ls.drop (iK ls x.key)) := by
 unfold jL
 rw [List.pairwise_append]
 refine ⟨h.sublist (List.take_sublist _ _), List.pairwise_cons.2 ⟨fun y hy => ?_, h.sublist (List.drop_sublist _ _)⟩, fun a ha b hb => ?_⟩
 ·have h1 := qP h y hy
  have h2 := hn y (List.mem_of_mem_drop hy)
  omega
 ·have h1 := wI a ha
  rw [List.mem_cons] at hb
  rcases hb with rfl | hb
  ·exact h1
  ·have h2 := qP h b hb
   omega
theorem Lp {ls : List Ls} (h : jL ls) {x : Ls} (hx : x ∈ ls) : ls[iK ls x.key]? = some x := by
 have hm : x ∈ ls.drop (iK ls x.key) := by
  have := hx
  rw [← List.take_append_drop (iK ls x.key) ls, List.mem_append] at this
  rcases this with h1 | h1
  ·have := wI x h1; omega
  ·exact h1
 cases hd : ls.drop (iK ls x.key) with
 | nil => rw [hd] at hm; simp at hm
 | cons y r =>
  have hy : ls[iK ls x.key]? = some y := by
   have := congrArg (·[0]?) hd
   simpa [List.getElem?_drop] using this
  rw [hd, List.mem_cons] at hm
  rcases hm with rfl | hm
  ·exact hy
  ·have h1 : (ls.drop (iK ls x.key)).Pairwise fun a b => a.key < b.key := h.sublist (List.drop_sublist _ _)
   rw [hd] at h1
   have h2 := (List.pairwise_cons.1 h1).1 x hm
   have h3 := qP h (k := x.key) y (by rw [hd]; simp)
   omega
theorem mM {ls : List Ls} (h : jL ls) {k : Nat} (hm : ∀ y, ls[iK ls k]? = some y → y.key ≠ k) : ∀ y ∈ ls, y.key ≠ k := by
 intro y hy e
 subst e
 exact hm y (Lp h hy) rfl
theorem key_inj {a b : Ls} (ha : a.z < 2 ∧ a.t < 3) (hb : b.z < 2 ∧ b.t < 3) (h : a.key = b.key) : a.c = b.c ∧ a.z = b.z ∧ a.t = b.t := by
 unfold Ls.key at h
 omega

def Lr (N aF split : Nat) (l : Ls) : Prop := l.c < aF ∧ l.z < 2 ∧ l.t < 3 ∧ 0 < l.p.length ∧ l.p.length ≤ N ∧ ∀ p ∈ l.p, p < 256 ∧ (p < split ↔ l.z = 0)
theorem jU {ls : List Ls} (h : jL ls) (l : Ls) (p : Nat) : jL (bF ls l p) := by
 unfold bF
 split
 ·rename_i x hx
  obtain ⟨hi, hxi⟩ := List.getElem?_eq_some_iff.1 hx
  split
  ·exact zF h hi (by rw [hxi]; rfl)
  ·rename_i hne
   exact FP (x := { l with p := [p] }) h (mM h fun y hy => by
    change ls[iK ls l.key]? = some y at hy
    rw [hx] at hy
    obtain rfl := gP hy
    exact hne)
 ·rename_i hx
  exact FP (x := { l with p := [p] }) h (mM h fun y hy => by
   change ls[iK ls l.key]? = some y at hy
   rw [hx] at hy
   cases hy)
theorem DZ {ls : List Ls} {N M aF split : Nat} (h : ∀ x ∈ ls, Lr N aF split x) {l : Ls} {p : Nat} (hl : l.c < aF ∧ l.z < 2 ∧ l.t < 3) (hp : p < 256 ∧ (p < split ↔ l.z = 0)) (hNM : N ≤ M) (hM : 1 ≤ M) (hx : ∀ x ∈ ls, x.key = l.key → x.p.length + 1 ≤ M) : ∀ x ∈ bF ls l p, Lr M aF split x := by
 have up : ∀ x ∈ ls, Lr M aF split x := fun x hx => by
  obtain ⟨h1, h2, h3, h4, h5, h6⟩ := h x hx
  exact ⟨h1, h2, h3, h4, by omega, h6⟩
 have new : Lr M aF split { l with p := [p] } := ⟨hl.1, hl.2.1, hl.2.2, by simp, by simpa using hM, fun q hq => by
  obtain rfl : q = p := by simpa using hq
  exact hp⟩
 intro y hy
 unfold bF at hy
 split at hy
 ·rename_i x hxe
  obtain ⟨hi, hxi⟩ := List.getElem?_eq_some_iff.1 hxe
  have hxm : x ∈ ls := by rw [← hxi]; exact gL hi
  split at hy
  ·rename_i hk
   rcases List.mem_or_eq_of_mem_set hy with hy | rfl
   ·exact up y hy
   ·obtain ⟨h1, h2, h3, h4, h5, h6⟩ := h x hxm
    have hkk := key_inj ⟨h2, h3⟩ ⟨hl.2.1, hl.2.2⟩ hk
    refine ⟨h1, h2, h3, by simp, by have := hx x hxm hk; simpa using this, fun q hq => ?_⟩
    simp only [List.mem_append, List.mem_singleton] at hq
    rcases hq with hq | rfl
    ·exact h6 q hq
    ·exact ⟨hp.1, by rw [hkk.2.1]; exact hp.2⟩
  ·rw [List.mem_append, List.mem_cons] at hy
   rcases hy with hy | rfl | hy
   ·exact up y (List.mem_of_mem_take hy)
   ·exact new
   ·exact up y (List.mem_of_mem_drop hy)
 ·rw [List.mem_append, List.mem_cons] at hy
  rcases hy with hy | rfl | hy
  ·exact up y (List.mem_of_mem_take hy)
  ·exact new
  ·exact up y (List.mem_of_mem_drop hy)
end
section
theorem dX.push {h : Hp} (hk : dX h) {l : Ls} {p : Nat} (hl : l.c < h.aF ∧ l.z < 2 ∧ l.t < 3) (hp : p < 256 ∧ (p < h.z0.e ↔ l.z = 0)) (h8 : ∀ x ∈ h.ls, x.key = l.key → x.p.length + 1 ≤ 8) (hd : ∀ q, cnt h.all q + hit ⟨p, 0, 0⟩ q ≤ 1) :
  dX { h with ls := bF h.ls l p } ∧ ∀ q, cnt ({ h with ls := bF h.ls l p } : Hp).all q = cnt h.all q + hit ⟨p, 0, 0⟩ q := by
 have hc : ∀ q, cnt ({ h with ls := bF h.ls l p } : Hp).all q = cnt h.all q + hit ⟨p, 0, 0⟩ q := fun q => by
  rw [dA, dA]
  simp only
  rw [cnt_push]
  omega
 exact ⟨⟨hk.o0, hk.o1, hk.f0, hk.e0, hk.e1, hk.m0, hk.m1, hk.cp, jU hk.lk l p, DZ (N := 8) (M := 8) hk.lr hl hp (Nat.le_refl _) (by omega) h8, hk.lv, hk.vs, fun q => by rw [hc]; exact hd q⟩, hc⟩

def uO (ls : List Ls) (k : Nat) : Nat := match ls.find? fun x => decide (x.key = k) with
 | some x => x.p.length
 | none => 0
theorem FQ {ls : List Ls} (h : jL ls) {x : Ls} (hx : x ∈ ls) : uO ls x.key = x.p.length := by
 unfold uO
 have : ls.find? (fun y => decide (y.key = x.key)) = some x := by
  induction ls with
  | nil => simp at hx
  | cons y ls ih =>
   obtain ⟨h1, h2⟩ := List.pairwise_cons.1 h
   rw [List.mem_cons] at hx
   rcases hx with rfl | hx
   ·rw [List.find?_cons_of_pos (by simp)]
   ·rw [List.find?_cons_of_neg (by have := h1 x hx; simp; omega)]
    exact ih h2 hx
 rw [this]
theorem zG {ls : List Ls} {l : Ls} {p : Nat} (h : jL ls) : ∀ x ∈ bF ls l p, x.key = l.key → x.p.length = uO ls l.key + 1 := by
 intro x hx hkey
 have hr := jU h l p
 unfold bF at hx hr
 split at hx
 ·rename_i y hy
  obtain ⟨hi, hyi⟩ := List.getElem?_eq_some_iff.1 hy
  have hym : y ∈ ls := by rw [← hyi]; exact gL hi
  by_cases hk : y.key = l.key
  ·rw [if_pos hk] at hx
   have hl := FQ h hym
   rw [hk] at hl
   rcases List.mem_or_eq_of_mem_set hx with hm | rfl
   ·obtain ⟨j, hj, rfl⟩ := List.getElem_of_mem hx
    rw [List.length_set] at hj
    rw [List.getElem_set] at hkey ⊢
    by_cases he : iK ls l.key = j
    ·rw [if_pos he] at hkey ⊢
     simp [hl]
    ·rw [if_neg he] at hkey
     exfalso
     rcases Nat.lt_or_gt_of_ne he with hlt | hgt
     ·have := List.pairwise_iff_getElem.1 h _ _ hi hj hlt
      rw [hyi, hk, hkey] at this
      omega
     ·have := List.pairwise_iff_getElem.1 h _ _ hj hi hgt
      rw [hyi, hk, hkey] at this
      omega
   ·simp [hl]
  ·rw [if_neg hk] at hx
   have hmiss := mM h (k := l.key) fun w hw => by rw [hy] at hw; obtain rfl := gP hw; exact hk
   have hz : uO ls l.key = 0 := by
    unfold uO
    rw [List.find?_eq_none.2 (fun w hw => by simpa using hmiss w hw)]
   rw [List.mem_append, List.mem_cons] at hx
   rcases hx with hm | rfl | hm
   ·exact absurd hkey (hmiss x (List.mem_of_mem_take hm))
   ·rw [hz]; rfl
   ·exact absurd hkey (hmiss x (List.mem_of_mem_drop hm))
 ·rename_i hy
  have hmiss := mM h (k := l.key) fun w hw => by rw [hy] at hw; cases hw
  have hz : uO ls l.key = 0 := by
   unfold uO
   rw [List.find?_eq_none.2 (fun w hw => by simpa using hmiss w hw)]
  rw [List.mem_append, List.mem_cons] at hx
  rcases hx with hm | rfl | hm
  ·exact absurd hkey (hmiss x (List.mem_of_mem_take hm))
  ·rw [hz]; rfl
  ·exact absurd hkey (hmiss x (List.mem_of_mem_drop hm))

theorem dX.fill {l : Ls} {hd : Nat} : ∀ (n : Nat) {h : Hp}, dX h → (l.c < h.aF ∧ l.z < 2 ∧ l.t < 3) → (∀ x ∈ h.ls, x.key = l.key → x.p.length + n ≤ 8) → n ≤ 8 →
  dX (h.fill l hd n) ∧ (∀ q, cnt (h.fill l hd n).all q = cnt h.all q) ∧ Same h (h.fill l hd n) ∧ (h.fill l hd n).live = h.live
 | 0, h, hk, _, _, _ => ⟨hk, fun _ => rfl, Same.refl h, rfl⟩
 | n + 1, h, hk, hl, h8, hn => by
  unfold Hp.fill
  cases ht : h.jS l.z 0 l.t hd with
  | none => exact ⟨hk, fun _ => rfl, Same.refl h, rfl⟩
  | some r =>
   obtain ⟨h', a⟩ := r
   obtain ⟨hT, hls, hz⟩ := hk.jS (by omega) hl.2.2 hl.2.1 ht
   have hl' : l.c < h'.aF ∧ l.z < 2 ∧ l.t < 3 := by rw [hT.same.aF]; exact hl
   obtain ⟨g1, g2⟩ := hT.ok.push (l := l) (p := a) hl' ⟨hT.fit.2.2.1, by rw [hT.same.split]; exact hz⟩ (fun x hx hk => by rw [hls] at hx; have := h8 x hx hk; omega) (fun q => by rw [hT.c 0 q]; exact hk.one q)
   obtain ⟨k1, k2, k3, k4⟩ := dX.fill n (h := { h' with ls := bF h'.ls l a }) g1 hl' (fun x hx hkey => by
    have := zG hT.ok.lk x hx hkey
    have h2 : uO h'.ls l.key + (n + 1) ≤ 8 := by
     unfold uO
     cases hf : h'.ls.find? fun x => decide (x.key = l.key) with
     | none => simp only; omega
     | some y =>
      have hy := List.mem_of_find?_eq_some hf
      have hyk := List.find?_some hf
      rw [hls] at hy
      exact h8 y hy (of_decide_eq_true hyk)
    omega) (by omega)
   exact ⟨k1, fun q => by rw [k2, g2, hT.c 0 q], Same.trans (b := { h' with ls := bF h'.ls l a }) (Same.trans hT.same ⟨rfl, rfl, rfl, rfl⟩) k3, k4.trans hT.live⟩
end
section
theorem oC {p : Nat} (h : p < 256) : bY 0 256 p 0 := ⟨by omega, by omega, h, by simp [Nat.mod_one]⟩
theorem ZH (a o t t' p : Nat) : hit ⟨a, o, t⟩ p = hit ⟨a, o, t'⟩ p := rfl
theorem NM {ls : List Ls} {k n : Nat} (hm : ∀ y ∈ ls, y.key ≠ k) : ∀ x ∈ ls, x.key = k → x.p.length + n ≤ 8 := fun x hx hk => absurd hk (hm x hx)

theorem dX.filled {h h' : Hp} (hk : dX h) {l : Ls} {hd a : Nat} (hl : l.c < h.aF ∧ l.z < 2 ∧ l.t < 3) (hm : ∀ y ∈ h.ls, y.key ≠ l.key) (he : (h.jS l.z 0 l.t hd).map (fun r => (r.1.fill l hd 3, r.2)) = some (h', a)) : NK h 0 h' a := by
 cases ht : h.jS l.z 0 l.t hd with
 | none => rw [ht] at he; cases he
 | some r =>
  obtain ⟨g, b⟩ := r
  rw [ht] at he
  simp only [Option.map_some, Option.some.injEq, Prod.mk.injEq] at he
  obtain ⟨rfl, rfl⟩ := he
  obtain ⟨hT, hls, hz⟩ := hk.jS (by omega) hl.2.2 hl.2.1 ht
  obtain ⟨k1, k2, k3, k4⟩ := dX.fill (l := l) (hd := hd) 3 hT.ok (by rw [hT.same.aF]; exact hl) (NM (by rw [hls]; exact hm)) (by omega)
  exact ⟨k1, hT.fit, fun t p => by rw [k2]; exact hT.c t p, hT.same.trans k3, k4.trans hT.live⟩

theorem dX.single {h h' : Hp} (hk : dX h) {l : Ls} {hd a : Nat} (hl : l.c < h.aF ∧ l.z < 2 ∧ l.t < 3) (he : h.single l hd = some (h', a)) : NK h 0 h' a := by
 unfold Hp.single at he
 cases hx : h.ls[iK h.ls l.key]? with
 | none =>
  rw [hx] at he
  exact hk.filled hl (mM hk.lk fun y hy => by rw [hx] at hy; cases hy) he
 | some x =>
  rw [hx] at he
  simp only at he
  obtain ⟨hi, hxi⟩ := List.getElem?_eq_some_iff.1 hx
  by_cases hkey : x.key = l.key
  ·rw [if_pos hkey] at he
   simp only [Option.some.injEq, Prod.mk.injEq] at he
   obtain ⟨rfl, rfl⟩ := he
   have hxm : x ∈ h.ls := by rw [← hxi]; exact gL hi
   obtain ⟨q1, q2, q3, q4, q5, q6⟩ := hk.lr x hxm
   have hne : x.p ≠ [] := fun e => by rw [e] at q4; simp at q4
   obtain ⟨ys, y, hy⟩ : ∃ ys y, x.p = ys ++ [y] := ⟨x.p.dropLast, x.p.getLast hne, (List.dropLast_concat_getLast hne).symm⟩
   have hlast : x.p.getLastD 0 = y := by rw [hy]; simp
   have hdrop : x.p.dropLast = ys := by rw [hy]; simp
   have hlen : x.p.length = ys.length + 1 := by rw [hy]; simp
   have hym : y ∈ x.p := by rw [hy]; simp
   rw [hlast, hdrop, hlen]
   have hpg : ∀ q, cnt (jK x.p) q = cnt (jK ys) q + hit ⟨y, 0, 0⟩ q := fun q => by rw [hy, iD]; rfl
   have hcl : ∀ q, cnt (lsB (if ys.length + 1 = 1 then h.ls.eraseIdx (iK h.ls l.key) else h.ls.set (iK h.ls l.key) { x with p := ys })) q + hit ⟨y, 0, 0⟩ q = cnt (lsB h.ls) q := fun q => by
    split
    ·rename_i h1
     have := rO hi q
     rw [hxi, hpg] at this
     have hz : ys = [] := List.eq_nil_of_length_eq_zero (by omega)
     rw [hz] at this
     simp only [jK, List.map_nil, cnt] at this
     omega
    ·have := qE hi { x with p := ys } q
     rw [hxi, hpg] at this
     simp only at this
     omega
   have hca : ∀ t q, cnt ({ h with ls := if ys.length + 1 = 1 then h.ls.eraseIdx (iK h.ls l.key) else h.ls.set (iK h.ls l.key) { x with p := ys } } : Hp).all q + hit ⟨y, 0, t⟩ q = cnt h.all q := fun t q => by
    rw [ZH y 0 t 0, dA, dA]
    simp only
    have := hcl q
    omega
   refine ⟨⟨hk.o0, hk.o1, hk.f0, hk.e0, hk.e1, hk.m0, hk.m1, hk.cp, ?_, ?_, hk.lv, hk.vs, fun q => by have := hca 0 q; have := hk.one q; omega⟩, oC (q6 y hym).1, hca, ⟨rfl, rfl, rfl, rfl⟩, rfl⟩
   ·simp only
    split
    ·exact hk.lk.sublist (List.eraseIdx_sublist _ _)
    ·exact zF hk.lk hi (by rw [hxi]; rfl)
   ·simp only
    intro w hw
    split at hw
    ·exact hk.lr w ((List.eraseIdx_sublist _ _).subset hw)
    ·rename_i h1
     rcases List.mem_or_eq_of_mem_set hw with hw | rfl
     ·exact hk.lr w hw
     ·exact ⟨q1, q2, q3, by simp only; omega, by simp only; omega, fun q hq => q6 q (by rw [hy]; simp [hq])⟩
  ·rw [if_neg hkey] at he
   exact hk.filled hl (mM hk.lk fun y hy => by rw [hx] at hy; obtain rfl := gP hy; exact hkey) he

theorem dX.ask {h h' : Hp} (hk : dX h) {cpu i order t a : Nat} {urgent low : Bool} (hc : cpu < h.aF) (hi : i < 2) (ho : order ≤ 4) (ht : t < 3) (he : h.ask cpu i order t urgent low = some (h', a)) : NK h order h' a := by
 unfold Hp.ask at he
 split at he
 ·rename_i h0
  subst h0
  exact hk.single ⟨hc, hi, ht⟩ he
 ·exact (hk.jS ho ht hi he).1
theorem dX.attempt {h h' : Hp} (hk : dX h) {cpu order t a : Nat} {urgent low : Bool} (hc : cpu < h.aF) (ho : order ≤ 4) (ht : t < 3) (he : h.attempt cpu order t urgent low = some (h', a)) : NK h order h' a := by
 unfold Hp.attempt at he
 split at he
 ·exact hk.ask hc (by omega) ho ht he
 ·cases h1 : h.ask cpu 1 order t urgent low with
  | some r =>
   rw [h1] at he
   obtain rfl := gP he
   exact hk.ask hc (by omega) ho ht h1
  | none =>
   rw [h1] at he
   exact hk.ask hc (by omega) ho ht he

theorem Qs (h : Hp) (m : List Ls) (a o : Nat) : ({ h with ls := m } : Hp).gY a o = { h.gY a o with ls := m } := by
 unfold Hp.gY Hp.iG Hp.zone Hp.gX
 simp only
 split <;> split <;> rfl
theorem jA : ∀ (ps : List Nat) (h : Hp) (m : List Ls), aV { h with ls := m } ps = { aV h ps with ls := m }
 | [], _, _ => rfl
 | p :: ps, h, m => by rw [aV, aV, Qs, jA ps]
theorem wJ : ∀ (ls : List Ls) (h : Hp) (m : List Ls), bT { h with ls := m } ls = { bT h ls with ls := m }
 | [], _, _ => rfl
 | l :: ls, h, m => by rw [bT, bT, jA, wJ ls]
theorem dX.aV : ∀ (ps : List Nat) {h : Hp}, dX h → (∀ p ∈ ps, p < 256) → (∀ q, cnt h.all q + cnt (jK ps) q ≤ 1) →
  dX (aV h ps) ∧ (∀ q, cnt (aV h ps).all q = cnt h.all q + cnt (jK ps) q) ∧ Same h (aV h ps) ∧ (aV h ps).ls = h.ls ∧ (aV h ps).live = h.live
 | [], h, hk, _, _ => ⟨hk, fun q => by simp [Go.Proofs.YtcmpmobhongkiaaGreatDoor.aV, jK, cnt], Same.refl h, rfl, rfl⟩
 | p :: ps, h, hk, hp, hd => by
  have hcons : ∀ q, cnt (jK (p :: ps)) q = hit ⟨p, 0, 0⟩ q + cnt (jK ps) q := fun _ => rfl
  obtain ⟨g1, g2, g3, g4, g5⟩ := hk.gY (oC (hp p (by simp))) (fun q => by have := hd q; rw [hcons] at this; omega)
  obtain ⟨k1, k2, k3, k4, k5⟩ := dX.aV ps g1 (fun q hq => hp q (by simp [hq])) (fun q => by rw [g2]; have := hd q; rw [hcons] at this; omega)
  exact ⟨k1, fun q => by have := k2 q; rw [g2] at this; rw [hcons]; show cnt (Go.Proofs.YtcmpmobhongkiaaGreatDoor.aV (h.gY p 0) ps).all q = _; omega, g3.trans k3, k4.trans g4, k5.trans g5⟩
theorem dX.bT : ∀ (ls : List Ls) {h : Hp}, dX h → (∀ l ∈ ls, ∀ p ∈ l.p, p < 256) → (∀ q, cnt h.all q + cnt (lsB ls) q ≤ 1) →
  dX (bT h ls) ∧ (∀ q, cnt (bT h ls).all q = cnt h.all q + cnt (lsB ls) q) ∧ Same h (bT h ls) ∧ (bT h ls).ls = h.ls ∧ (bT h ls).live = h.live
 | [], h, hk, _, _ => ⟨hk, fun q => by simp [Go.Proofs.YtcmpmobhongkiaaGreatDoor.bT, lsB, cnt], Same.refl h, rfl, rfl⟩
 | l :: ls, h, hk, hp, hd => by
  obtain ⟨g1, g2, g3, g4, g5⟩ := hk.aV l.p (hp l (by simp)) (fun q => by have := hd q; rw [fM] at this; omega)
  obtain ⟨k1, k2, k3, k4, k5⟩ := dX.bT ls g1 (fun m hm => hp m (by simp [hm])) (fun q => by rw [g2]; have := hd q; rw [fM] at this; omega)
  exact ⟨k1, fun q => by have := k2 q; rw [g2] at this; rw [fM]; show cnt (Go.Proofs.YtcmpmobhongkiaaGreatDoor.bT (Go.Proofs.YtcmpmobhongkiaaGreatDoor.aV h l.p) ls).all q = _; omega, g3.trans k3, k4.trans g4, k5.trans g5⟩
theorem dX.Ea {h : Hp} (hk : dX h) : dX { h with ls := [] } :=
 ⟨hk.o0, hk.o1, hk.f0, hk.e0, hk.e1, hk.m0, hk.m1, hk.cp, List.Pairwise.nil, fun l hl => by simp at hl, hk.lv, hk.vs, fun q => by
  have h1 := hk.one q
  rw [dA] at h1 ⊢
  simp only [lsB, cnt]
  omega⟩
theorem dX.drain {h : Hp} (hk : dX h) : dX h.drain ∧ (∀ q, cnt h.drain.all q = cnt h.all q) ∧ Same h h.drain ∧ h.drain.ls = [] ∧ h.drain.live = h.live := by
 have e : h.drain = Go.Proofs.YtcmpmobhongkiaaGreatDoor.bT { h with ls := [] } h.ls := (wJ h.ls h []).symm
 have hc : ∀ q, cnt ({ h with ls := [] } : Hp).all q + cnt (lsB h.ls) q = cnt h.all q := fun q => by
  rw [dA, dA]
  simp only [lsB, cnt]
  omega
 obtain ⟨k1, k2, k3, k4, k5⟩ := hk.Ea.bT h.ls (fun l hl p hp => ((hk.lr l hl).2.2.2.2.2 p hp).1) (fun q => by rw [hc]; exact hk.one q)
 rw [e]
 exact ⟨k1, fun q => by rw [k2, hc], Same.trans (b := { h with ls := [] }) ⟨rfl, rfl, rfl, rfl⟩ k3, k4, k5⟩
end
section
theorem qQ (l : List Bk) (b : Bk) (q : Nat) : cnt (bD l b) q = cnt l q + hit b q := by
 unfold bD
 conv => rhs; rw [← List.take_append_drop (lb l b.a) l]
 rw [bK, bK, cnt]
 omega
theorem wK {l : List Bk} {i : Nat} (hi : i < l.length) (q : Nat) : cnt (l.eraseIdx i) q + hit l[i] q = cnt l q := by
 have h1 : l = l.take i ++ l[i] :: l.drop (i + 1) := by rw [← List.drop_eq_getElem_cons hi, List.take_append_drop]
 conv => rhs; rw [h1]
 rw [List.eraseIdx_eq_take_drop_succ, bK, bK, cnt]
 omega
theorem Jo {l : List Bk} (h : pF l) {b : Bk} (hn : ∀ x ∈ l, x.a ≠ b.a) : pF (bD l b) := by
 unfold pF bD
 rw [List.pairwise_append]
 refine ⟨h.sublist (List.take_sublist _ _), List.pairwise_cons.2 ⟨fun y hy => ?_, h.sublist (List.drop_sublist _ _)⟩, fun x hx y hy => ?_⟩
 ·have h1 := pK h y hy
  have h2 := hn y (List.mem_of_mem_drop hy)
  omega
 ·have h1 := tY x hx
  rw [List.mem_cons] at hy
  rcases hy with rfl | hy
  ·exact h1
  ·have h2 := pK h y hy
   omega
theorem CO {l : List Bk} {b x : Bk} (h : x ∈ bD l b) : x = b ∨ x ∈ l := by
 unfold bD at h
 rw [List.mem_append, List.mem_cons] at h
 rcases h with h | rfl | h
 ·exact .inr (List.mem_of_mem_take h)
 ·exact .inl rfl
 ·exact .inr (List.mem_of_mem_drop h)
theorem Qu (h : Hp) (p : Nat) : cnt h.live p ≤ cnt h.all p := by rw [dA]; omega

theorem dX.Qv {g : Hp} (hk : dX g) {a o t : Nat} (hfit : bY 0 256 a o) (ht : t < 3) (hd : ∀ q, cnt g.all q + hit ⟨a, o, t⟩ q ≤ 1) :
  dX { g with live := bD g.live ⟨a, o, t⟩ } ∧ ∀ q, cnt ({ g with live := bD g.live ⟨a, o, t⟩ } : Hp).all q = cnt g.all q + hit ⟨a, o, t⟩ q := by
 have hc : ∀ q, cnt ({ g with live := bD g.live ⟨a, o, t⟩ } : Hp).all q = cnt g.all q + hit ⟨a, o, t⟩ q := fun q => by
  rw [dA, dA]
  simp only
  rw [qQ]
  omega
 refine ⟨⟨hk.o0, hk.o1, hk.f0, hk.e0, hk.e1, hk.m0, hk.m1, hk.cp, hk.lk, hk.lr, fun b hb => ?_, Jo hk.vs fun x hx e => ?_, fun q => by rw [hc]; exact hd q⟩, hc⟩
 ·rcases CO hb with rfl | hb
  ·exact ⟨hfit, ht⟩
  ·exact hk.lv b hb
 ·have h1 := hd a
  have h2 := Qu g a
  have hpo := dK o
  have hpx := dK x.o
  have h3 : 0 < cnt g.live a := iJ.2 ⟨x, hx, by unfold inB; simp only at e; omega⟩
  have h4 : hit ⟨a, o, t⟩ a = 1 := iU.2 (by unfold inB; simp only; omega)
  omega

theorem dX.alloc {h h' : Hp} (hk : dX h) {cpu order t a : Nat} {urgent low : Bool} (hc : cpu < h.aF) (ho : order ≤ 4) (ht : t < 3) (he : h.alloc cpu order t urgent low = some (h', a)) :
  dX h' ∧ (∀ q, cnt h'.all q = cnt h.all q) ∧ Same h h' ∧ h'.live = bD h.live ⟨a, order, t⟩ ∧ bY 0 256 a order := by
 have key : ∃ g, NK h order g a ∧ h' = { g with live := bD g.live ⟨a, order, t⟩ } := by
  unfold Hp.alloc at he
  cases h1 : h.attempt cpu order t urgent low with
  | some r =>
   rw [h1] at he
   simp only [Option.some.injEq, Prod.mk.injEq] at he
   obtain ⟨rfl, rfl⟩ := he
   exact ⟨r.1, hk.attempt hc ho ht h1, rfl⟩
  | none =>
   rw [h1] at he
   simp only at he
   cases h2 : h.drain.attempt cpu order t urgent low with
   | none => rw [h2] at he; cases he
   | some r =>
    rw [h2] at he
    simp only [Option.some.injEq, Prod.mk.injEq] at he
    obtain ⟨rfl, rfl⟩ := he
    obtain ⟨d1, d2, d3, d4, d5⟩ := hk.drain
    have hT := d1.attempt (by rw [d3.aF]; exact hc) ho ht h2
    exact ⟨r.1, ⟨hT.ok, hT.fit, fun t p => by rw [hT.c, d2], d3.trans hT.same, hT.live.trans d5⟩, rfl⟩
 obtain ⟨g, hT, rfl⟩ := key
 obtain ⟨k1, k2⟩ := hT.ok.Qv hT.fit ht (fun q => by rw [hT.c t q]; exact hk.one q)
 exact ⟨k1, fun q => by rw [k2, hT.c t q], Same.trans hT.same ⟨rfl, rfl, rfl, rfl⟩, by simp only; rw [hT.live], hT.fit⟩

theorem Jp {ls : List Ls} {l : Ls} {p : Nat} : ∀ x ∈ bF ls l p, x.key ≠ l.key → x ∈ ls := by
 intro x hx hne
 unfold bF at hx
 split at hx
 ·rename_i y hy
  split at hx
  ·rename_i hk
   rcases List.mem_or_eq_of_mem_set hx with hx | rfl
   ·exact hx
   ·exact absurd hk hne
  ·rw [List.mem_append, List.mem_cons] at hx
   rcases hx with hx | rfl | hx
   ·exact List.mem_of_mem_take hx
   ·exact absurd rfl hne
   ·exact List.mem_of_mem_drop hx
 ·rw [List.mem_append, List.mem_cons] at hx
  rcases hx with hx | rfl | hx
  ·exact List.mem_of_mem_take hx
  ·exact absurd rfl hne
  ·exact List.mem_of_mem_drop hx
theorem Qw (ls : List Ls) (l : Ls) (p : Nat) : ∃ x ∈ bF ls l p, x.key = l.key := by
 unfold bF
 split
 ·rename_i y hy
  obtain ⟨hi, hyi⟩ := List.getElem?_eq_some_iff.1 hy
  split
  ·rename_i hk
   exact ⟨{ y with p := y.p ++ [p] }, List.mem_set hi _, hk⟩
  ·exact ⟨{ l with p := [p] }, by simp, rfl⟩
 ·exact ⟨{ l with p := [p] }, by simp, rfl⟩
theorem Lu {ls : List Ls} (h : jL ls) (l : Ls) (p : Nat) : ∃ x, (bF ls l p)[iK (bF ls l p) l.key]? = some x ∧ x.key = l.key ∧ x.p.length = uO ls l.key + 1 := by
 obtain ⟨x, hx, hk⟩ := Qw ls l p
 have h1 := Lp (jU h l p) hx
 rw [hk] at h1
 exact ⟨x, h1, hk, zG h x hx hk⟩
theorem LD {ls : List Ls} {k N : Nat} (h : ∀ x ∈ ls, x.p.length ≤ N) : uO ls k ≤ N := by
 unfold uO
 cases hf : ls.find? fun x => decide (x.key = k) with
 | none => exact Nat.zero_le _
 | some y => exact h y (List.mem_of_find?_eq_some hf)

theorem dX.give {h : Hp} (hk : dX h) {cpu p : Nat} (hc : cpu < h.aF) (hp : p < 256) (hd : ∀ q, cnt h.all q + hit ⟨p, 0, 0⟩ q ≤ 1) :
  dX (h.give cpu p) ∧ (∀ q, cnt (h.give cpu p).all q = cnt h.all q + hit ⟨p, 0, 0⟩ q) ∧ Same h (h.give cpu p) ∧ (h.give cpu p).live = h.live := by
 unfold Hp.give
 obtain ⟨t, ht⟩ : ∃ t, (h.zone (h.gX p)).y.getD ((p - (h.zone (h.gX p)).f) / 8) 0 = t := ⟨_, rfl⟩
 have ht3 : t < 3 := by
  rw [← ht]
  have hz := (hk.zone (h.gX p)).1.typ
  rw [List.getD_eq_getElem?_getD]
  cases hg : (h.zone (h.gX p)).y[(p - (h.zone (h.gX p)).f) / 8]? with
  | none => simp
  | some u => exact hz u (gM hg)
 rw [ht]
 have hz2 : h.gX p < 2 := by unfold Hp.gX; split <;> omega
 have hz3 : p < h.z0.e ↔ h.gX p = 0 := by unfold Hp.gX; split <;> simp_all
 obtain ⟨l, hl⟩ : ∃ l : Ls, l = ⟨cpu, h.gX p, t, []⟩ := ⟨_, rfl⟩
 have hlr : l.c < h.aF ∧ l.z < 2 ∧ l.t < 3 := by rw [hl]; exact ⟨hc, hz2, ht3⟩
 have hlz : p < 256 ∧ (p < h.z0.e ↔ l.z = 0) := by rw [hl]; exact ⟨hp, hz3⟩
 rw [← hl]
 simp only
 obtain ⟨x, hx, hxk, hxl⟩ := Lu hk.lk l p
 rw [hx]
 simp only
 have hlen := LD (k := l.key) (fun x hx => (hk.lr x hx).2.2.2.2.1)
 by_cases h8 : 8 < x.p.length
 ·rw [if_pos h8]
  obtain ⟨hi, hxi⟩ := List.getElem?_eq_some_iff.1 hx
  have hxm : x ∈ bF h.ls l p := by rw [← hxi]; exact gL hi
  have h9 := DZ (N := 8) (M := 9) hk.lr hlr hlz (by omega) (by omega) (fun y hy _ => by have := (hk.lr y hy).2.2.2.2.1; omega)
  obtain ⟨q1, q2, q3, q4, q5, q6⟩ := h9 x hxm
  have hpg : ∀ q, cnt (jK x.p) q = cnt (jK (x.p.take 4)) q + cnt (jK (x.p.drop 4)) q := fun q => by rw [← iD, List.take_append_drop]
  have hcl : ∀ q, cnt (lsB ((bF h.ls l p).set (iK (bF h.ls l p) l.key) { x with p := x.p.drop 4 })) q + cnt (jK (x.p.take 4)) q = cnt (lsB h.ls) q + hit ⟨p, 0, 0⟩ q := fun q => by
   have h1 := qE hi { x with p := x.p.drop 4 } q
   have h2 := cnt_push h.ls l p q
   rw [hxi, hpg] at h1
   simp only at h1
   omega
  have hca : ∀ q, cnt ({ h with ls := (bF h.ls l p).set (iK (bF h.ls l p) l.key) { x with p := x.p.drop 4 } } : Hp).all q + cnt (jK (x.p.take 4)) q = cnt h.all q + hit ⟨p, 0, 0⟩ q := fun q => by
   rw [dA, dA]
   simp only
   have := hcl q
   omega
  have hk2 : dX { h with ls := (bF h.ls l p).set (iK (bF h.ls l p) l.key) { x with p := x.p.drop 4 } } := by
   refine ⟨hk.o0, hk.o1, hk.f0, hk.e0, hk.e1, hk.m0, hk.m1, hk.cp, zF (jU hk.lk l p) hi (by rw [hxi]; rfl), fun y hy => ?_, hk.lv, hk.vs, fun q => by have := hca q; have := hd q; omega⟩
   simp only at hy ⊢
   obtain ⟨j, hj, rfl⟩ := List.getElem_of_mem hy
   rw [List.length_set] at hj
   rw [List.getElem_set]
   by_cases hij : iK (bF h.ls l p) l.key = j
   ·rw [if_pos hij]
    exact ⟨q1, q2, q3, by simp only [List.length_drop]; omega, by simp only [List.length_drop]; omega, fun q hq => q6 q (List.mem_of_mem_drop hq)⟩
   ·rw [if_neg hij]
    refine hk.lr _ (Jp _ (gL hj) fun e => ?_)
    rcases Nat.lt_or_gt_of_ne hij with hlt | hgt
    ·have := List.pairwise_iff_getElem.1 (jU hk.lk l p) _ _ hi hj hlt
     rw [hxi, hxk, e] at this
     omega
    ·have := List.pairwise_iff_getElem.1 (jU hk.lk l p) _ _ hj hi hgt
     rw [hxi, hxk, e] at this
     omega
  obtain ⟨k1, k2, k3, k4, k5⟩ := hk2.aV (x.p.take 4) (fun q hq => (q6 q (List.mem_of_mem_take hq)).1) (fun q => by rw [hca]; exact hd q)
  have e : Go.Proofs.YtcmpmobhongkiaaGreatDoor.aV { h with ls := (bF h.ls l p).set (iK (bF h.ls l p) l.key) { x with p := x.p.drop 4 } } (x.p.take 4) = { Go.Proofs.YtcmpmobhongkiaaGreatDoor.aV { h with ls := bF h.ls l p } (x.p.take 4) with ls := (bF h.ls l p).set (iK (bF h.ls l p) l.key) { x with p := x.p.drop 4 } } := jA (x.p.take 4) { h with ls := bF h.ls l p } _
  rw [← e]
  exact ⟨k1, fun q => by rw [k2, hca], Same.trans (b := { h with ls := (bF h.ls l p).set (iK (bF h.ls l p) l.key) { x with p := x.p.drop 4 } }) ⟨rfl, rfl, rfl, rfl⟩ k3, k5⟩
 ·rw [if_neg h8]
  obtain ⟨g1, g2⟩ := hk.push hlr hlz (fun y hy hyk => by
   have h1 := FQ hk.lk hy
   rw [hyk] at h1
   omega) hd
  exact ⟨g1, g2, ⟨rfl, rfl, rfl, rfl⟩, rfl⟩

theorem dX.fZ {h : Hp} (hk : dX h) {cpu i : Nat} (hc : cpu < h.aF) (hi : i < h.live.length) :
  dX (h.fZ cpu i h.live[i]) ∧ (∀ q, cnt (h.fZ cpu i h.live[i]).all q = cnt h.all q) ∧ Same h (h.fZ cpu i h.live[i]) ∧ (h.fZ cpu i h.live[i]).live = h.live.eraseIdx i := by
 have hb := hk.lv _ (gL hi)
 have hce : ∀ q, cnt ({ h with live := h.live.eraseIdx i } : Hp).all q + hit ⟨h.live[i].a, h.live[i].o, 0⟩ q = cnt h.all q := fun q => by
  have h1 := wK hi q
  have h2 : hit ⟨h.live[i].a, h.live[i].o, 0⟩ q = hit h.live[i] q := rfl
  rw [dA, dA, h2]
  simp only
  omega
 have hk1 : dX { h with live := h.live.eraseIdx i } := ⟨hk.o0, hk.o1, hk.f0, hk.e0, hk.e1, hk.m0, hk.m1, hk.cp, hk.lk, hk.lr, fun b hb => hk.lv b ((List.eraseIdx_sublist _ _).subset hb), hk.vs.sublist (List.eraseIdx_sublist _ _), fun q => by have := hce q; have := hk.one q; omega⟩
 unfold Hp.fZ
 simp only
 split
 ·obtain ⟨g1, g2, g3, g4, g5⟩ := hk1.gY hb.1 (fun q => by rw [hce]; exact hk.one q)
  exact ⟨g1, fun q => by rw [g2, hce], Same.trans (b := { h with live := h.live.eraseIdx i }) ⟨rfl, rfl, rfl, rfl⟩ g3, g5⟩
 ·rename_i h0
  have ho : h.live[i].o = 0 := by omega
  rw [ho] at hce
  obtain ⟨g1, g2, g3, g4⟩ := hk1.give (cpu := cpu) hc hb.1.2.2.1 (fun q => by rw [hce]; exact hk.one q)
  exact ⟨g1, fun q => by rw [g2, hce], Same.trans (b := { h with live := h.live.eraseIdx i }) ⟨rfl, rfl, rfl, rfl⟩ g3, g4⟩
end
section
open Go.RowKit

structure Rs where
 e : TypeId
 k : Nat
 v : Value
 n : Nat
 xs : List Value
def Rs.on (r : Rs) (W : World) (base : Nat) : Prop := W.ownsRow base r.e r.k r.v r.n r.xs
def Rs.off (a b : Rs) : Prop := ∀ g, a.v.ownBlock = some g → b.v.ownBlock ≠ some g
theorem Rs.off.symm {a b : Rs} (h : a.off b) : b.off a := fun g h1 h2 => h g h2 h1

structure cZ (W : World) (base : Nat) (rs : List Rs) : Prop where
 each : ∀ r ∈ rs, r.on W base
 CP : rs.Pairwise Rs.off

section
variable {W W' : World} {jI : Nat} {rs : List Rs}
theorem cZ.below (h : cZ W jI rs) (hb : Below W.heap.size W W') : cZ W' jI rs := ⟨fun r hr => own_below (h.each r hr) hb (Nat.le_refl _), h.CP⟩
theorem cZ.base {base' : Nat} (h : cZ W jI rs) (hb : base' ≤ jI) : cZ W base' rs := ⟨fun r hr => own_base (h.each r hr) hb, h.CP⟩
theorem cZ.ne (h : cZ W jI rs) {g : Nat} (hg : g < jI ∨ W.heap.size ≤ g) : ∀ r ∈ rs, r.v.ownBlock ≠ some g := fun r hr => own_ne (h.each r hr) hg
theorem cZ.far (h : cZ W jI rs) {g : Nat} (hg : ∀ r ∈ rs, r.v.ownBlock ≠ some g) (i : Nat) (u : Value) : cZ (W.setCell ⟨g, i, none⟩ u) jI rs := ⟨fun r hr => bJ (h.each r hr) (hg r hr) u, h.CP⟩
theorem cZ.at (h : cZ W jI rs) {i : Nat} (hi : i < rs.length) : rs[i].on W jI := h.each _ (gL hi)
theorem cZ.off (h : cZ W jI rs) {i j : Nat} (hi : i < rs.length) (hj : j < rs.length) (hne : i ≠ j) : rs[i].off rs[j] := by
 rcases Nat.lt_or_gt_of_ne hne with hlt | hgt
 ·exact List.pairwise_iff_getElem.1 h.CP i j hi hj hlt
 ·exact (List.pairwise_iff_getElem.1 h.CP j i hj hi hgt).symm
theorem Eb {rs : List Rs} {i : Nat} {r' : Rs} (hd : rs.Pairwise Rs.off) (hi : i < rs.length) (h : ∀ j (hj : j < rs.length), j ≠ i → r'.off rs[j]) : (rs.set i r').Pairwise Rs.off := by
 rw [gN]
 intro a b ha hb hab
 rw [List.length_set] at ha hb
 rw [List.getElem_set, List.getElem_set]
 by_cases h1 : i = a
 ·subst h1
  rw [if_pos rfl, if_neg (by omega)]
  exact h b hb (by omega)
 ·rw [if_neg h1]
  by_cases h2 : i = b
  ·subst h2
   rw [if_pos rfl]
   exact (h a ha (by omega)).symm
  ·rw [if_neg h2]
   exact List.pairwise_iff_getElem.1 hd a b ha hb hab
theorem sJ {rs : List Rs} {i : Nat} {r' r : Rs} (h : r ∈ rs.set i r') : r = r' ∨ ∃ j, ∃ (hj : j < rs.length), j ≠ i ∧ r = rs[j] := by
 obtain ⟨j, hj, rfl⟩ := List.getElem_of_mem h
 rw [List.length_set] at hj
 rw [List.getElem_set]
 by_cases h1 : i = j
 ·rw [if_pos h1]; exact .inl rfl
 ·rw [if_neg h1]; exact .inr ⟨j, hj, fun e => h1 e.symm, rfl⟩
theorem cZ.grown (h : cZ W jI rs) {i : Nat} (hi : i < rs.length) {r' : Rs} (hg : W.grownBy W' rs[i].v.ownBlock) (ho : r'.on W' jI) (hn : ∀ g, r'.v.ownBlock = some g → rs[i].v.ownBlock = some g ∨ W.heap.size ≤ g) : cZ W' jI (rs.set i r') := by
 have hoff : ∀ j (hj : j < rs.length), j ≠ i → r'.off rs[j] := fun j hj hne g h1 h2 => by
  rcases hn g h1 with h3 | h3
  ·exact h.off hi hj (fun e => hne e.symm) g h3 h2
  ·exact own_ne (h.at hj) (.inr h3) h2
 refine ⟨fun r hr => ?_, Eb h.CP hi hoff⟩
 rcases sJ hr with rfl | ⟨j, hj, hne, rfl⟩
 ·exact ho
 ·exact gZ (h.at hj) hg (fun k hk e => h.off hi hj (fun e => hne e.symm) k e hk)
theorem cZ.swap (h : cZ W jI rs) {i : Nat} (hi : i < rs.length) {r' : Rs} {bs : Nat} (ho : r'.on W bs) (hb : jI ≤ bs) (hbs : ∀ j (hj : j < rs.length), j ≠ i → ∀ g, rs[j].v.ownBlock = some g → g < bs) : cZ W jI (rs.set i r') := by
 refine ⟨fun r hr => ?_, Eb h.CP hi fun j hj hne g h1 h2 => ?_⟩
 ·rcases sJ hr with rfl | ⟨j, hj, hne, rfl⟩
  ·exact own_base ho hb
  ·exact h.at hj
 ·have h3 := hbs j hj hne g h2
  have h4 := (ho.lt g h1).1
  omega
theorem cZ.cell (h : cZ W jI rs) {i : Nat} (hi : i < rs.length) {g : Nat} {c : Nat} (hv : rs[i].v = .slice (some ⟨g, 0, none⟩) rs[i].n c) (j : Nat) (u : Value) (hu : u.oneCell' = true) : cZ (W.setCell ⟨g, j, none⟩ u) jI (rs.set i { rs[i] with xs := rs[i].xs.set j u }) := by
 have hb : rs[i].v.ownBlock = some g := by rw [hv]; rfl
 refine ⟨fun r hr => ?_, Eb h.CP hi fun j' hj' hne => h.off hi hj' (fun e => hne e.symm)⟩
 rcases sJ hr with rfl | ⟨j', hj', hne, rfl⟩
 ·have h0 := h.at hi
  unfold Rs.on at *
  simp only
  rw [hv] at h0
  have h1 := (World.ownsRow.stored h0 j u).1
  rw [hv]
  exact h1
 ·exact bJ (h.at hj') (h.off hi hj' (fun e => hne e.symm) g hb) u
theorem cZ.cons (h : cZ W jI rs) {r' : Rs} {bs : Nat} (ho : r'.on W bs) (hb : jI ≤ bs) (hbs : ∀ r ∈ rs, ∀ g, r.v.ownBlock = some g → g < bs) : cZ W jI (r' :: rs) :=
 ⟨fun r hr => by
  rw [List.mem_cons] at hr
  rcases hr with rfl | hr
  ·exact own_base ho hb
  ·exact h.each r hr, List.pairwise_cons.2 ⟨fun r hr g h1 h2 => by have h3 := hbs r hr g h2; have h4 := (ho.lt g h1).1; omega, h.CP⟩⟩
theorem cZ.sub {rs' : List Rs} (h : cZ W jI rs) (hs : rs'.Sublist rs) : cZ W jI rs' := ⟨fun r hr => h.each r (hs.subset hr), h.CP.sublist hs⟩
theorem cZ.perm {rs' : List Rs} (h : cZ W jI rs) (hp : rs.Perm rs') : cZ W jI rs' := ⟨fun r hr => h.each r (hp.mem_iff.2 hr), (hp.pairwise_iff (fun h => Rs.off.symm h)).1 h.CP⟩
theorem cZ.nil (W : World) (jI : Nat) : cZ W jI [] := ⟨fun r hr => by simp at hr, List.Pairwise.nil⟩
theorem cZ.lt (h : cZ W jI rs) : ∀ r ∈ rs, ∀ g, r.v.ownBlock = some g → jI ≤ g ∧ g < W.heap.size := fun r hr g hg => (h.each r hr).lt g hg
end
end
section
theorem Oj {h g : Hp} (hk : dX h) (hg : dX g) (hs : Same h g) (i : Nat) (u lo : Bool) : g.held i u lo = h.held i u lo := by
 have e1 : g.z1.f = h.z1.f := by rw [← hg.e0, ← hk.e0, hs.split]
 have e2 : g.z1.e = h.z1.e := by rw [hg.e1, hk.e1]
 unfold Hp.held Hp.min
 rw [e1, e2, hs.m0, hs.m1]
theorem dX.Ol {h h' : Hp} (hk : dX h) {l : Ls} {hd a n : Nat} (hl : l.c < h.aF ∧ l.z < 2 ∧ l.t < 3) (h8 : ∀ x ∈ h.ls, x.key = l.key → x.p.length + (n + 1) ≤ 8) (hn : n + 1 ≤ 8) (he : h.jS l.z 0 l.t hd = some (h', a)) :
  dX h' ∧ dX { h' with ls := bF h'.ls l a } ∧ (∀ x ∈ bF h'.ls l a, x.key = l.key → x.p.length + n ≤ 8) ∧ Same h { h' with ls := bF h'.ls l a } := by
 obtain ⟨hT, hls, hz⟩ := hk.jS (by omega) hl.2.2 hl.2.1 he
 have hl' : l.c < h'.aF ∧ l.z < 2 ∧ l.t < 3 := by rw [hT.same.aF]; exact hl
 obtain ⟨g1, g2⟩ := hT.ok.push (l := l) (p := a) hl' ⟨hT.fit.2.2.1, by rw [hT.same.split]; exact hz⟩ (fun x hx hk => by rw [hls] at hx; have := h8 x hx hk; omega) (fun q => by rw [hT.c 0 q]; exact hk.one q)
 refine ⟨hT.ok, g1, fun x hx hkey => ?_, Same.trans hT.same ⟨rfl, rfl, rfl, rfl⟩⟩
 have := zG hT.ok.lk x hx hkey
 have h2 : uO h'.ls l.key + (n + 1) ≤ 8 := by
  unfold uO
  cases hf : h'.ls.find? fun x => decide (x.key = l.key) with
  | none => simp only; omega
  | some y =>
   have hy := List.mem_of_find?_eq_some hf
   have hyk := List.find?_some hf
   rw [hls] at hy
   exact h8 y hy (of_decide_eq_true hyk)
 omega
theorem CV {ls : List Ls} {k : Nat} (h : nU ls k = true) : ∃ hi : iK ls k < ls.length, ls[iK ls k].key = k := by
 unfold nU at h
 cases he : ls[iK ls k]? with
 | none => rw [he] at h; cases h
 | some x =>
  rw [he] at h
  obtain ⟨hi, hx⟩ := List.getElem?_eq_some_iff.1 he
  exact ⟨hi, by rw [hx]; simpa using h⟩
theorem zS {ls : List Ls} {k : Nat} (h : nU ls k = false) : ∀ y, ls[iK ls k]? = some y → y.key ≠ k := fun y hy => by
 unfold nU at h
 rw [hy] at h
 simpa using h
theorem Es {h : Hp} {l : Ls} {hd : Nat} (hh : nU h.ls l.key = true) (hi : iK h.ls l.key < h.ls.length) : h.single l hd = some ({ h with ls := if h.ls[iK h.ls l.key].p.length = 1 then h.ls.eraseIdx (iK h.ls l.key) else h.ls.set (iK h.ls l.key) { h.ls[iK h.ls l.key] with p := h.ls[iK h.ls l.key].p.dropLast } }, h.ls[iK h.ls l.key].p.getLastD 0) := by
 obtain ⟨_, hx⟩ := CV hh
 unfold Hp.single
 rw [gJ hi]
 simp only [hx, if_true]
theorem Jy {h : Hp} {l : Ls} {hd : Nat} (hh : nU h.ls l.key = false) : h.single l hd = (h.jS l.z 0 l.t hd).map fun r => (r.1.fill l hd 3, r.2) := by
 have h1 := zS hh
 unfold Hp.single
 cases he : h.ls[iK h.ls l.key]? with
 | none => rfl
 | some x => simp only [h1 x he, if_false]
end
section
open Go.RowKit
open Go.Maps (Keyed)

theorem sW {H : Type} {P : Program} {e : TypeId} (he : P.underlying e = some .bool) {v : Value} {z : DataW H × List MemPlace} (h : plainElem P e v = some z) : ∃ x, v = .bool x ∧ z = (.lit (.bool x), []) := by
 unfold plainElem at h
 rw [he] at h
 cases v <;> simp at h
 exact ⟨_, rfl, h.symm⟩

def dY (w : World) (P : Program) (k e : TypeId) (B n : Nat) (S : Lit → Prop) : Prop :=
 ∃ D : DataW Unit, w.ownsMap P k (plainElem P e) B n D ∧ Maps.IsMap D ∧ ∀ kl, WideAt.IsKeyLit kl → (S kl → D.atKey kl (.lit (.bool false)) = .lit (.bool true)) ∧ (¬ S kl → D.atKey kl (.lit (.bool false)) = .lit (.bool false))
section
variable {w w' : World} {P : Program} {t k e : TypeId} {B n : Nat} {S : Lit → Prop}
theorem dY.made (w : World) (P : Program) (k e : TypeId) : dY (w.alloc (.map #[] 0)) P k e w.heap.size 0 fun _ => False :=
 ⟨.map [], World.ownsMap_made w P k _, Maps.isMap_empty, fun kl _ => ⟨fun h => h.elim, fun _ => rfl⟩⟩
theorem dY.lt (h : dY w P k e B n S) : B < w.heap.size := by
 obtain ⟨D, h1, _⟩ := h
 exact h1.lt
theorem dY.kept {row : Option Nat} (h : dY w P k e B n S) (hg : w.grownBy w' row) (hne : some B ≠ row) : dY w' P k e B n S := by
 obtain ⟨D, h1, h2⟩ := h
 exact ⟨D, h1.kept hg hne, h2⟩
theorem dY.below (h : dY w P k e B n S) (hb : Below w.heap.size w w') : dY w' P k e B n S :=
 h.kept (row := none) ⟨hb.os, hb.tape, hb.output, hb.size, fun j hj _ => hb.block j hj⟩ (by simp)
theorem dY.imp {S' : Lit → Prop} (h : dY w P k e B n S) (hs : ∀ x, S x ↔ S' x) : dY w P k e B n S' := by
 obtain ⟨D, h1, h2, h3⟩ := h
 exact ⟨D, h1, h2, fun kl hk => ⟨fun hx => (h3 kl hk).1 ((hs kl).2 hx), fun hx => (h3 kl hk).2 fun hy => hx ((hs kl).1 hy)⟩⟩
theorem dY.out (h : dY w P k e B n S) (K : Keyed P k) (ht : P.underlying t = some (.map k e)) (he : P.underlying e = some .bool) (hz : (zeroValue e).run P w = .ok (.bool false) w) {key : Value} {kl : Lit} (hkey : keyOf P k key = some kl) (hk : WideAt.IsKeyLit kl) (hno : ¬ S kl) :
  (Instr.lookup t (.map (some B)) key false).run P w = .ok (.bool false) w := by
 obtain ⟨D, h1, _, h3⟩ := h
 obtain ⟨v, ps, hrun, hv⟩ := h1.lookup K ht hz (plainElem_bool he false) hkey
 obtain ⟨x, rfl, hx⟩ := sW he hv
 have h4 := (h3 kl hk).2 hno
 rw [h4] at hx
 simp only [Prod.mk.injEq, DataW.lit.injEq, Lit.bool.injEq] at hx
 rw [hrun, ← hx.1]
theorem dY.put (h : dY w P k e B n S) (K : Keyed P k) (ht : P.underlying t = some (.map k e)) (he : P.underlying e = some .bool) (hn : n < maxLen) {key : Value} {kl : Lit} (hkey : keyOf P k key = some kl) (hk : WideAt.IsKeyLit kl) :
  ∃ w', (Instr.mapUpdate t (.map (some B)) key (.bool true)).run P w = .ok () w' ∧ dY w' P k e B (n + 1) (fun x => x = kl ∨ S x) ∧ w.grownBy w' (some B) := by
 obtain ⟨D, h1, h2, h3⟩ := h
 obtain ⟨w', hrun, ho, hg⟩ := h1.update K ht hn hkey (plainElem_bool he true)
 refine ⟨w', hrun, ⟨_, ho, h2.put _ _, fun x hx => ?_⟩, hg⟩
 by_cases hxk : x = kl
 ·subst hxk
  exact ⟨fun _ => Maps.atKey_put_same h2 hk _ _, fun h => absurd (Or.inl rfl) h⟩
 ·rw [Maps.atKey_put_other hxk]
  exact ⟨fun h => (h3 x hx).1 (h.resolve_left hxk), fun h => (h3 x hx).2 fun hs => h (Or.inr hs)⟩
end
end
section
open Go.RowKit

theorem JD : ∀ x : List UInt8, Go.Op.bytesLess x x = false
 | [] => rfl
 | a :: x => by
  rw [Go.Op.bytesLess, JD x]
  simp
theorem zY : ∀ {x y z : List UInt8}, Go.Op.bytesLess x y = true → Go.Op.bytesLess y z = true → Go.Op.bytesLess x z = true
 | [], [], _, h, _ => by simp [Go.Op.bytesLess] at h
 | [], _ :: _, [], _, h => by simp [Go.Op.bytesLess] at h
 | [], _ :: _, _ :: _, _, _ => rfl
 | _ :: _, [], _, h, _ => by simp [Go.Op.bytesLess] at h
 | _ :: _, _ :: _, [], _, h => by simp [Go.Op.bytesLess] at h
 | a :: x, b :: y, c :: z, h, k => by
  simp only [Go.Op.bytesLess, Bool.or_eq_true, Bool.and_eq_true, decide_eq_true_eq, beq_iff_eq, UInt8.lt_iff_toNat_lt] at h k ⊢
  rcases h with h | ⟨rfl, h⟩
  ·rcases k with k | ⟨rfl, k⟩
   ·exact .inl (by omega)
   ·exact .inl h
  ·rcases k with k | ⟨rfl, k⟩
   ·exact .inl k
   ·exact .inr ⟨rfl, zY h k⟩
theorem UO {x y : List UInt8} {b : Bool} (h : Go.Op.bytesLess x y = b) : Go.Op.bytesLess (ByteArray.mk x.toArray).toList (ByteArray.mk y.toArray).toList = b := by
 rw [Go.Lib.toList_data, Go.Lib.toList_data]
 exact h
theorem Oy {x y : List UInt8} (w : World) {b : Bool} (h : Go.Op.bytesLess x y = b) : (binOp .geq 9 (.string ⟨x.toArray⟩) (.string ⟨y.toArray⟩)).run Tryz.prog w = .ok (.bool (!b)) w := by
 simp [binOp, Go.Op.stringOp]
 exact h

theorem JE : (Tryz.prog.info? 4).map (fun i => (i.zero, i.size, i.bytes)) = some (some (.bool false), 1, 1) := by kernel_rfl
theorem zZ (w : World) : (zeroValue 4).run Tryz.prog w = .ok (.bool false) w := by
 obtain ⟨i, hi, hz, hs, hb⟩ := info_parts JE
 simp [zeroValue, typeInfo, hi, hz]
theorem wX {w w' : World} {B n : Nat} (hg : w.grownBy w' (some B)) (h1 : n ≤ B) (h2 : n ≤ w.heap.size) : Below n w w' :=
 ⟨hg.os, hg.tape, hg.output, hg.size, fun k hk => hg.block k (by omega) (by simp; omega)⟩
theorem LZ {w w' : World} {B b : Nat} {vs : Array Value} (hk : ∀ o, w.cell? ⟨b, o, none⟩ = vs[o]?) (hg : w.grownBy w' (some B)) (hb : b < w.heap.size) (hne : b ≠ B) (o : Nat) : w'.cell? ⟨b, o, none⟩ = vs[o]? :=
 (World.cell?_of_block (w := w) (a := ⟨b, o, none⟩) (hg.block b hb (by simp; exact hne))).trans (hk o)
section
variable {w : World} {B n : Nat} {S : Lit → Prop}
theorem Wn (l : List UInt8) (hl : l.length ≤ 1000) : keyOf Tryz.prog 9 (sV l) = some (.string l) := by
 have h := Go.WideMaps.keyOf_string_mk Tryz.underlying9 (s := ByteArray.mk l.toArray) (by unfold maxLen; show l.toArray.size ≤ _; simp; omega)
 simpa [sV] using h
theorem Wp (p : Nat) (hp : p ≤ 1000) : keyOf Tryz.prog 3 (.int .i64 (p : Int)) = some (.int .i64 (p : Int)) :=
 Go.Maps.keyOf_int_mk Tryz.underlying3 (by
  show (decide (IntKind.i64.min ≤ (p : Int)) && decide ((p : Int) ≤ IntKind.i64.max)) = true
  rw [show IntKind.i64.min = -9223372036854775808 from rfl, show IntKind.i64.max = 9223372036854775807 from rfl]
  simp
  omega)
theorem Gw (h : dY w Tryz.prog 9 4 B n S) (l : List UInt8) (hl : l.length ≤ 1000) (hno : ¬ S (.string l)) : (Instr.lookup 147 (.map (some B)) (sV l) false).run Tryz.prog w = .ok (.bool false) w :=
 h.out (Go.Maps.string_keyed Tryz.underlying9) Tryz.underlying147 Tryz.underlying4 (zZ w) (Wn l hl) trivial hno
theorem Gx (h : dY w Tryz.prog 9 4 B n S) (hn : n ≤ 1000000) (l : List UInt8) (hl : l.length ≤ 1000) : ∃ w', (Instr.mapUpdate 147 (.map (some B)) (sV l) (.bool true)).run Tryz.prog w = .ok () w' ∧ dY w' Tryz.prog 9 4 B (n + 1) (fun x => x = .string l ∨ S x) ∧ w.grownBy w' (some B) :=
 h.put (Go.Maps.string_keyed Tryz.underlying9) Tryz.underlying147 Tryz.underlying4 (by unfold maxLen; omega) (Wn l hl) trivial
theorem Ri (h : dY w Tryz.prog 3 4 B n S) (p : Nat) (hp : p ≤ 1000) (hno : ¬ S (.int .i64 (p : Int))) : (Instr.lookup 148 (.map (some B)) (.int .i64 (p : Int)) false).run Tryz.prog w = .ok (.bool false) w :=
 h.out (Go.Maps.int_keyed Tryz.underlying3) Tryz.underlying148 Tryz.underlying4 (zZ w) (Wp p hp) trivial hno
theorem Rj (h : dY w Tryz.prog 3 4 B n S) (hn : n ≤ 1000000) (p : Nat) (hp : p ≤ 1000) : ∃ w', (Instr.mapUpdate 148 (.map (some B)) (.int .i64 (p : Int)) (.bool true)).run Tryz.prog w = .ok () w' ∧ dY w' Tryz.prog 3 4 B (n + 1) (fun x => x = .int .i64 (p : Int) ∨ S x) ∧ w.grownBy w' (some B) :=
 h.put (Go.Maps.int_keyed Tryz.underlying3) Tryz.underlying148 Tryz.underlying4 (by unfold maxLen; omega) (Wp p hp) trivial
end
end
section
open Go.RowKit

theorem MO : (Tryz.prog.info? 55).map (fun i => (i.zero, i.size, i.bytes)) = some (some (.agg #[.int .i64 0, .int .i64 0]), 2, 16) := by kernel_rfl
theorem MP (w : World) (vs : List Value) (t : TypeId) : Row (w.alloc (.cells vs.toArray t)) (some ⟨w.heap.size, 0, none⟩) vs := by
 intro j u hj
 exact ⟨w.heap.size, 0, rfl, by simp, by rw [Nat.zero_add, bC]; simpa using hj⟩

theorem Dk (f : Nat → Bool) : ∀ i, (iP f i).length ≤ i
 | 0 => by simp [iP]
 | i + 1 => by
  have ih := Dk f i
  unfold iP
  split
  ·unfold lT
   split
   ·split
    ·have : 0 < i + 1 := by omega
     simp only [List.length_append, List.length_dropLast, List.length_cons, List.length_nil]; omega
    ·simp; omega
   ·simp
  ·omega

theorem ED {w : World} {a : Option Addr} {f : Nat → Bool} (hr : Row w a ((bl f).map vB)) {k : Nat} (h : k < 256) :
  ∃ b off, a = some ⟨b, off, none⟩ ∧ b < w.heap.size ∧ w.cell? ⟨b, off + k, none⟩ = some (.bool (f k)) :=
 hr k (vB (f k)) (by rw [List.getElem?_map, JW f k h]; rfl)

set_option maxRecDepth 100000 in
theorem Ht (a : Option Addr) (cap : Nat) (f : Nat → Bool) (w : World) (hr : Row w a ((bl f).map vB)) :
  Calls Tryz.prog 102 #[.slice a 256 cap] w fun e w' => ∃ a' c', e = .returned (.slice a' (jX f).length c') ∧ w'.ownsRow w.heap.size 55 2 (.slice a' (jX f).length c') (jX f).length (flat iO (jX f)) ∧ Below w.heap.size w w' := by
 go_enter Tryz.func102, Tryz.ntmps102
 go_wp2
 go_loopw [3, 4, 5, 6, 9] (fun s3 _ _ _ s9 wr => ∃ (i : Nat) (a3 : Option Addr) (c3 : Nat), i ≤ 256 ∧ s9 = .int .i64 i ∧ s3 = .slice a3 (iP f i).length c3 ∧ Hid (wr.ownsRow w.heap.size 55 2 (.slice a3 (iP f i).length c3) (iP f i).length (flat iO (iP f i))) ∧ Below w.heap.size w wr) (fun _ _ _ _ s9 _ => 256 - (intOf s9).toNat)
 case atStart => exact ⟨0, none, 0, by omega, rfl, rfl, World.ownsRow_nil _ _ _ _, Below.refl _ _⟩
 case round =>
  obtain ⟨i, a3, c3, hi, rfl, rfl, hown, hbw⟩ := hrel
  by_cases hlt : i < 256
  ·obtain ⟨b, off, rfl, hb, hc⟩ := ED (hr.below hbw) hlt
   have hlen := Dk f i
   cases hf : f i with
   | false =>
    have hs : iP f (i + 1) = iP f i := by conv => lhs; unfold iP; rw [hf]; simp
    have HS := gO hs
    rw [hf] at hc
    clear hs hf
    go_wp2
    go_roundw
    case rel => exact ⟨i + 1, a3, c3, by omega, by go_num, by rw [HS.out], by rw [HS.out]; exact hown, hbw⟩
    case measure => simp [intOf]; omega
   | true =>
    have hs : iP f (i + 1) = lT (iP f i) i := by conv => lhs; unfold iP; rw [hf]; simp
    have HS := gO hs
    rw [hf] at hc
    clear hs hf
    generalize hL : iP f i = L at *
    have hinv : EC f i L := by rw [← hL]; exact Dj f i
    clear hL
    rcases List.eq_nil_or_concat L with rfl | ⟨M, r, rfl⟩
    ·have HO := gO (own_below hown.out (aC wr (.cells #[.int .i64 (i : Int), .int .i64 1] 55)) (Nat.le_refl _))
     have HN := gO (MP wr (iO ⟨i, 1⟩) 55)
     have hsz := hbw.size
     have hb1 : Below w.heap.size w (wr.alloc (.cells #[.int .i64 (i : Int), .int .i64 1] 55)) := Below.step hbw (aC _ _)
     go_wp2_with (at_builtin; refine fQ rfl _ _ 25 rfl w.heap.size 55 (.agg #[.int .i64 0, .int .i64 0]) 2 16 Tryz.underlying25 MO rfl (by decide) (by decide) _ _ _ _ rfl HO.out (some ⟨wr.heap.size, 0, none⟩) 1 1 (iO ⟨i, 1⟩) rfl rfl HN.out (by simp [iO, vI, Value.oneCell']) (by simp) (by simp; omega) ?_)
     intro a' c' w2 hown2 hgrow
     have hb2 := below_grown hb1 HO.out hgrow (Nat.le_refl _) (by simp; omega)
     have HO2 := gO hown2
     clear hown2 HO HN hgrow
     go_wp2
     go_roundw
     case rel => exact ⟨i + 1, a', c', by omega, by go_num, by rw [HS.out]; rfl, by rw [HS.out]; exact HO2.out, hb2⟩
     case measure => simp [intOf]; omega
    ·simp only [List.concat_eq_append, List.length_append, List.length_cons, List.length_nil, Nat.zero_add] at hown hlen HS hinv ⊢
     have hlow := hinv.low r (by simp)
     have hsm : r.small := by unfold Rg.small; omega
     obtain ⟨g, rfl, hg, hgs, hcell, aBt⟩ := Qa iM (by decide) hown.out (j := M.length) (by simp)
     have hmr : (M ++ [r])[M.length]'(by simp) = r := by simp
     rw [hmr] at hcell
     have hc0 := hcell 0 (vI r.f) rfl
     have hc1 := hcell 1 (vI r.s) rfl
     have hf1 := aBt (M.length * 2 + 1)
     simp only [vI, Nat.add_zero] at hc0 hc1
     have hlm : M.length ≤ 255 := by omega
     have hsz := hbw.size
     clear hcell aBt hmr hinv
     cases he : (r.f + r.s == (i : Int)) with
     | true =>
      have hp : lT (M ++ [r]) i = M ++ [⟨r.f, r.s + 1⟩] := by
       unfold lT
       rw [List.getLast?_concat]
       simp only [List.dropLast_concat]
       rw [if_pos (eq_of_beq he)]
      rw [hp] at HS
      clear hp
      go_wp2_with (go_at_call 148; refine (nI r _ hsm).mono ?_; rintro e w4 ⟨rfl, hb4⟩; have aIi := (hb4.cell (p := ⟨g, M.length * 2, none⟩) hgs).trans hc0; have aIj := (hb4.cell (p := ⟨g, M.length * 2 + 1, none⟩) hgs).trans hc1; have aIk := (hb4.frozen (p := ⟨g, M.length * 2 + 1, none⟩) hgs).trans hf1)
      have h := (World.ownsRow.stored (own_below hown.out hb4 (Nat.le_refl _)) (M.length * 2 + 1) (vI (r.s + 1))).1
      have hset : (flat iO (M ++ [r])).set (M.length * 2 + 1) (vI (r.s + 1)) = flat iO (M ++ [⟨r.f, r.s + 1⟩]) := by
       rw [aT, aT, List.set_append_right _ _ (by rw [flat_length iM]; omega), flat_length iM, Nat.add_sub_cancel_left]
       rfl
      rw [hset] at h
      have HH := gO h
      clear h hset
      go_roundw
      case rel =>
       refine ⟨i + 1, some ⟨g, 0, none⟩, c3, by omega, by go_num, by rw [HS.out]; simp, ?_, (Below.step hbw hb4).setCell hg _⟩
       rw [HS.out]
       have h2 := HH.out
       simp only [List.length_append, List.length_cons, List.length_nil, Nat.zero_add] at h2 ⊢
       exact h2
      case measure => simp [intOf]; omega
     | false =>
      have hp : lT (M ++ [r]) i = (M ++ [r]) ++ [⟨i, 1⟩] := by
       unfold lT
       rw [List.getLast?_concat]
       simp only
       rw [if_neg (by rw [beq_eq_false_iff_ne] at he; exact he)]
      rw [hp] at HS
      clear hp
      go_wp2_with fail
      refine (nI r _ hsm).mono ?_
      rintro e w4 ⟨rfl, hb4⟩
      have HO4 := gO (own_below (own_below hown.out hb4 (Nat.le_refl _)) (aC w4 (.cells #[.int .i64 (i : Int), .int .i64 1] 55)) (Nat.le_refl _))
      have HN4 := gO (MP w4 (iO ⟨i, 1⟩) 55)
      have hb5 := Below.step hbw hb4
      have oD := hb5.size
      have hb6 : Below w.heap.size w (w4.alloc (.cells #[.int .i64 (i : Int), .int .i64 1] 55)) := Below.step hb5 (aC _ _)
      go_wp2_with (at_builtin; refine fQ rfl _ _ 25 rfl w.heap.size 55 (.agg #[.int .i64 0, .int .i64 0]) 2 16 Tryz.underlying25 MO rfl (by decide) (by decide) _ _ _ _ rfl HO4.out (some ⟨w4.heap.size, 0, none⟩) 1 1 (iO ⟨i, 1⟩) rfl rfl HN4.out (by simp [iO, vI, Value.oneCell']) (by omega) (by simp; omega) ?_)
      intro a' c' w5 hown5 hgrow
      have hb7 := below_grown hb6 HO4.out hgrow (Nat.le_refl _) (by simp; omega)
      have HO5 := gO hown5
      clear hown5 HO4 HN4 hgrow
      go_wp2
      go_roundw
      case rel =>
       refine ⟨i + 1, a', c', by omega, by go_num, by rw [HS.out]; simp, ?_, hb7⟩
       rw [HS.out]
       have h2 := HO5.out
       rw [aT]
       simp only [List.length_append, List.length_cons, List.length_nil, Nat.zero_add] at h2 ⊢
       exact h2
      case measure => simp [intOf]; omega
  ·obtain rfl : i = 256 := by omega
   go_wp2
   go_ret
   exact ⟨a3, c3, rfl, hown.out, hbw⟩
end
section
open Go.RowKit

structure Bt where
 m : List Rg
 r : List Rg
def Bt.ok (b : Bt) : Bool := dU b.m && dU b.r
structure JX (w : World) (a1 a2 : Option Addr) (n1 n2 : Nat) (b : Bt) : Prop where
 l1 : b.m.length = n1
 l2 : b.r.length = n2
 r1 : Row w a1 (flat iO b.m)
 r2 : Row w a2 (flat iO b.r)
theorem JX.below {w w' : World} {a1 a2 : Option Addr} {n1 n2 : Nat} {b : Bt} (h : JX w a1 a2 n1 n2 b) (hb : Below w.heap.size w w') : JX w' a1 a2 n1 n2 b := ⟨h.l1, h.l2, h.r1.below hb, h.r2.below hb⟩

structure oH (w : World) (base : Nat) (a1 a2 : Option Addr) (n1 n2 c1 c2 : Nat) (b : Bt) : Prop where
 l1 : b.m.length = n1
 l2 : b.r.length = n2
 o1 : w.ownsRow base 55 2 (.slice a1 n1 c1) n1 (flat iO b.m)
 o2 : w.ownsRow base 55 2 (.slice a2 n2 c2) n2 (flat iO b.r)
theorem oH.at {w : World} {base : Nat} {a1 a2 : Option Addr} {n1 n2 c1 c2 : Nat} {b : Bt} (h : oH w base a1 a2 n1 n2 c1 c2 b) : JX w a1 a2 n1 n2 b := ⟨h.l1, h.l2, aW h.o1, aW h.o2⟩
theorem oH.below {w w' : World} {base : Nat} {a1 a2 : Option Addr} {n1 n2 c1 c2 : Nat} {b : Bt} (h : oH w base a1 a2 n1 n2 c1 c2 b) (hb : Below w.heap.size w w') : oH w' base a1 a2 n1 n2 c1 c2 b := ⟨h.l1, h.l2, own_below h.o1 hb (Nat.le_refl _), own_below h.o2 hb (Nat.le_refl _)⟩
theorem oH.base {w : World} {base base' : Nat} {a1 a2 : Option Addr} {n1 n2 c1 c2 : Nat} {b : Bt} (h : oH w base a1 a2 n1 n2 c1 c2 b) (hb : base' ≤ base) : oH w base' a1 a2 n1 n2 c1 c2 b := ⟨h.l1, h.l2, own_base h.o1 hb, own_base h.o2 hb⟩
theorem oH.set {w : World} {base : Nat} {a1 a2 : Option Addr} {n1 n2 c1 c2 : Nat} {b : Bt} (h : oH w base a1 a2 n1 n2 c1 c2 b) {g : Nat} (hg : (Value.slice a1 n1 c1).ownBlock ≠ some g ∧ (Value.slice a2 n2 c2).ownBlock ≠ some g) (i : Nat) (u : Value) : oH (w.setCell ⟨g, i, none⟩ u) base a1 a2 n1 n2 c1 c2 b := ⟨h.l1, h.l2, bJ h.o1 hg.1 u, bJ h.o2 hg.2 u⟩
theorem oH.ne {w : World} {base : Nat} {a1 a2 : Option Addr} {n1 n2 c1 c2 : Nat} {b : Bt} (h : oH w base a1 a2 n1 n2 c1 c2 b) {g : Nat} (hg : g < base ∨ w.heap.size ≤ g) : (Value.slice a1 n1 c1).ownBlock ≠ some g ∧ (Value.slice a2 n2 c2).ownBlock ≠ some g := ⟨own_ne h.o1 hg, own_ne h.o2 hg⟩
end
section
open Go.RowKit Go.WideShapes Go.ChangeShapes
section
variable {H : Type} {enc : TypeId × Value → H} {P : Program}

theorem vU (hl : laidOutB P = true) {W W' : World} (hb : Below W.heap.size W W') : ∀ (ts : List TypeId) (vs : List Value) (ds : List (DataW H)) (p : List MemPlace),
  (∀ t ∈ ts, P.readableRec t = true ∧ t < P.types.size) → (∀ x ∈ p, x.block < W.heap.size) → DataW.TrodAll enc P W 0 (fun _ => true) true ts vs ds p → DataW.TrodAll enc P W' 0 (fun b => decide (b < W.heap.size)) true ts vs ds p
 | [], [], [], p, _, _, h => h
 | t :: ts, v :: vs, d :: ds, p, hr, hp, h => by
  obtain ⟨p1, p2, h1, h2, rfl⟩ := h
  refine ⟨p1, p2, ?_, vU hl hb ts vs ds p2 (fun t ht => hr t (by simp [ht])) (fun x hx => hp x (by simp [hx])) h2, rfl⟩
  have := hr t (by simp)
  exact Below.trod hl this.1 this.2 h1 hb fun x hx => hp x (by simp [hx])
 | [], [], _ :: _, _, _, _, h => h.elim
 | [], _ :: _, _, _, _, _, h => h.elim
 | _ :: _, [], _, _, _, _, h => h.elim
 | _ :: _, _ :: _, [], _, _, _, h => h.elim

theorem TR {f : Func} {s : ChangeSpec} {apart : Bool} {W W' : World} {args : Array Value} {ds : List (DataW H)} {before : List MemPlace}
  (hl : laidOutB P = true) (hr : ∀ t ∈ f.params.toList, P.readableRec t = true ∧ t < P.types.size)
  (hW : DataW.Whole enc P f.params.toList s.vars apart W args.toList ds [] before) (hv : s.vars = []) {tb : TypeId} (hres : f.resultTypes = #[tb]) (htb : P.underlying tb = some .bool)
  (hf1 : (s.fn H (ds ++ [])).results = [.lit (.bool true)]) (hf2 : (s.fn H (ds ++ [])).args = ds) (hf3 : (s.fn H (ds ++ [])).vars = []) (hb : Below W.heap.size W W') :
  s.post enc P f apart true false false W args (.bool true) W' := by
 have hlt : ∀ p ∈ before, p.block < W.heap.size := fun p hp => hW.lt p hp
 obtain ⟨pa, pv, h1, h2, h3, h4, h5⟩ := hW
 refine ⟨ds, [], before, [], pa, [], ⟨pa, pv, h1, h2, h3, h4, h5⟩, ?_, ?_, ?_, World.keptBut_mono (fun p f => f.elim) (hb.frame (fun _ => False)), fun h => by cases h⟩
 ·rw [hres, hf1]
  exact trodAll_mk1 (shut_bool htb true)
 ·rw [hf2]
  exact vU hl hb _ _ _ _ hr (fun x hx => hlt x (by rw [h3]; simp [hx])) h1
 ·rw [hv, hf3]
  rfl
end

section
variable {H : Type} {enc : TypeId × Value → H} {P : Program}
end
end
end Go.Proofs.YtcmpmobhongkiaaGreatDoor
