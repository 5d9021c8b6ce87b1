/- texts of this claim, joined. -/
import Derived.Test.YtcmpmobhongkiaaGreatDoorSE0
import Derived.Test.YtcmpmobhongkiaaGreatDoorSE1
import Derived.Test.YtcmpmobhongkiaaGreatDoorSE2
import Derived.Test.YtcmpmobhongkiaaGreatDoorSE4
import Derived.Test.YtcmpmobhongkiaaGreatDoorSE5
import Derived.Maps.OwnOps
import Derived.Maps.Views
import Derived.ProofKit
import Derived.OpenShut
import Derived.Below
import Derived.ChangeSame
import Derived.Carry
set_option linter.unusedVariables false
set_option linter.unusedSimpArgs false
namespace Go.Proofs.YtcmpmobhongkiaaGreatDoor
section
def hit (b : Bk) (p : Nat) : Nat := if b.a ≤ p ∧ p < b.fin then 1 else 0
def cnt : List Bk → Nat → Nat
 | [], _ => 0
 | b :: l, p => hit b p + cnt l p
theorem bH (l m : List Bk) (p : Nat) : cnt (l ++ m) p = cnt l p + cnt m p := by
 induction l with
 | nil => simp [cnt]
 | cons b l ih => rw [List.cons_append, cnt, cnt, ih]; omega
theorem iQ {b : Bk} {p : Nat} : hit b p = 1 ↔ inB b.a b.o p := by
 unfold hit inB Bk.fin
 split <;> simp_all
theorem BZ (b : Bk) (p : Nat) : hit b p ≤ 1 := by unfold hit; split <;> omega
theorem iE {l : List Bk} {p : Nat} : 0 < cnt l p ↔ dX l p := by
 induction l with
 | nil => simp [cnt, dX]
 | cons b l ih =>
  rw [cnt]
  constructor
  ·intro h
   by_cases hb : hit b p = 1
   ·exact ⟨b, by simp, iQ.1 hb⟩
   ·have h1 := BZ b p
    obtain ⟨c, hc, hp⟩ := ih.1 (by omega)
    exact ⟨c, by simp [hc], hp⟩
  ·rintro ⟨c, hc, hp⟩
   rw [List.mem_cons] at hc
   rcases hc with rfl | hc
   ·have := iQ.2 hp; omega
   ·have := ih.2 ⟨c, hc, hp⟩; omega
theorem jZ {l : List Bk} (hd : l.Pairwise fun b c => apartB b.a b.o c) (p : Nat) : cnt l p ≤ 1 := by
 induction l with
 | nil => simp [cnt]
 | cons b l ih =>
  obtain ⟨h1, h2⟩ := List.pairwise_cons.1 hd
  rw [cnt]
  have h3 := BZ b p
  have h4 := ih h2
  by_cases hb : hit b p = 1
  ·have hz : ¬ 0 < cnt l p := fun h => by
    obtain ⟨c, hc, hp⟩ := iE.1 h
    exact iC (h1 c hc) p (iQ.1 hb) hp
   omega
  ·omega
theorem kD {l : List Bk} (h : l.Pairwise fun x y => x.fin ≤ y.a) : l.Pairwise fun b c => apartB b.a b.o c := h.imp fun {x y} h => by unfold apartB Bk.fin at *; omega
theorem Nw {z z' : Zn} {order at_ : Nat} (hz : z.ok) (ht : Taken z order z' at_) (t : Nat) (p : Nat) : cnt z'.l p + hit ⟨at_, order, t⟩ p = cnt z.l p := by
 have h1 := jZ (kD hz.2.sep) p
 have h2 := jZ (kD ht.ok.2.sep) p
 have h3 := ht.Ns p
 have h4 := BZ ⟨at_, order, t⟩ p
 have h5 : hit ⟨at_, order, t⟩ p = 1 ↔ inB at_ order p := iQ
 have c1 := @iE z.l p
 have c2 := @iE z'.l p
 by_cases hp : inB at_ order p
 ·have e1 := h5.2 hp
  have e2 : ¬ 0 < cnt z'.l p := fun h => by
   obtain ⟨c, hc, hcp⟩ := c2.1 h
   exact iC (ht.apart c hc) p hp hcp
  have e3 := c1.2 (h3.1 (.inr hp))
  omega
 ·have e1 : hit ⟨at_, order, t⟩ p = 0 := by
   have : ¬ hit ⟨at_, order, t⟩ p = 1 := fun h => hp (h5.1 h)
   omega
  by_cases hc : dX z.l p
  ·have e2 := c1.2 hc
   rcases h3.2 hc with h | h
   ·have := c2.2 h; omega
   ·exact absurd h hp
  ·have e2 : ¬ 0 < cnt z.l p := fun h => hc (c1.1 h)
   have e3 : ¬ 0 < cnt z'.l p := fun h => hc (h3.1 (.inl (c2.1 h)))
   omega
theorem Ny {z : Zn} (hz : z.ok) {a o : Nat} (hb : bY z.f z.e a o) (hd : ∀ x ∈ z.l, apartB a o x) (t p : Nat) : cnt (z.back a o).l p = cnt z.l p + hit ⟨a, o, t⟩ p := by
 obtain ⟨g1, g2⟩ := Zn.nO hz hb hd
 have h1 := jZ (kD hz.2.sep) p
 have h2 := jZ (kD g1.2.sep) p
 have h3 := g2 p
 have h4 := BZ ⟨a, o, t⟩ p
 have h5 : hit ⟨a, o, t⟩ p = 1 ↔ inB a o p := iQ
 have c1 := @iE z.l p
 have c2 := @iE (z.back a o).l p
 by_cases hp : inB a o p
 ·have e1 := h5.2 hp
  have e2 : ¬ 0 < cnt z.l p := fun h => by
   obtain ⟨c, hc, hcp⟩ := c1.1 h
   exact iC (hd c hc) p hp hcp
  have e3 := c2.2 (h3.2 (.inr hp))
  omega
 ·have e1 : hit ⟨a, o, t⟩ p = 0 := by
   have : ¬ hit ⟨a, o, t⟩ p = 1 := fun h => hp (h5.1 h)
   omega
  by_cases hc : dX z.l p
  ·have e2 := c1.2 hc
   have e3 := c2.2 (h3.2 (.inl hc))
   omega
  ·have e2 : ¬ 0 < cnt z.l p := fun h => hc (c1.1 h)
   have e3 : ¬ 0 < cnt (z.back a o).l p := fun h => by
    rcases h3.1 (c2.1 h) with h' | h'
    ·exact hc h'
    ·exact hp h'
   omega

def sumTo (f : Nat → Nat) : Nat → Nat
 | 0 => 0
 | n + 1 => sumTo f n + f n
theorem AO (f g : Nat → Nat) : ∀ n, sumTo (fun p => f p + g p) n = sumTo f n + sumTo g n
 | 0 => rfl
 | n + 1 => by rw [sumTo, sumTo, sumTo, AO f g n]; omega
theorem AP (b : Bk) : ∀ n, sumTo (hit b) n = min n b.fin - min n b.a
 | 0 => by simp [sumTo]
 | n + 1 => by
  rw [sumTo, AP b n]
  unfold hit
  have h1 : b.a < b.fin := by unfold Bk.fin; have := dH b.o; omega
  split <;> omega
def szB : List Bk → Nat
 | [] => 0
 | b :: l => 2 ^ b.o + szB l
theorem JV {l : List Bk} {N : Nat} (h : ∀ b ∈ l, b.fin ≤ N) : sumTo (cnt l) N = szB l := by
 induction l with
 | nil =>
  have : ∀ n, sumTo (cnt []) n = 0 := fun n => by
   induction n with
   | zero => rfl
   | succ n ih => rw [sumTo, ih]; rfl
  rw [this]; rfl
 | cons b l ih =>
  have h1 : cnt (b :: l) = fun p => hit b p + cnt l p := rfl
  rw [h1, AO, AP, ih (fun c hc => h c (by simp [hc])), szB]
  have h2 := h b (by simp)
  unfold Bk.fin at *
  generalize 2 ^ b.o = q at *
  rw [Nat.min_eq_right h2, Nat.min_eq_right (by omega)]
  omega
end
section
structure Ls where
 c : Nat
 z : Nat
 t : Nat
 p : List Nat
deriving DecidableEq
def Ls.key (l : Ls) : Nat := (l.c * 2 + l.z) * 3 + l.t
def kW (l : List Nat) : List Bk := l.map fun p => ⟨p, 0, 0⟩
def lsB : List Ls → List Bk
 | [] => []
 | l :: r => kW l.p ++ lsB r
structure Hp where
 z0 : Zn
 z1 : Zn
 m0 : Nat
 m1 : Nat
 aF : Nat
 ls : List Ls
 live : List Bk
deriving DecidableEq
def Hp.all (h : Hp) : List Bk := h.z0.l ++ (h.z1.l ++ (lsB h.ls ++ h.live))
def aAh (aF split : Nat) (l : Ls) : Prop := l.c < aF ∧ l.z < 2 ∧ l.t < 3 ∧ 0 < l.p.length ∧ l.p.length ≤ 8 ∧ ∀ p ∈ l.p, p < 256 ∧ (p < split ↔ l.z = 0)

structure eY (h : Hp) : Prop where
 o0 : h.z0.ok
 o1 : h.z1.ok
 f0 : h.z0.f = 0
 e0 : h.z0.e = h.z1.f
 e1 : h.z1.e = 256
 m0 : h.m0 ≤ 256
 m1 : h.m1 ≤ 256
 cp : 1 ≤ h.aF ∧ h.aF ≤ 4
 lk : h.ls.Pairwise fun a b => a.key < b.key
 lr : ∀ l ∈ h.ls, aAh h.aF h.z0.e l
 lv : ∀ b ∈ h.live, bY 0 256 b.a b.o ∧ b.t < 3
 vs : h.live.Pairwise fun x y => x.a < y.a
 one : ∀ p, cnt h.all p ≤ 1

def Hp.zone (h : Hp) (i : Nat) : Zn := if i = 0 then h.z0 else h.z1
def Hp.gW (h : Hp) (i : Nat) (z : Zn) : Hp := if i = 0 then { h with z0 := z } else { h with z1 := z }
def Hp.lU (h : Hp) (p : Nat) : Nat := if p < h.z0.e then 0 else 1
def Hp.min (h : Hp) (i : Nat) : Nat := if i = 0 then h.m0 else h.m1
def Hp.iW (h : Hp) (a o : Nat) : Hp := h.gW (h.lU a) ((h.zone (h.lU a)).back a o)
def Hp.held (h : Hp) (i : Nat) (urgent low : Bool) : Nat := (if urgent then h.min i / 2 else h.min i) + (if i = 0 ∧ low = false then (h.z1.e - h.z1.f) / 32 else 0)
def Hp.jG (h : Hp) (i order t hd : Nat) : Option (Hp × Nat) := if szB (h.zone i).l < hd + 2 ^ order then none else match (h.zone i).take order t with
 | some (z', a) => some (h.gW i z', a)
 | none => none
def iV (ls : List Ls) (k : Nat) : Nat := (ls.takeWhile fun l => decide (l.key < k)).length
def oQ (ls : List Ls) (k : Nat) : Bool := match ls[iV ls k]? with
 | some l => decide (l.key = k)
 | none => false
def fQ (ls : List Ls) (l : Ls) (p : Nat) : List Ls := match ls[iV ls l.key]? with
 | some x => if x.key = l.key then ls.set (iV ls l.key) { x with p := x.p ++ [p] } else ls.take (iV ls l.key) ++ { l with p := [p] } :: ls.drop (iV ls l.key)
 | none => ls.take (iV ls l.key) ++ { l with p := [p] } :: ls.drop (iV ls l.key)
def Hp.fill (h : Hp) (l : Ls) (hd : Nat) : Nat → Hp
 | 0 => h
 | n + 1 => match h.jG l.z 0 l.t hd with
  | some (h', q) => Hp.fill { h' with ls := fQ h'.ls l q } l hd n
  | none => h
def Hp.single (h : Hp) (l : Ls) (hd : Nat) : Option (Hp × Nat) := match h.ls[iV h.ls l.key]? with
 | some x => if x.key = l.key then some ({ h with ls := if x.p.length = 1 then h.ls.eraseIdx (iV h.ls l.key) else h.ls.set (iV h.ls l.key) { x with p := x.p.dropLast } }, x.p.getLastD 0) else (h.jG l.z 0 l.t hd).map fun r => (r.1.fill l hd 3, r.2)
 | none => (h.jG l.z 0 l.t hd).map fun r => (r.1.fill l hd 3, r.2)
def Hp.ask (h : Hp) (cpu i order t : Nat) (urgent low : Bool) : Option (Hp × Nat) := if order = 0 then h.single ⟨cpu, i, t, []⟩ (h.held i urgent low) else h.jG i order t (h.held i urgent low)
def Hp.attempt (h : Hp) (cpu order t : Nat) (urgent low : Bool) : Option (Hp × Nat) :=
 if low then h.ask cpu 0 order t urgent low else match h.ask cpu 1 order t urgent low with
  | some r => some r
  | none => h.ask cpu 0 order t urgent low
def bG (h : Hp) : List Nat → Hp
 | [] => h
 | p :: l => bG (h.iW p 0) l
def bP (h : Hp) : List Ls → Hp
 | [] => h
 | l :: r => bP (bG h l.p) r
def Hp.drain (h : Hp) : Hp := { bP h h.ls with ls := [] }
def Hp.alloc (h : Hp) (cpu order t : Nat) (urgent low : Bool) : Option (Hp × Nat) :=
 match (match h.attempt cpu order t urgent low with
  | some r => some r
  | none => h.drain.attempt cpu order t urgent low) with
 | some (h', a) => some ({ h' with live := bC h'.live ⟨a, order, t⟩ }, a)
 | none => none
end
section
theorem dM (h : Hp) (p : Nat) : cnt h.all p = cnt h.z0.l p + cnt h.z1.l p + cnt (lsB h.ls) p + cnt h.live p := by
 unfold Hp.all
 rw [bH, bH, bH]
 omega
theorem DW (h : Hp) (i p : Nat) : cnt (h.zone i).l p ≤ cnt h.all p := by
 rw [dM]
 unfold Hp.zone
 split <;> omega
theorem DX (h : Hp) (i : Nat) (z : Zn) (p : Nat) : cnt (h.gW i z).all p + cnt (h.zone i).l p = cnt h.all p + cnt z.l p := by
 rw [dM, dM]
 unfold Hp.gW Hp.zone
 split <;> simp only <;> omega
theorem eY.zone {h : Hp} (hk : eY h) (i : Nat) : (h.zone i).ok := by
 unfold Hp.zone
 split
 ·exact hk.o0
 ·exact hk.o1
theorem eY.gW {h : Hp} (hk : eY h) (i : Nat) {z : Zn} (hz : z.ok) (hf : z.f = (h.zone i).f) (he : z.e = (h.zone i).e) (h1 : ∀ p, cnt (h.gW i z).all p ≤ 1) : eY (h.gW i z) := by
 by_cases hi : i = 0
 ·subst hi
  have e : h.gW 0 z = { h with z0 := z } := if_pos rfl
  have e2 : h.zone 0 = h.z0 := if_pos rfl
  rw [e2] at hf he
  rw [e] at h1 ⊢
  exact ⟨hz, hk.o1, hf.trans hk.f0, he.trans hk.e0, hk.e1, hk.m0, hk.m1, hk.cp, hk.lk, fun l hl => by simp only; rw [he]; exact hk.lr l hl, hk.lv, hk.vs, h1⟩
 ·have e : h.gW i z = { h with z1 := z } := if_neg hi
  have e2 : h.zone i = h.z1 := if_neg hi
  rw [e2] at hf he
  rw [e] at h1 ⊢
  exact ⟨hk.o0, hz, hk.f0, hk.e0.trans hf.symm, he.trans hk.e1, hk.m0, hk.m1, hk.cp, hk.lk, hk.lr, hk.lv, hk.vs, h1⟩
structure Same (h g : Hp) : Prop where
 m0 : g.m0 = h.m0
 m1 : g.m1 = h.m1
 aF : g.aF = h.aF
 split : g.z0.e = h.z0.e
theorem Same.refl (h : Hp) : Same h h := ⟨rfl, rfl, rfl, rfl⟩
theorem Same.trans {a b c : Hp} (h1 : Same a b) (h2 : Same b c) : Same a c := ⟨h2.m0.trans h1.m0, h2.m1.trans h1.m1, h2.aF.trans h1.aF, h2.split.trans h1.split⟩
theorem AQ {h : Hp} {i : Nat} {z : Zn} (he : z.e = (h.zone i).e) : Same h (h.gW i z) ∧ (h.gW i z).ls = h.ls ∧ (h.gW i z).live = h.live := by
 unfold Hp.gW
 unfold Hp.zone at he
 split
 ·rename_i hi
  rw [if_pos hi] at he
  exact ⟨⟨rfl, rfl, rfl, he⟩, rfl, rfl⟩
 ·exact ⟨⟨rfl, rfl, rfl, rfl⟩, rfl, rfl⟩
theorem eY.fits {h : Hp} (hk : eY h) {a o : Nat} (hb : bY 0 256 a o) : bY (h.zone (h.lU a)).f (h.zone (h.lU a)).e a o := by
 obtain ⟨h1, h2, h3, h4⟩ := hb
 unfold Hp.lU
 by_cases hlt : a < h.z0.e
 ·rw [if_pos hlt]
  have e : h.zone 0 = h.z0 := if_pos rfl
  rw [e, hk.f0]
  exact ⟨h1, by omega, hlt, h4⟩
 ·rw [if_neg hlt]
  have e : h.zone 1 = h.z1 := if_neg (by omega)
  rw [e, hk.e1, ← hk.e0]
  exact ⟨h1, by omega, h3, h4⟩
theorem eY.iW {h : Hp} (hk : eY h) {a o : Nat} (hb : bY 0 256 a o) (hd : ∀ p, cnt h.all p + hit ⟨a, o, 0⟩ p ≤ 1) :
  eY (h.iW a o) ∧ (∀ p, cnt (h.iW a o).all p = cnt h.all p + hit ⟨a, o, 0⟩ p) ∧ Same h (h.iW a o) ∧ (h.iW a o).ls = h.ls ∧ (h.iW a o).live = h.live := by
 have hz := hk.zone (h.lU a)
 have hfit := hk.fits hb
 have hap : ∀ x ∈ (h.zone (h.lU a)).l, apartB a o x := fun x hx => dI fun p h1 h2 => by
  have g1 := hd p
  have g2 := DW h (h.lU a) p
  have g3 := iE.2 (show dX (h.zone (h.lU a)).l p from ⟨x, hx, h2⟩)
  have g4 : hit ⟨a, o, 0⟩ p = 1 := iQ.2 h1
  omega
 have hc : ∀ p, cnt (h.iW a o).all p = cnt h.all p + hit ⟨a, o, 0⟩ p := fun p => by
  have g1 := DX h (h.lU a) ((h.zone (h.lU a)).back a o) p
  have g2 := Ny hz hfit hap 0 p
  unfold Hp.iW
  omega
 have hs := AQ (h := h) (i := h.lU a) (z := (h.zone (h.lU a)).back a o) rfl
 exact ⟨hk.gW _ (Zn.nO hz hfit hap).1 rfl rfl (fun p => by have := hc p; unfold Hp.iW at this; rw [this]; exact hd p), hc, hs.1, hs.2.1, hs.2.2⟩
theorem Nz {z : Zn} (hz : z.ok) : szB z.l ≤ 256 := by
 have h1 : ∀ b ∈ z.l, b.fin ≤ 256 := fun b hb => by
  have h2 := (hz.2.fit b hb).1
  have h3 := o8 hz.1.e16 h2
  have h4 := hz.1.e2
  unfold Bk.fin
  omega
 rw [← JV h1]
 have h5 : ∀ n, sumTo (cnt z.l) n ≤ n := fun n => by
  induction n with
  | zero => exact Nat.le_refl _
  | succ n ih =>
   have := jZ (kD hz.2.sep) n
   rw [sumTo]
   omega
 exact h5 256
structure JW (h : Hp) (order : Nat) (h' : Hp) (a : Nat) : Prop where
 ok : eY h'
 fit : bY 0 256 a order
 c : ∀ t p, cnt h'.all p + hit ⟨a, order, t⟩ p = cnt h.all p
 same : Same h h'
 live : h'.live = h.live
theorem eY.jG {h h' : Hp} (hk : eY h) {i order t hd a : Nat} (ho : order ≤ 4) (ht : t < 3) (hi : i < 2) (he : h.jG i order t hd = some (h', a)) :
  JW h order h' a ∧ h'.ls = h.ls ∧ (a < h.z0.e ↔ i = 0) := by
 unfold Hp.jG at he
 split at he
 ·cases he
 ·cases hz : (h.zone i).take order t with
  | none => rw [hz] at he; cases he
  | some r =>
   obtain ⟨z', a'⟩ := r
   rw [hz] at he
   simp only [Option.some.injEq, Prod.mk.injEq] at he
   obtain ⟨rfl, rfl⟩ := he
   have zT := hk.zone i
   have hex : ∃ b ∈ (h.zone i).l, order ≤ b.o := Classical.byContradiction fun hn => by
    rw [Zn.AL hn] at hz; cases hz
   obtain ⟨z2, a2, h1, hT⟩ := Zn.AB zT ho ht hex
   rw [hz] at h1
   simp only [Option.some.injEq, Prod.mk.injEq] at h1
   obtain ⟨rfl, rfl⟩ := h1
   have hc : ∀ t p, cnt (h.gW i z').all p + hit ⟨a', order, t⟩ p = cnt h.all p := fun t p => by
    have g1 := DX h i z' p
    have g2 := Nw zT hT t p
    omega
   have hs := AQ (h := h) (i := i) (z := z') hT.e
   have hfit := hT.fit
   have hbound : bY 0 256 a' order ∧ (a' < h.z0.e ↔ i = 0) := by
    obtain ⟨g1, g2, g3, g4⟩ := hfit
    unfold Hp.zone at g2 g3
    by_cases hi0 : i = 0
    ·rw [if_pos hi0] at g2 g3
     have := hk.o0.1.e2
     exact ⟨⟨g1, by omega, by omega, g4⟩, fun _ => hi0, fun _ => g3⟩
    ·rw [if_neg hi0] at g2 g3
     have := hk.e1
     have := hk.e0
     exact ⟨⟨g1, by omega, by omega, g4⟩, fun h => by omega, fun h => absurd h hi0⟩
   exact ⟨⟨hk.gW i hT.ok hT.f hT.e (fun p => by have := hc 0 p; have := hk.one p; omega), hbound.1, hc, hs.1, hs.2.2⟩, hs.2.1, hbound.2⟩
end
section
theorem Gs (l m : List Ls) : lsB (l ++ m) = lsB l ++ lsB m := by
 induction l with
 | nil => rfl
 | cons x l ih => rw [List.cons_append, lsB, lsB, ih, List.append_assoc]
theorem jP (l m : List Nat) (q : Nat) : cnt (kW (l ++ m)) q = cnt (kW l) q + cnt (kW m) q := by
 unfold kW
 rw [List.map_append, bH]
theorem wB (p q : Nat) : cnt (kW [p]) q = hit ⟨p, 0, 0⟩ q := rfl
theorem iJ (l m : List Ls) (q : Nat) : cnt (lsB (l ++ m)) q = cnt (lsB l) q + cnt (lsB m) q := by rw [Gs, bH]
theorem fD (x : Ls) (l : List Ls) (q : Nat) : cnt (lsB (x :: l)) q = cnt (kW x.p) q + cnt (lsB l) q := by rw [lsB, bH]
theorem xU {l : List Ls} {i : Nat} (hi : i < l.length) : l = l.take i ++ l[i] :: l.drop (i + 1) := by
 rw [← List.drop_eq_getElem_cons hi, List.take_append_drop]
theorem wC {l : List Ls} {i : Nat} (hi : i < l.length) (x : Ls) (q : Nat) : cnt (lsB (l.set i x)) q + cnt (kW l[i].p) q = cnt (lsB l) q + cnt (kW x.p) q := by
 have h1 : l.set i x = l.take i ++ x :: l.drop (i + 1) := by rw [List.set_eq_take_append_cons_drop, if_pos hi]
 conv => rhs; rw [xU hi]
 rw [h1, iJ, iJ, fD, fD]
 omega
theorem zU {l : List Ls} {i : Nat} (hi : i < l.length) (q : Nat) : cnt (lsB (l.eraseIdx i)) q + cnt (kW l[i].p) q = cnt (lsB l) q := by
 conv => rhs; rw [xU hi]
 rw [List.eraseIdx_eq_take_drop_succ, iJ, iJ, fD]
 omega
theorem wE (l : List Ls) (i : Nat) (x : Ls) (q : Nat) : cnt (lsB (l.take i ++ x :: l.drop i)) q = cnt (lsB l) q + cnt (kW x.p) q := by
 conv => rhs; rw [← List.take_append_drop i l]
 rw [iJ, iJ, fD]
 omega
theorem cnt_push (ls : List Ls) (l : Ls) (p q : Nat) : cnt (lsB (fQ ls l p)) q = cnt (lsB ls) q + hit ⟨p, 0, 0⟩ q := by
 unfold fQ
 split
 ·rename_i x hx
  obtain ⟨hi, hxi⟩ := List.getElem?_eq_some_iff.1 hx
  split
  ·have h := wC hi { x with p := x.p ++ [p] } q
   rw [hxi] at h
   simp only [jP, wB] at h
   omega
  ·rw [wE]
   rfl
 ·rw [wE]
  rfl

def jQ (ls : List Ls) : Prop := ls.Pairwise fun a b => a.key < b.key
theorem NC (ls : List Ls) (k : Nat) : iV ls k ≤ ls.length := by
 unfold iV
 exact (List.takeWhile_prefix _).length_le
theorem uS {ls : List Ls} {k : Nat} : ∀ x ∈ ls.take (iV ls k), x.key < k := by
 intro x hx
 unfold iV at hx
 rw [xI] at hx
 exact of_decide_eq_true (Gn (p := fun l : Ls => decide (l.key < k)) hx)
theorem qK {ls : List Ls} (h : jQ ls) {k : Nat} : ∀ x ∈ ls.drop (iV ls k), k ≤ x.key := by
 intro x hx
 unfold iV at hx
 rw [drop_tw] at hx
 induction ls with
 | nil => simp at hx
 | cons y ls ih =>
  obtain ⟨h1, h2⟩ := List.pairwise_cons.1 h
  by_cases hy : y.key < k
  ·rw [List.dropWhile_cons_of_pos (by simpa using hy)] at hx
   exact ih h2 hx
  ·rw [List.dropWhile_cons_of_neg (by simpa using hy), List.mem_cons] at hx
   rcases hx with rfl | hx
   ·omega
   ·have := h1 x hx; omega
theorem DY {ls : List Ls} (h : jQ ls) {i : Nat} (hi : i < ls.length) {x : Ls} (hx : x.key = ls[i].key) : jQ (ls.set i x) := by
 unfold jQ at *
 rw [gN] at *
 intro a b ha hb hab
 rw [List.length_set] at ha hb
 rw [List.getElem_set, List.getElem_set]
 have h1 := h a b ha hb hab
 by_cases e1 : i = a
 ·subst e1
  rw [if_pos rfl, if_neg (by omega), hx]
  exact h1
 ·rw [if_neg e1]
  by_cases e2 : i = b
  ·subst e2
   rw [if_pos rfl, hx]
   exact h1
  ·rw [if_neg e2]
   exact h1
theorem DZ {ls : List Ls} (h : jQ ls) {x : Ls} (hn : ∀ y ∈ ls, y.key ≠ x.key) : jQ (ls.take (iV ls x.key) ++ x :: ls.drop (iV ls x.key)) := by
 unfold jQ
 rw [List.pairwise_append]
 refine ⟨h.sublist (List.take_sublist _ _), List.pairwise_cons.2 ⟨fun y hy => ?_, h.sublist (List.drop_sublist _ _)⟩, fun a ha b hb => ?_⟩
 ·have h1 := qK h y hy
  have h2 := hn y (List.mem_of_mem_drop hy)
  omega
 ·have h1 := uS a ha
  rw [List.mem_cons] at hb
  rcases hb with rfl | hb
  ·exact h1
  ·have h2 := qK h b hb
   omega
theorem QM {ls : List Ls} (h : jQ ls) {x : Ls} (hx : x ∈ ls) : ls[iV ls x.key]? = some x := by
 have hm : x ∈ ls.drop (iV ls x.key) := by
  have := hx
  rw [← List.take_append_drop (iV ls x.key) ls, List.mem_append] at this
  rcases this with h1 | h1
  ·have := uS x h1; omega
  ·exact h1
 cases hd : ls.drop (iV ls x.key) with
 | nil => rw [hd] at hm; simp at hm
 | cons y r =>
  have hy : ls[iV ls x.key]? = some y := by
   have := congrArg (·[0]?) hd
   simpa [List.getElem?_drop] using this
  rw [hd, List.mem_cons] at hm
  rcases hm with rfl | hm
  ·exact hy
  ·have h1 : (ls.drop (iV ls x.key)).Pairwise fun a b => a.key < b.key := h.sublist (List.drop_sublist _ _)
   rw [hd] at h1
   have h2 := (List.pairwise_cons.1 h1).1 x hm
   have h3 := qK h (k := x.key) y (by rw [hd]; simp)
   omega
theorem lI {ls : List Ls} (h : jQ ls) {k : Nat} (hm : ∀ y, ls[iV ls k]? = some y → y.key ≠ k) : ∀ y ∈ ls, y.key ≠ k := by
 intro y hy e
 subst e
 exact hm y (QM h hy) rfl
theorem key_inj {a b : Ls} (ha : a.z < 2 ∧ a.t < 3) (hb : b.z < 2 ∧ b.t < 3) (h : a.key = b.key) : a.c = b.c ∧ a.z = b.z ∧ a.t = b.t := by
 unfold Ls.key at h
 omega

def IW (N aF split : Nat) (l : Ls) : Prop := l.c < aF ∧ l.z < 2 ∧ l.t < 3 ∧ 0 < l.p.length ∧ l.p.length ≤ N ∧ ∀ p ∈ l.p, p < 256 ∧ (p < split ↔ l.z = 0)
theorem AU {ls : List Ls} (h : jQ ls) (l : Ls) (p : Nat) : jQ (fQ ls l p) := by
 unfold fQ
 split
 ·rename_i x hx
  obtain ⟨hi, hxi⟩ := List.getElem?_eq_some_iff.1 hx
  split
  ·exact DY h hi (by rw [hxi]; rfl)
  ·rename_i hne
   exact DZ (x := { l with p := [p] }) h (lI h fun y hy => by
    change ls[iV ls l.key]? = some y at hy
    rw [hx] at hy
    obtain rfl := gP hy
    exact hne)
 ·rename_i hx
  exact DZ (x := { l with p := [p] }) h (lI h fun y hy => by
   change ls[iV ls l.key]? = some y at hy
   rw [hx] at hy
   cases hy)
theorem QN {ls : List Ls} {N M aF split : Nat} (h : ∀ x ∈ ls, IW N aF split x) {l : Ls} {p : Nat} (hl : l.c < aF ∧ l.z < 2 ∧ l.t < 3) (hp : p < 256 ∧ (p < split ↔ l.z = 0)) (hNM : N ≤ M) (hM : 1 ≤ M) (hx : ∀ x ∈ ls, x.key = l.key → x.p.length + 1 ≤ M) : ∀ x ∈ fQ ls l p, IW M aF split x := by
 have up : ∀ x ∈ ls, IW M aF split x := fun x hx => by
  obtain ⟨h1, h2, h3, h4, h5, h6⟩ := h x hx
  exact ⟨h1, h2, h3, h4, by omega, h6⟩
 have new : IW M aF split { l with p := [p] } := ⟨hl.1, hl.2.1, hl.2.2, by simp, by simpa using hM, fun q hq => by
  obtain rfl : q = p := by simpa using hq
  exact hp⟩
 intro y hy
 unfold fQ at hy
 split at hy
 ·rename_i x hxe
  obtain ⟨hi, hxi⟩ := List.getElem?_eq_some_iff.1 hxe
  have hxm : x ∈ ls := by rw [← hxi]; exact gL hi
  split at hy
  ·rename_i hk
   rcases List.mem_or_eq_of_mem_set hy with hy | rfl
   ·exact up y hy
   ·obtain ⟨h1, h2, h3, h4, h5, h6⟩ := h x hxm
    have hkk := key_inj ⟨h2, h3⟩ ⟨hl.2.1, hl.2.2⟩ hk
    refine ⟨h1, h2, h3, by simp, by have := hx x hxm hk; simpa using this, fun q hq => ?_⟩
    simp only [List.mem_append, List.mem_singleton] at hq
    rcases hq with hq | rfl
    ·exact h6 q hq
    ·exact ⟨hp.1, by rw [hkk.2.1]; exact hp.2⟩
  ·rw [List.mem_append, List.mem_cons] at hy
   rcases hy with hy | rfl | hy
   ·exact up y (List.mem_of_mem_take hy)
   ·exact new
   ·exact up y (List.mem_of_mem_drop hy)
 ·rw [List.mem_append, List.mem_cons] at hy
  rcases hy with hy | rfl | hy
  ·exact up y (List.mem_of_mem_take hy)
  ·exact new
  ·exact up y (List.mem_of_mem_drop hy)
end
section
theorem eY.push {h : Hp} (hk : eY h) {l : Ls} {p : Nat} (hl : l.c < h.aF ∧ l.z < 2 ∧ l.t < 3) (hp : p < 256 ∧ (p < h.z0.e ↔ l.z = 0)) (h8 : ∀ x ∈ h.ls, x.key = l.key → x.p.length + 1 ≤ 8) (hd : ∀ q, cnt h.all q + hit ⟨p, 0, 0⟩ q ≤ 1) :
  eY { h with ls := fQ h.ls l p } ∧ ∀ q, cnt ({ h with ls := fQ h.ls l p } : Hp).all q = cnt h.all q + hit ⟨p, 0, 0⟩ q := by
 have hc : ∀ q, cnt ({ h with ls := fQ h.ls l p } : Hp).all q = cnt h.all q + hit ⟨p, 0, 0⟩ q := fun q => by
  rw [dM, dM]
  simp only
  rw [cnt_push]
  omega
 exact ⟨⟨hk.o0, hk.o1, hk.f0, hk.e0, hk.e1, hk.m0, hk.m1, hk.cp, AU hk.lk l p, QN (N := 8) (M := 8) hk.lr hl hp (Nat.le_refl _) (by omega) h8, hk.lv, hk.vs, fun q => by rw [hc]; exact hd q⟩, hc⟩

def xW (ls : List Ls) (k : Nat) : Nat := match ls.find? fun x => decide (x.key = k) with
 | some x => x.p.length
 | none => 0
theorem ND {ls : List Ls} (h : jQ ls) {x : Ls} (hx : x ∈ ls) : xW ls x.key = x.p.length := by
 unfold xW
 have : ls.find? (fun y => decide (y.key = x.key)) = some x := by
  induction ls with
  | nil => simp at hx
  | cons y ls ih =>
   obtain ⟨h1, h2⟩ := List.pairwise_cons.1 h
   rw [List.mem_cons] at hx
   rcases hx with rfl | hx
   ·rw [List.find?_cons_of_pos (by simp)]
   ·rw [List.find?_cons_of_neg (by have := h1 x hx; simp; omega)]
    exact ih h2 hx
 rw [this]
theorem Ea {ls : List Ls} {l : Ls} {p : Nat} (h : jQ ls) : ∀ x ∈ fQ ls l p, x.key = l.key → x.p.length = xW ls l.key + 1 := by
 intro x hx hkey
 have hr := AU h l p
 unfold fQ at hx hr
 split at hx
 ·rename_i y hy
  obtain ⟨hi, hyi⟩ := List.getElem?_eq_some_iff.1 hy
  have hym : y ∈ ls := by rw [← hyi]; exact gL hi
  by_cases hk : y.key = l.key
  ·rw [if_pos hk] at hx
   have hl := ND h hym
   rw [hk] at hl
   rcases List.mem_or_eq_of_mem_set hx with hm | rfl
   ·obtain ⟨j, hj, rfl⟩ := List.getElem_of_mem hx
    rw [List.length_set] at hj
    rw [List.getElem_set] at hkey ⊢
    by_cases he : iV ls l.key = j
    ·rw [if_pos he] at hkey ⊢
     simp [hl]
    ·rw [if_neg he] at hkey
     exfalso
     rcases Nat.lt_or_gt_of_ne he with hlt | hgt
     ·have := List.pairwise_iff_getElem.1 h _ _ hi hj hlt
      rw [hyi, hk, hkey] at this
      omega
     ·have := List.pairwise_iff_getElem.1 h _ _ hj hi hgt
      rw [hyi, hk, hkey] at this
      omega
   ·simp [hl]
  ·rw [if_neg hk] at hx
   have hmiss := lI h (k := l.key) fun w hw => by rw [hy] at hw; obtain rfl := gP hw; exact hk
   have hz : xW ls l.key = 0 := by
    unfold xW
    rw [List.find?_eq_none.2 (fun w hw => by simpa using hmiss w hw)]
   rw [List.mem_append, List.mem_cons] at hx
   rcases hx with hm | rfl | hm
   ·exact absurd hkey (hmiss x (List.mem_of_mem_take hm))
   ·rw [hz]; rfl
   ·exact absurd hkey (hmiss x (List.mem_of_mem_drop hm))
 ·rename_i hy
  have hmiss := lI h (k := l.key) fun w hw => by rw [hy] at hw; cases hw
  have hz : xW ls l.key = 0 := by
   unfold xW
   rw [List.find?_eq_none.2 (fun w hw => by simpa using hmiss w hw)]
  rw [List.mem_append, List.mem_cons] at hx
  rcases hx with hm | rfl | hm
  ·exact absurd hkey (hmiss x (List.mem_of_mem_take hm))
  ·rw [hz]; rfl
  ·exact absurd hkey (hmiss x (List.mem_of_mem_drop hm))

theorem eY.fill {l : Ls} {hd : Nat} : ∀ (n : Nat) {h : Hp}, eY h → (l.c < h.aF ∧ l.z < 2 ∧ l.t < 3) → (∀ x ∈ h.ls, x.key = l.key → x.p.length + n ≤ 8) → n ≤ 8 →
  eY (h.fill l hd n) ∧ (∀ q, cnt (h.fill l hd n).all q = cnt h.all q) ∧ Same h (h.fill l hd n) ∧ (h.fill l hd n).live = h.live
 | 0, h, hk, _, _, _ => ⟨hk, fun _ => rfl, Same.refl h, rfl⟩
 | n + 1, h, hk, hl, h8, hn => by
  unfold Hp.fill
  cases ht : h.jG l.z 0 l.t hd with
  | none => exact ⟨hk, fun _ => rfl, Same.refl h, rfl⟩
  | some r =>
   obtain ⟨h', a⟩ := r
   obtain ⟨hT, hls, hz⟩ := hk.jG (by omega) hl.2.2 hl.2.1 ht
   have hl' : l.c < h'.aF ∧ l.z < 2 ∧ l.t < 3 := by rw [hT.same.aF]; exact hl
   obtain ⟨g1, g2⟩ := hT.ok.push (l := l) (p := a) hl' ⟨hT.fit.2.2.1, by rw [hT.same.split]; exact hz⟩ (fun x hx hk => by rw [hls] at hx; have := h8 x hx hk; omega) (fun q => by rw [hT.c 0 q]; exact hk.one q)
   obtain ⟨k1, k2, k3, k4⟩ := eY.fill n (h := { h' with ls := fQ h'.ls l a }) g1 hl' (fun x hx hkey => by
    have := Ea hT.ok.lk x hx hkey
    have h2 : xW h'.ls l.key + (n + 1) ≤ 8 := by
     unfold xW
     cases hf : h'.ls.find? fun x => decide (x.key = l.key) with
     | none => simp only; omega
     | some y =>
      have hy := List.mem_of_find?_eq_some hf
      have hyk := List.find?_some hf
      rw [hls] at hy
      exact h8 y hy (of_decide_eq_true hyk)
    omega) (by omega)
   exact ⟨k1, fun q => by rw [k2, g2, hT.c 0 q], Same.trans (b := { h' with ls := fQ h'.ls l a }) (Same.trans hT.same ⟨rfl, rfl, rfl, rfl⟩) k3, k4.trans hT.live⟩
end
section
theorem uT {p : Nat} (h : p < 256) : bY 0 256 p 0 := ⟨by omega, by omega, h, by simp [Nat.mod_one]⟩
theorem Xf (a o t t' p : Nat) : hit ⟨a, o, t⟩ p = hit ⟨a, o, t'⟩ p := rfl
theorem JX {ls : List Ls} {k n : Nat} (hm : ∀ y ∈ ls, y.key ≠ k) : ∀ x ∈ ls, x.key = k → x.p.length + n ≤ 8 := fun x hx hk => absurd hk (hm x hx)

theorem eY.filled {h h' : Hp} (hk : eY h) {l : Ls} {hd a : Nat} (hl : l.c < h.aF ∧ l.z < 2 ∧ l.t < 3) (hm : ∀ y ∈ h.ls, y.key ≠ l.key) (he : (h.jG l.z 0 l.t hd).map (fun r => (r.1.fill l hd 3, r.2)) = some (h', a)) : JW h 0 h' a := by
 cases ht : h.jG l.z 0 l.t hd with
 | none => rw [ht] at he; cases he
 | some r =>
  obtain ⟨g, b⟩ := r
  rw [ht] at he
  simp only [Option.map_some, Option.some.injEq, Prod.mk.injEq] at he
  obtain ⟨rfl, rfl⟩ := he
  obtain ⟨hT, hls, hz⟩ := hk.jG (by omega) hl.2.2 hl.2.1 ht
  obtain ⟨k1, k2, k3, k4⟩ := eY.fill (l := l) (hd := hd) 3 hT.ok (by rw [hT.same.aF]; exact hl) (JX (by rw [hls]; exact hm)) (by omega)
  exact ⟨k1, hT.fit, fun t p => by rw [k2]; exact hT.c t p, hT.same.trans k3, k4.trans hT.live⟩

theorem eY.single {h h' : Hp} (hk : eY h) {l : Ls} {hd a : Nat} (hl : l.c < h.aF ∧ l.z < 2 ∧ l.t < 3) (he : h.single l hd = some (h', a)) : JW h 0 h' a := by
 unfold Hp.single at he
 cases hx : h.ls[iV h.ls l.key]? with
 | none =>
  rw [hx] at he
  exact hk.filled hl (lI hk.lk fun y hy => by rw [hx] at hy; cases hy) he
 | some x =>
  rw [hx] at he
  simp only at he
  obtain ⟨hi, hxi⟩ := List.getElem?_eq_some_iff.1 hx
  by_cases hkey : x.key = l.key
  ·rw [if_pos hkey] at he
   simp only [Option.some.injEq, Prod.mk.injEq] at he
   obtain ⟨rfl, rfl⟩ := he
   have hxm : x ∈ h.ls := by rw [← hxi]; exact gL hi
   obtain ⟨q1, q2, q3, q4, q5, q6⟩ := hk.lr x hxm
   have hne : x.p ≠ [] := fun e => by rw [e] at q4; simp at q4
   obtain ⟨ys, y, hy⟩ : ∃ ys y, x.p = ys ++ [y] := ⟨x.p.dropLast, x.p.getLast hne, (List.dropLast_concat_getLast hne).symm⟩
   have hlast : x.p.getLastD 0 = y := by rw [hy]; simp
   have hdrop : x.p.dropLast = ys := by rw [hy]; simp
   have hlen : x.p.length = ys.length + 1 := by rw [hy]; simp
   have hym : y ∈ x.p := by rw [hy]; simp
   rw [hlast, hdrop, hlen]
   have hpg : ∀ q, cnt (kW x.p) q = cnt (kW ys) q + hit ⟨y, 0, 0⟩ q := fun q => by rw [hy, jP]; rfl
   have hcl : ∀ q, cnt (lsB (if ys.length + 1 = 1 then h.ls.eraseIdx (iV h.ls l.key) else h.ls.set (iV h.ls l.key) { x with p := ys })) q + hit ⟨y, 0, 0⟩ q = cnt (lsB h.ls) q := fun q => by
    split
    ·rename_i h1
     have := zU hi q
     rw [hxi, hpg] at this
     have hz : ys = [] := List.eq_nil_of_length_eq_zero (by omega)
     rw [hz] at this
     simp only [kW, List.map_nil, cnt] at this
     omega
    ·have := wC hi { x with p := ys } q
     rw [hxi, hpg] at this
     simp only at this
     omega
   have hca : ∀ t q, cnt ({ h with ls := if ys.length + 1 = 1 then h.ls.eraseIdx (iV h.ls l.key) else h.ls.set (iV h.ls l.key) { x with p := ys } } : Hp).all q + hit ⟨y, 0, t⟩ q = cnt h.all q := fun t q => by
    rw [Xf y 0 t 0, dM, dM]
    simp only
    have := hcl q
    omega
   refine ⟨⟨hk.o0, hk.o1, hk.f0, hk.e0, hk.e1, hk.m0, hk.m1, hk.cp, ?_, ?_, hk.lv, hk.vs, fun q => by have := hca 0 q; have := hk.one q; omega⟩, uT (q6 y hym).1, hca, ⟨rfl, rfl, rfl, rfl⟩, rfl⟩
   ·simp only
    split
    ·exact hk.lk.sublist (List.eraseIdx_sublist _ _)
    ·exact DY hk.lk hi (by rw [hxi]; rfl)
   ·simp only
    intro w hw
    split at hw
    ·exact hk.lr w ((List.eraseIdx_sublist _ _).subset hw)
    ·rename_i h1
     rcases List.mem_or_eq_of_mem_set hw with hw | rfl
     ·exact hk.lr w hw
     ·exact ⟨q1, q2, q3, by simp only; omega, by simp only; omega, fun q hq => q6 q (by rw [hy]; simp [hq])⟩
  ·rw [if_neg hkey] at he
   exact hk.filled hl (lI hk.lk fun y hy => by rw [hx] at hy; obtain rfl := gP hy; exact hkey) he

theorem eY.ask {h h' : Hp} (hk : eY h) {cpu i order t a : Nat} {urgent low : Bool} (hc : cpu < h.aF) (hi : i < 2) (ho : order ≤ 4) (ht : t < 3) (he : h.ask cpu i order t urgent low = some (h', a)) : JW h order h' a := by
 unfold Hp.ask at he
 split at he
 ·rename_i h0
  subst h0
  exact hk.single ⟨hc, hi, ht⟩ he
 ·exact (hk.jG ho ht hi he).1
theorem eY.attempt {h h' : Hp} (hk : eY h) {cpu order t a : Nat} {urgent low : Bool} (hc : cpu < h.aF) (ho : order ≤ 4) (ht : t < 3) (he : h.attempt cpu order t urgent low = some (h', a)) : JW h order h' a := by
 unfold Hp.attempt at he
 split at he
 ·exact hk.ask hc (by omega) ho ht he
 ·cases h1 : h.ask cpu 1 order t urgent low with
  | some r =>
   rw [h1] at he
   obtain rfl := gP he
   exact hk.ask hc (by omega) ho ht h1
  | none =>
   rw [h1] at he
   exact hk.ask hc (by omega) ho ht he

theorem NG (h : Hp) (m : List Ls) (a o : Nat) : ({ h with ls := m } : Hp).iW a o = { h.iW a o with ls := m } := by
 unfold Hp.iW Hp.gW Hp.zone Hp.lU
 simp only
 split <;> split <;> rfl
theorem rO : ∀ (ps : List Nat) (h : Hp) (m : List Ls), bG { h with ls := m } ps = { bG h ps with ls := m }
 | [], _, _ => rfl
 | p :: ps, h, m => by rw [bG, bG, NG, rO ps]
theorem uU : ∀ (ls : List Ls) (h : Hp) (m : List Ls), bP { h with ls := m } ls = { bP h ls with ls := m }
 | [], _, _ => rfl
 | l :: ls, h, m => by rw [bP, bP, rO, uU ls]
theorem eY.bG : ∀ (ps : List Nat) {h : Hp}, eY h → (∀ p ∈ ps, p < 256) → (∀ q, cnt h.all q + cnt (kW ps) q ≤ 1) →
  eY (bG h ps) ∧ (∀ q, cnt (bG h ps).all q = cnt h.all q + cnt (kW ps) q) ∧ Same h (bG h ps) ∧ (bG h ps).ls = h.ls ∧ (bG h ps).live = h.live
 | [], h, hk, _, _ => ⟨hk, fun q => by simp [Go.Proofs.YtcmpmobhongkiaaGreatDoor.bG, kW, cnt], Same.refl h, rfl, rfl⟩
 | p :: ps, h, hk, hp, hd => by
  have hcons : ∀ q, cnt (kW (p :: ps)) q = hit ⟨p, 0, 0⟩ q + cnt (kW ps) q := fun _ => rfl
  obtain ⟨g1, g2, g3, g4, g5⟩ := hk.iW (uT (hp p (by simp))) (fun q => by have := hd q; rw [hcons] at this; omega)
  obtain ⟨k1, k2, k3, k4, k5⟩ := eY.bG ps g1 (fun q hq => hp q (by simp [hq])) (fun q => by rw [g2]; have := hd q; rw [hcons] at this; omega)
  exact ⟨k1, fun q => by have := k2 q; rw [g2] at this; rw [hcons]; show cnt (Go.Proofs.YtcmpmobhongkiaaGreatDoor.bG (h.iW p 0) ps).all q = _; omega, g3.trans k3, k4.trans g4, k5.trans g5⟩
theorem eY.bP : ∀ (ls : List Ls) {h : Hp}, eY h → (∀ l ∈ ls, ∀ p ∈ l.p, p < 256) → (∀ q, cnt h.all q + cnt (lsB ls) q ≤ 1) →
  eY (bP h ls) ∧ (∀ q, cnt (bP h ls).all q = cnt h.all q + cnt (lsB ls) q) ∧ Same h (bP h ls) ∧ (bP h ls).ls = h.ls ∧ (bP h ls).live = h.live
 | [], h, hk, _, _ => ⟨hk, fun q => by simp [Go.Proofs.YtcmpmobhongkiaaGreatDoor.bP, lsB, cnt], Same.refl h, rfl, rfl⟩
 | l :: ls, h, hk, hp, hd => by
  obtain ⟨g1, g2, g3, g4, g5⟩ := hk.bG l.p (hp l (by simp)) (fun q => by have := hd q; rw [fD] at this; omega)
  obtain ⟨k1, k2, k3, k4, k5⟩ := eY.bP ls g1 (fun m hm => hp m (by simp [hm])) (fun q => by rw [g2]; have := hd q; rw [fD] at this; omega)
  exact ⟨k1, fun q => by have := k2 q; rw [g2] at this; rw [fD]; show cnt (Go.Proofs.YtcmpmobhongkiaaGreatDoor.bP (Go.Proofs.YtcmpmobhongkiaaGreatDoor.bG h l.p) ls).all q = _; omega, g3.trans k3, k4.trans g4, k5.trans g5⟩
theorem eY.IX {h : Hp} (hk : eY h) : eY { h with ls := [] } :=
 ⟨hk.o0, hk.o1, hk.f0, hk.e0, hk.e1, hk.m0, hk.m1, hk.cp, List.Pairwise.nil, fun l hl => by simp at hl, hk.lv, hk.vs, fun q => by
  have h1 := hk.one q
  rw [dM] at h1 ⊢
  simp only [lsB, cnt]
  omega⟩
theorem eY.drain {h : Hp} (hk : eY h) : eY h.drain ∧ (∀ q, cnt h.drain.all q = cnt h.all q) ∧ Same h h.drain ∧ h.drain.ls = [] ∧ h.drain.live = h.live := by
 have e : h.drain = Go.Proofs.YtcmpmobhongkiaaGreatDoor.bP { h with ls := [] } h.ls := (uU h.ls h []).symm
 have hc : ∀ q, cnt ({ h with ls := [] } : Hp).all q + cnt (lsB h.ls) q = cnt h.all q := fun q => by
  rw [dM, dM]
  simp only [lsB, cnt]
  omega
 obtain ⟨k1, k2, k3, k4, k5⟩ := hk.IX.bP h.ls (fun l hl p hp => ((hk.lr l hl).2.2.2.2.2 p hp).1) (fun q => by rw [hc]; exact hk.one q)
 rw [e]
 exact ⟨k1, fun q => by rw [k2, hc], Same.trans (b := { h with ls := [] }) ⟨rfl, rfl, rfl, rfl⟩ k3, k4, k5⟩
end
section
open Go.RowKit
open Go.Maps (Keyed)

theorem rP {H : Type} {P : Program} {e : TypeId} (he : P.underlying e = some .bool) {v : Value} {z : DataW H × List MemPlace} (h : plainElem P e v = some z) : ∃ x, v = .bool x ∧ z = (.lit (.bool x), []) := by
 unfold plainElem at h
 rw [he] at h
 cases v <;> simp at h
 exact ⟨_, rfl, h.symm⟩

def dO (w : World) (P : Program) (k e : TypeId) (B n : Nat) (S : Lit → Prop) : Prop :=
 ∃ D : DataW Unit, w.ownsMap P k (plainElem P e) B n D ∧ Maps.IsMap D ∧ ∀ kl, WideAt.IsKeyLit kl → (S kl → D.atKey kl (.lit (.bool false)) = .lit (.bool true)) ∧ (¬ S kl → D.atKey kl (.lit (.bool false)) = .lit (.bool false))
section
variable {w w' : World} {P : Program} {t k e : TypeId} {B n : Nat} {S : Lit → Prop}
theorem dO.made (w : World) (P : Program) (k e : TypeId) : dO (w.alloc (.map #[] 0)) P k e w.heap.size 0 fun _ => False :=
 ⟨.map [], World.ownsMap_made w P k _, Maps.isMap_empty, fun kl _ => ⟨fun h => h.elim, fun _ => rfl⟩⟩
theorem dO.lt (h : dO w P k e B n S) : B < w.heap.size := by
 obtain ⟨D, h1, _⟩ := h
 exact h1.lt
theorem dO.kept {row : Option Nat} (h : dO w P k e B n S) (hg : w.grownBy w' row) (hne : some B ≠ row) : dO w' P k e B n S := by
 obtain ⟨D, h1, h2⟩ := h
 exact ⟨D, h1.kept hg hne, h2⟩
theorem dO.below (h : dO w P k e B n S) (hb : Below w.heap.size w w') : dO w' P k e B n S :=
 h.kept (row := none) ⟨hb.os, hb.tape, hb.output, hb.size, fun j hj _ => hb.block j hj⟩ (by simp)
theorem dO.imp {S' : Lit → Prop} (h : dO w P k e B n S) (hs : ∀ x, S x ↔ S' x) : dO w P k e B n S' := by
 obtain ⟨D, h1, h2, h3⟩ := h
 exact ⟨D, h1, h2, fun kl hk => ⟨fun hx => (h3 kl hk).1 ((hs kl).2 hx), fun hx => (h3 kl hk).2 fun hy => hx ((hs kl).1 hy)⟩⟩
theorem dO.out (h : dO w P k e B n S) (K : Keyed P k) (ht : P.underlying t = some (.map k e)) (he : P.underlying e = some .bool) (hz : (zeroValue e).run P w = .ok (.bool false) w) {key : Value} {kl : Lit} (hkey : keyOf P k key = some kl) (hk : WideAt.IsKeyLit kl) (hno : ¬ S kl) :
  (Instr.lookup t (.map (some B)) key false).run P w = .ok (.bool false) w := by
 obtain ⟨D, h1, _, h3⟩ := h
 obtain ⟨v, ps, hrun, hv⟩ := h1.lookup K ht hz (plainElem_bool he false) hkey
 obtain ⟨x, rfl, hx⟩ := rP he hv
 have h4 := (h3 kl hk).2 hno
 rw [h4] at hx
 simp only [Prod.mk.injEq, DataW.lit.injEq, Lit.bool.injEq] at hx
 rw [hrun, ← hx.1]
theorem dO.put (h : dO w P k e B n S) (K : Keyed P k) (ht : P.underlying t = some (.map k e)) (he : P.underlying e = some .bool) (hn : n < maxLen) {key : Value} {kl : Lit} (hkey : keyOf P k key = some kl) (hk : WideAt.IsKeyLit kl) :
  ∃ w', (Instr.mapUpdate t (.map (some B)) key (.bool true)).run P w = .ok () w' ∧ dO w' P k e B (n + 1) (fun x => x = kl ∨ S x) ∧ w.grownBy w' (some B) := by
 obtain ⟨D, h1, h2, h3⟩ := h
 obtain ⟨w', hrun, ho, hg⟩ := h1.update K ht hn hkey (plainElem_bool he true)
 refine ⟨w', hrun, ⟨_, ho, h2.put _ _, fun x hx => ?_⟩, hg⟩
 by_cases hxk : x = kl
 ·subst hxk
  exact ⟨fun _ => Maps.atKey_put_same h2 hk _ _, fun h => absurd (Or.inl rfl) h⟩
 ·rw [Maps.atKey_put_other hxk]
  exact ⟨fun h => (h3 x hx).1 (h.resolve_left hxk), fun h => (h3 x hx).2 fun hs => h (Or.inr hs)⟩
end
end
section
open Go.RowKit

structure Safe (X : Nat → Prop) (w w' : World) : Prop where
 os : w'.os = w.os
 tape : w'.tape = w.tape
 output : w'.output = w.output
 size : w.heap.size ≤ w'.heap.size
 block : ∀ k, k < w.heap.size → X k → w'.heap[k]? = w.heap[k]?
section
variable {X Y : Nat → Prop} {a b c w w' : World} {B : Nat}
theorem Safe.refl (X : Nat → Prop) (w : World) : Safe X w w := ⟨rfl, rfl, rfl, Nat.le_refl _, fun _ _ _ => rfl⟩
theorem Safe.trans (h : Safe X a b) (k : Safe X b c) : Safe X a c := ⟨k.os.trans h.os, k.tape.trans h.tape, k.output.trans h.output, gQ h.size k.size, fun j hj hx => (k.block j (gI hj h.size) hx).trans (h.block j hj hx)⟩
theorem Safe.sub (h : Safe X a b) (hy : ∀ k, k < a.heap.size → Y k → X k) : Safe Y a b := ⟨h.os, h.tape, h.output, h.size, fun j hj hx => h.block j hj (hy j hj hx)⟩
theorem Safe.iF (h : Below w.heap.size w w') : Safe X w w' := ⟨h.os, h.tape, h.output, h.size, fun k hk _ => h.block k hk⟩
theorem Safe.kP {row : Option Nat} (h : w.grownBy w' row) (hr : ∀ k, X k → some k ≠ row) : Safe X w w' := ⟨h.os, h.tape, h.output, h.size, fun k hk hx => h.block k hk (hr k hx)⟩
theorem Safe.then (h : Safe X a b) (k : Below b.heap.size b c) : Safe X a c := h.trans (.iF k)
theorem Safe.below (h : Safe X w w') (hX : ∀ k, k < B → X k) (hB : B ≤ w.heap.size) : Below B w w' := ⟨h.os, h.tape, h.output, h.size, fun k hk => h.block k (gI hk hB) (hX k hk)⟩
theorem Safe.after (h0 : Below B a w) (h : Safe X w w') (hX : ∀ k, k < B → X k) (hB : B ≤ w.heap.size) : Below B a w' := h0.trans (h.below hX hB)
theorem Safe.set (h : Safe X a b) {g : Nat} (hg : ¬ X g) (i : Nat) (u : Value) : Safe X a (b.setCell ⟨g, i, none⟩ u) := h.trans ⟨rfl, rfl, rfl, by simp [World.setCell], fun k hk hx => Below.heap_setCell _ _ _ _ (fun e => hg (by rw [← show k = g from e]; exact hx))⟩
theorem Safe.cell (h : Safe X w w') {p : Addr} (hp : p.block < w.heap.size) (hx : X p.block) : w'.cell? p = w.cell? p := World.cell?_of_block (w := w) (h.block p.block hp hx)
theorem Safe.frozen (h : Safe X w w') {p : Addr} (hp : p.block < w.heap.size) (hx : X p.block) : w'.frozen? p = w.frozen? p := World.frozen?_of_block (w := w) (h.block p.block hp hx)
theorem Safe.box (h : Safe X w w') {g : Nat} {vs : Array Value} (hc : ∀ o, w.cell? ⟨g, o, none⟩ = vs[o]?) (hg : g < w.heap.size) (hx : X g) (o : Nat) : w'.cell? ⟨g, o, none⟩ = vs[o]? := (h.cell (p := ⟨g, o, none⟩) hg hx).trans (hc o)
theorem Safe.WO (h : Safe X w w') {g : Nat} (hc : ∀ o, w.frozen? ⟨g, o, none⟩ = false) (hg : g < w.heap.size) (hx : X g) (o : Nat) : w'.frozen? ⟨g, o, none⟩ = false := (h.frozen (p := ⟨g, o, none⟩) hg hx).trans (hc o)
end
end
section
open Go.RowKit

structure Bt where
 m : List Rg
 r : List Rg
def Bt.ok (b : Bt) : Bool := cO b.m && cO b.r
structure Dt (w : World) (a1 a2 : Option Addr) (n1 n2 : Nat) (b : Bt) : Prop where
 l1 : b.m.length = n1
 l2 : b.r.length = n2
 r1 : Row w a1 (flat eX b.m)
 r2 : Row w a2 (flat eX b.r)
theorem Dt.below {w w' : World} {a1 a2 : Option Addr} {n1 n2 : Nat} {b : Bt} (h : Dt w a1 a2 n1 n2 b) (hb : Below w.heap.size w w') : Dt w' a1 a2 n1 n2 b := ⟨h.l1, h.l2, h.r1.below hb, h.r2.below hb⟩

structure nJ (w : World) (base : Nat) (a1 a2 : Option Addr) (n1 n2 c1 c2 : Nat) (b : Bt) : Prop where
 l1 : b.m.length = n1
 l2 : b.r.length = n2
 o1 : w.ownsRow base 55 2 (.slice a1 n1 c1) n1 (flat eX b.m)
 o2 : w.ownsRow base 55 2 (.slice a2 n2 c2) n2 (flat eX b.r)
theorem nJ.at {w : World} {base : Nat} {a1 a2 : Option Addr} {n1 n2 c1 c2 : Nat} {b : Bt} (h : nJ w base a1 a2 n1 n2 c1 c2 b) : Dt w a1 a2 n1 n2 b := ⟨h.l1, h.l2, aX h.o1, aX h.o2⟩
theorem nJ.below {w w' : World} {base : Nat} {a1 a2 : Option Addr} {n1 n2 c1 c2 : Nat} {b : Bt} (h : nJ w base a1 a2 n1 n2 c1 c2 b) (hb : Below w.heap.size w w') : nJ w' base a1 a2 n1 n2 c1 c2 b := ⟨h.l1, h.l2, own_below h.o1 hb (Nat.le_refl _), own_below h.o2 hb (Nat.le_refl _)⟩
theorem nJ.base {w : World} {base base' : Nat} {a1 a2 : Option Addr} {n1 n2 c1 c2 : Nat} {b : Bt} (h : nJ w base a1 a2 n1 n2 c1 c2 b) (hb : base' ≤ base) : nJ w base' a1 a2 n1 n2 c1 c2 b := ⟨h.l1, h.l2, own_base h.o1 hb, own_base h.o2 hb⟩
theorem nJ.set {w : World} {base : Nat} {a1 a2 : Option Addr} {n1 n2 c1 c2 : Nat} {b : Bt} (h : nJ w base a1 a2 n1 n2 c1 c2 b) {g : Nat} (hg : (Value.slice a1 n1 c1).ownBlock ≠ some g ∧ (Value.slice a2 n2 c2).ownBlock ≠ some g) (i : Nat) (u : Value) : nJ (w.setCell ⟨g, i, none⟩ u) base a1 a2 n1 n2 c1 c2 b := ⟨h.l1, h.l2, dG h.o1 hg.1 u, dG h.o2 hg.2 u⟩
theorem nJ.ne {w : World} {base : Nat} {a1 a2 : Option Addr} {n1 n2 c1 c2 : Nat} {b : Bt} (h : nJ w base a1 a2 n1 n2 c1 c2 b) {g : Nat} (hg : g < base ∨ w.heap.size ≤ g) : (Value.slice a1 n1 c1).ownBlock ≠ some g ∧ (Value.slice a2 n2 c2).ownBlock ≠ some g := ⟨own_ne h.o1 hg, own_ne h.o2 hg⟩
end
section
open Go.RowKit

def zS (a b c : Int) : Bt := ⟨[⟨pk a 20, 40 + pk b 60⟩, ⟨130 + pk c 10, 16 + pk a 90⟩], [⟨pk a 20 + pk c 30, 1 + pk a 7⟩, ⟨150 + pk b 9, 1 + pk c 5⟩]⟩
theorem gV (n : Int) {m : Int} (h : 1 ≤ m) : 0 ≤ pk n m ∧ pk n m < m := ⟨qJ n m h, Nh n m h⟩
theorem IQ (a b c : Int) : cO (zS a b c).m = true ∧ cO (zS a b c).r = true := by
 have h1 := gV a (m := 20) (by decide)
 have h2 := gV b (m := 60) (by decide)
 have h3 := gV c (m := 10) (by decide)
 have h4 := gV a (m := 90) (by decide)
 have h5 := gV c (m := 30) (by decide)
 have h6 := gV a (m := 7) (by decide)
 have h7 := gV b (m := 9) (by decide)
 have h8 := gV c (m := 5) (by decide)
 have e1 : bW none (zS a b c).m = true := by
  simp [zS, bW, Dj, rY]
  omega
 have e2 : bW none (zS a b c).r = true := by
  simp [zS, bW, Dj, rY]
  omega
 exact ⟨by unfold cO; rw [e1]; rfl, by unfold cO; rw [e2]; rfl⟩

set_option maxHeartbeats 4000000 in
set_option maxRecDepth 100000 in
theorem Qw (a b c : Int) (w : World) (ha : -9223372036854775808 ≤ a ∧ a ≤ 9223372036854775807) (hb : -9223372036854775808 ≤ b ∧ b ≤ 9223372036854775807) (hc : -9223372036854775808 ≤ c ∧ c ≤ 9223372036854775807) :
  Calls Tryz.prog 26 #[.int .i64 a, .int .i64 b, .int .i64 c] w fun ev w' => ∃ a1 c1 a2 c2, ev = .returned (.agg #[.slice a1 2 c1, .slice a2 2 c2, .int .i64 (16 * pk a 9), .int .i64 (pk b 12), .int .i64 (1 + pk c 4)]) ∧ Dt w' a1 a2 2 2 (zS a b c) ∧ Below w.heap.size w w' := by
 have h1 := gV a (m := 20) (by decide)
 have h2 := gV b (m := 60) (by decide)
 have h3 := gV c (m := 10) (by decide)
 have h4 := gV a (m := 90) (by decide)
 have h5 := gV c (m := 30) (by decide)
 have h6 := gV a (m := 7) (by decide)
 have h7 := gV b (m := 9) (by decide)
 have h8 := gV c (m := 5) (by decide)
 have h9 := gV a (m := 9) (by decide)
 have h10 := gV b (m := 12) (by decide)
 have h11 := gV c (m := 4) (by decide)
 go_enter Tryz.func26, Tryz.ntmps26
 go_wp2_with (go_at_call 28; refine (rM _ _ _ (by omega) (by omega) (by decide) (by decide)).mono ?_; rintro e w' ⟨rfl, rfl⟩)
 have b1 := aC w (.cells #[.slice (some ⟨w.heap.size + 1 + 1, 0, none⟩) 2 2, .slice (some ⟨w.heap.size + 1 + 1 + 1, 0, none⟩) 2 2, .int .i64 (16 * pk a 9), .int .i64 (pk b 12), .int .i64 (1 + pk c 4)] 29)
 have k1 := aY w #[.slice (some ⟨w.heap.size + 1 + 1, 0, none⟩) 2 2, .slice (some ⟨w.heap.size + 1 + 1 + 1, 0, none⟩) 2 2, .int .i64 (16 * pk a 9), .int .i64 (pk b 12), .int .i64 (1 + pk c 4)] 29
 have z1 : (w.alloc (.cells #[.slice (some ⟨w.heap.size + 1 + 1, 0, none⟩) 2 2, .slice (some ⟨w.heap.size + 1 + 1 + 1, 0, none⟩) 2 2, .int .i64 (16 * pk a 9), .int .i64 (pk b 12), .int .i64 (1 + pk c 4)] 29)).heap.size = w.heap.size + 1 := by simp
 generalize w.alloc (.cells #[.slice (some ⟨w.heap.size + 1 + 1, 0, none⟩) 2 2, .slice (some ⟨w.heap.size + 1 + 1 + 1, 0, none⟩) 2 2, .int .i64 (16 * pk a 9), .int .i64 (pk b 12), .int .i64 (1 + pk c 4)] 29) = w1 at *
 have b2 := aC w1 (.cells #[.slice (some ⟨w.heap.size + 1 + 1, 0, none⟩) 2 2, .slice (some ⟨w.heap.size + 1 + 1 + 1, 0, none⟩) 2 2, .int .i64 (16 * pk a 9), .int .i64 (pk b 12), .int .i64 (1 + pk c 4)] 29)
 have z2 : (w1.alloc (.cells #[.slice (some ⟨w.heap.size + 1 + 1, 0, none⟩) 2 2, .slice (some ⟨w.heap.size + 1 + 1 + 1, 0, none⟩) 2 2, .int .i64 (16 * pk a 9), .int .i64 (pk b 12), .int .i64 (1 + pk c 4)] 29)).heap.size = w.heap.size + 1 + 1 := by simp [z1]
 generalize w1.alloc (.cells #[.slice (some ⟨w.heap.size + 1 + 1, 0, none⟩) 2 2, .slice (some ⟨w.heap.size + 1 + 1 + 1, 0, none⟩) 2 2, .int .i64 (16 * pk a 9), .int .i64 (pk b 12), .int .i64 (1 + pk c 4)] 29) = w2 at *
 have r3 := xM w2 (flat eX (zS a b c).m) 55
 have b3 := aC w2 (.cells (flat eX (zS a b c).m).toArray 55)
 have z3 : (w2.alloc (.cells (flat eX (zS a b c).m).toArray 55)).heap.size = w.heap.size + 1 + 1 + 1 := by simp [z2]
 rw [show w2.alloc (.cells #[.int .i64 (pk a 20), .int .i64 (40 + pk b 60), .int .i64 (130 + pk c 10), .int .i64 (16 + pk a 90)] 55) = w2.alloc (.cells (flat eX (zS a b c).m).toArray 55) from rfl]
 generalize w2.alloc (.cells (flat eX (zS a b c).m).toArray 55) = w3 at *
 have r4 := xM w3 (flat eX (zS a b c).r) 55
 have b4 := aC w3 (.cells (flat eX (zS a b c).r).toArray 55)
 rw [show w3.alloc (.cells #[.int .i64 (pk a 20 + pk c 30), .int .i64 (1 + pk a 7), .int .i64 (150 + pk b 9), .int .i64 (1 + pk c 5)] 55) = w3.alloc (.cells (flat eX (zS a b c).r).toArray 55) from rfl]
 generalize w3.alloc (.cells (flat eX (zS a b c).r).toArray 55) = w4 at *
 rw [z2] at r3
 rw [z3] at r4
 have k4 := aB (aB (aB k1 (by omega) b2) (by omega) b3) (by omega) b4
 refine bodyPost_ret (v := .agg #[.slice (some ⟨w.heap.size + 1 + 1, 0, none⟩) 2 2, .slice (some ⟨w.heap.size + 1 + 1 + 1, 0, none⟩) 2 2, .int .i64 (16 * pk a 9), .int .i64 (pk b 12), .int .i64 (1 + pk c 4)]) (by simp [results, Tryz.results26, go_sem, k4]) rfl ⟨_, _, _, _, rfl, ⟨rfl, rfl, r3.below b4, r4⟩, Below.step (Below.step (Below.step b1 b2) b3) b4⟩
end
section
open Go.RowKit Go.WideShapes Go.ChangeShapes
section
variable {H : Type} {enc : TypeId × Value → H} {P : Program}

theorem uM (hl : laidOutB P = true) {W W' : World} (hb : Below W.heap.size W W') : ∀ (ts : List TypeId) (vs : List Value) (ds : List (DataW H)) (p : List MemPlace),
  (∀ t ∈ ts, P.readableRec t = true ∧ t < P.types.size) → (∀ x ∈ p, x.block < W.heap.size) → DataW.TrodAll enc P W 0 (fun _ => true) true ts vs ds p → DataW.TrodAll enc P W' 0 (fun b => decide (b < W.heap.size)) true ts vs ds p
 | [], [], [], p, _, _, h => h
 | t :: ts, v :: vs, d :: ds, p, hr, hp, h => by
  obtain ⟨p1, p2, h1, h2, rfl⟩ := h
  refine ⟨p1, p2, ?_, uM hl hb ts vs ds p2 (fun t ht => hr t (by simp [ht])) (fun x hx => hp x (by simp [hx])) h2, rfl⟩
  have := hr t (by simp)
  exact Below.trod hl this.1 this.2 h1 hb fun x hx => hp x (by simp [hx])
 | [], [], _ :: _, _, _, _, h => h.elim
 | [], _ :: _, _, _, _, _, h => h.elim
 | _ :: _, [], _, _, _, _, h => h.elim
 | _ :: _, _ :: _, [], _, _, _, h => h.elim

theorem Qz {f : Func} {s : ChangeSpec} {apart : Bool} {W W' : World} {args : Array Value} {ds : List (DataW H)} {before : List MemPlace}
  (hl : laidOutB P = true) (hr : ∀ t ∈ f.params.toList, P.readableRec t = true ∧ t < P.types.size)
  (hW : DataW.Whole enc P f.params.toList s.vars apart W args.toList ds [] before) (hv : s.vars = []) {tb : TypeId} (hres : f.resultTypes = #[tb]) (htb : P.underlying tb = some .bool)
  (hf1 : (s.fn H (ds ++ [])).results = [.lit (.bool true)]) (hf2 : (s.fn H (ds ++ [])).args = ds) (hf3 : (s.fn H (ds ++ [])).vars = []) (hb : Below W.heap.size W W') :
  s.post enc P f apart true false false W args (.bool true) W' := by
 have hlt : ∀ p ∈ before, p.block < W.heap.size := fun p hp => hW.lt p hp
 obtain ⟨pa, pv, h1, h2, h3, h4, h5⟩ := hW
 refine ⟨ds, [], before, [], pa, [], ⟨pa, pv, h1, h2, h3, h4, h5⟩, ?_, ?_, ?_, World.keptBut_mono (fun p f => f.elim) (hb.frame (fun _ => False)), fun h => by cases h⟩
 ·rw [hres, hf1]
  exact trodAll_mk1 (shut_bool htb true)
 ·rw [hf2]
  exact uM hl hb _ _ _ _ hr (fun x hx => hlt x (by rw [h3]; simp [hx])) h1
 ·rw [hv, hf3]
  rfl
end

section
variable {H : Type} {enc : TypeId × Value → H} {P : Program}
end
end
end Go.Proofs.YtcmpmobhongkiaaGreatDoor
