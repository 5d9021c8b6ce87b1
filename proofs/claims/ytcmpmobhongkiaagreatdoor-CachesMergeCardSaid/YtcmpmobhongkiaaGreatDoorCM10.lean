/- texts of this claim, joined. -/
import Derived.Test.YtcmpmobhongkiaaGreatDoorCM0
import Derived.Test.YtcmpmobhongkiaaGreatDoorCM2
import Derived.Test.YtcmpmobhongkiaaGreatDoorCM9
import Derived.Lib.SliceRun
import Derived.Deep.QuietTactic
import Derived.BigQuiet
import Derived.WalkSmall
import Derived.Maps.OwnOps
import Derived.Maps.Views
import Derived.Deep.RegionHeld3
import Derived.Deep.DeepCutAuto
set_option linter.unusedVariables false
set_option linter.unusedSimpArgs false
namespace Go.Proofs.YtcmpmobhongkiaaGreatDoor
section
open Go.RowKit
variable {α : Type}

def Sv (len at_ n : Int) : Bool := decide (0 ≤ at_ ∧ 0 ≤ n ∧ n ≤ len ∧ at_ ≤ len - n)

theorem Dl (a : Option Addr) (len cap : Nat) (at_ n : Int) (w : World) (hl : len ≤ 9223372036854775807) (h1 : -9223372036854775808 ≤ n) (h2 : n ≤ 9223372036854775807) :
  Calls Tryz.prog 142 #[.slice a len cap, .int .i64 at_, .int .i64 n] w fun e w' => e = .returned (.bool (Sv len at_ n)) ∧ w = w' := by
 by_cases c1 : 0 ≤ at_
 ·by_cases c2 : 0 ≤ n
  ·by_cases c3 : n ≤ (len : Int)
   ·by_cases c4 : at_ ≤ (len : Int) - n
    ·go_enter Tryz.func142, Tryz.ntmps142
     go_wp2
     go_ret
     exact ⟨aW (decide_eq_true (by omega)).symm, rfl⟩
    ·go_enter Tryz.func142, Tryz.ntmps142
     go_wp2
     go_ret
     exact ⟨aW (decide_eq_false (by omega)).symm, rfl⟩
   ·go_enter Tryz.func142, Tryz.ntmps142
    go_wp2
    go_ret
    exact ⟨aW (decide_eq_false (by omega)).symm, rfl⟩
  ·go_enter Tryz.func142, Tryz.ntmps142
   go_wp2
   go_ret
   exact ⟨aW (decide_eq_false (by omega)).symm, rfl⟩
 ·go_enter Tryz.func142, Tryz.ntmps142
  go_wp2
  go_ret
  exact ⟨aW (decide_eq_false (by omega)).symm, rfl⟩

def yQ (p : α → Bool) (xs : List α) : Int := match xs.findIdx? p with | some i => (i : Int) | none => -1

theorem LZ {p : α → Bool} {xs : List α} {k : Nat} (hk : k < xs.length) (h : p xs[k] = true) (hn : ∀ x ∈ xs.take k, p x = false) : yQ p xs = k := by
 have e : xs.findIdx? p = some k := by
  rw [List.findIdx?_eq_some_iff_getElem]
  refine ⟨hk, h, fun j hj => ?_⟩
  have := hn (xs[j]'(by omega)) (by rw [List.mem_take_iff_getElem]; exact ⟨j, by omega, rfl⟩)
  simp [this]
 simp [yQ, e]
theorem Io {p : α → Bool} {xs : List α} (hn : ∀ x ∈ xs, p x = false) : yQ p xs = -1 := by
 have e : xs.findIdx? p = none := by rw [List.findIdx?_eq_none_iff]; exact hn
 simp [yQ, e]

theorem Mc (a : Option Addr) (cap : Nat) (xs : List Int) (v : Int) (w : World) (hl : xs.length ≤ 9223372036854775807) (hr : Row w a (xs.map vI)) :
  Calls Tryz.prog 80 #[.slice a xs.length cap, .int .i64 v] w fun e w' => e = .returned (.int .i64 (yQ (v == ·) xs)) ∧ w = w' := by
 go_enter Tryz.func80, Tryz.ntmps80
 go_wp2
 go_loop [5, 8] (fun _ s8 => ∃ k : Nat, k ≤ xs.length ∧ s8 = .int .i64 k ∧ Hid (∀ x ∈ xs.take k, (v == x) = false)) (fun _ s8 => xs.length - (intOf s8).toNat)
 case atStart => exact ⟨0, Nat.zero_le _, rfl, by simp [Hid]⟩
 case round =>
  obtain ⟨k, hk, rfl, hnot⟩ := hrel
  by_cases hlt : k < xs.length
  ·obtain ⟨b, off, rfl, hb, hc⟩ := hr k (vI xs[k]) (by simp [hlt])
   simp only [vI] at hc
   clear hr
   cases hv : v == xs[k] with
   | true =>
    go_wp2
    go_ret
    exact ⟨dK (LZ hlt hv hnot.out).symm, rfl⟩
   | false =>
    go_wp2
    go_round
    case rel => exact ⟨k + 1, by omega, by go_num, fun x hx => by
     rw [List.take_succ_eq_append_getElem hlt, List.mem_append, List.mem_singleton] at hx
     rcases hx with hx | rfl
     ·exact hnot.out x hx
     ·exact hv⟩
    case measure => simp [intOf]; omega
  ·obtain rfl : k = xs.length := by omega
   go_wp2
   go_ret
   exact ⟨dK (Io (by simpa [Hid] using hnot)).symm, rfl⟩

theorem Dn (p : α → Bool) (xs : List α) : decide (0 ≤ yQ p xs) = xs.any p := by
 unfold yQ
 cases h : xs.findIdx? p with
 | none => rw [List.findIdx?_eq_none_iff] at h; symm; simpa using h
 | some i => rw [List.findIdx?_eq_some_iff_getElem] at h; obtain ⟨hi, hp, _⟩ := h; symm; simp only [Int.natCast_nonneg, decide_true, List.any_eq_true]; exact ⟨_, gL hi, hp⟩

def oL (xs : List Int) (v : Int) : Bool := xs.contains v
theorem fM (a : Option Addr) (cap : Nat) (xs : List Int) (v : Int) (w : World) (hl : xs.length ≤ 9223372036854775807) (hr : Row w a (xs.map vI)) :
  Calls Tryz.prog 35 #[.slice a xs.length cap, .int .i64 v] w fun e w' => e = .returned (.bool (oL xs v)) ∧ w = w' := by
 go_enter Tryz.func35, Tryz.ntmps35
 go_wp2_with (go_at_call 80; refine (Mc _ _ _ _ _ hl hr).mono ?_; rintro e w' ⟨rfl, rfl⟩)
 go_ret
 exact ⟨aW (by rw [Dn, oL, List.contains_eq_any_beq]), rfl⟩

theorem BH : (Tryz.prog.info? 3).map (fun i => (i.zero, i.size, i.bytes)) = some (some (.int .i64 0), 1, 8) := by kernel_rfl

theorem VU (xs : List Int) : ∀ u ∈ xs.map vI, u.oneCell' = true := by
 intro u hu
 obtain ⟨x, _, rfl⟩ := List.mem_map.1 hu
 rfl

theorem Md (a : Option Addr) (cap : Nat) (xs : List Int) (w : World) (hl : xs.length * 8 ≤ 140737488355328) (hr : Row w a (xs.map vI)) :
  Calls Tryz.prog 85 #[.slice a xs.length cap] w fun e w' => ∃ a' c', e = .returned (.slice a' xs.length c') ∧ w'.ownsRow w.heap.size 3 1 (.slice a' xs.length c') xs.length (xs.map vI) ∧ Below w.heap.size w w' := by
 have q22 : ∀ (w : World) (a : Option Addr) (n c n' c' : Nat), (binOp .eql 39 (.slice a n c) (.slice none n' c')).run Tryz.prog w = .ok (.bool a.isNone) w := fun w a n c n' c' => Lib.run_eql_slice_nil w _ _ a n c n' c' Tryz.underlying39
 cases a with
 | none =>
  have hx : xs = [] := by
   cases xs with
   | nil => rfl
   | cons u l => obtain ⟨b, off, e1, _⟩ := hr 0 (vI u) rfl; cases e1
  subst hx
  go_enter Tryz.func85, Tryz.ntmps85
  go_wp2
  go_ret
  exact ⟨none, 0, rfl, World.ownsRow_nil _ _ _ _, Below.refl _ _⟩
 | some ad =>
  go_enter Tryz.func85, Tryz.ntmps85
  go_wp2_with (at_builtin; refine gU rfl _ _ 39 rfl w.heap.size 3 (.int .i64 0) 1 8 Tryz.underlying39 BH rfl (by decide) (by decide) _ _ _ _ rfl (World.ownsRow_made w #[] 0 (Nat.le_refl _) (Nat.zero_le _) (by simp)) (some ad) xs.length cap (xs.map vI) rfl ?q1 ?q2 ?q3 ?q4 ?q5 ?_)
  case q1 => simp
  case q2 => exact hr.below ((Below.refl _ _).alloc (Nat.le_refl _) _)
  case q3 => exact VU xs
  case q4 => rw [Nat.zero_add]; exact hl
  case q5 => simp
  intro a' c' w1 hown hgrow
  go_wp2
  go_ret
  exact ⟨a', c', rfl, hown, ((Below.refl _ w).alloc (Nat.le_refl _) _).grown hgrow (by simp) (by intro k hk; simp [Value.ownBlock] at hk; omega)⟩

theorem OH {w : World} {a : Option Addr} {xs : List Int} (hr : Row w a (xs.map vI)) {k : Nat} (h : k < xs.length) :
  ∃ b off, a = some ⟨b, off, none⟩ ∧ b < w.heap.size ∧ w.cell? ⟨b, off + k, none⟩ = some (.int .i64 xs[k]) :=
 hr k (vI xs[k]) (by simp [h])
end
section
def hit (b : Bk) (p : Nat) : Nat := if b.a ≤ p ∧ p < b.fin then 1 else 0
def cnt : List Bk → Nat → Nat
 | [], _ => 0
 | b :: l, p => hit b p + cnt l p
theorem bJ (l m : List Bk) (p : Nat) : cnt (l ++ m) p = cnt l p + cnt m p := by
 induction l with
 | nil => simp [cnt]
 | cons b l ih => rw [List.cons_append, cnt, cnt, ih]; omega
theorem jE {b : Bk} {p : Nat} : hit b p = 1 ↔ inB b.a b.o p := by
 unfold hit inB Bk.fin
 split <;> simp_all
theorem Du (b : Bk) (p : Nat) : hit b p ≤ 1 := by unfold hit; split <;> omega
theorem iW {l : List Bk} {p : Nat} : 0 < cnt l p ↔ eP l p := by
 induction l with
 | nil => simp [cnt, eP]
 | cons b l ih =>
  rw [cnt]
  constructor
  ·intro h
   by_cases hb : hit b p = 1
   ·exact ⟨b, by simp, jE.1 hb⟩
   ·have h1 := Du b p
    obtain ⟨c, hc, hp⟩ := ih.1 (by omega)
    exact ⟨c, by simp [hc], hp⟩
  ·rintro ⟨c, hc, hp⟩
   rw [List.mem_cons] at hc
   rcases hc with rfl | hc
   ·have := jE.2 hp; omega
   ·have := ih.2 ⟨c, hc, hp⟩; omega
theorem kL {l : List Bk} (hd : l.Pairwise fun b c => apartB b.a b.o c) (p : Nat) : cnt l p ≤ 1 := by
 induction l with
 | nil => simp [cnt]
 | cons b l ih =>
  obtain ⟨h1, h2⟩ := List.pairwise_cons.1 hd
  rw [cnt]
  have h3 := Du b p
  have h4 := ih h2
  by_cases hb : hit b p = 1
  ·have hz : ¬ 0 < cnt l p := fun h => by
    obtain ⟨c, hc, hp⟩ := iW.1 h
    exact iU (h1 c hc) p (jE.1 hb) hp
   omega
  ·omega
theorem kM {l : List Bk} (h : l.Pairwise fun x y => x.fin ≤ y.a) : l.Pairwise fun b c => apartB b.a b.o c := h.imp fun {x y} h => by unfold apartB Bk.fin at *; omega
theorem OT {z z' : Zn} {order at_ : Nat} (hz : z.ok) (ht : Taken z order z' at_) (t : Nat) (p : Nat) : cnt z'.l p + hit ⟨at_, order, t⟩ p = cnt z.l p := by
 have h1 := kL (kM hz.2.sep) p
 have h2 := kL (kM ht.ok.2.sep) p
 have h3 := ht.OL p
 have h4 := Du ⟨at_, order, t⟩ p
 have h5 : hit ⟨at_, order, t⟩ p = 1 ↔ inB at_ order p := jE
 have c1 := @iW z.l p
 have c2 := @iW z'.l p
 by_cases hp : inB at_ order p
 ·have e1 := h5.2 hp
  have e2 : ¬ 0 < cnt z'.l p := fun h => by
   obtain ⟨c, hc, hcp⟩ := c2.1 h
   exact iU (ht.apart c hc) p hp hcp
  have e3 := c1.2 (h3.1 (.inr hp))
  omega
 ·have e1 : hit ⟨at_, order, t⟩ p = 0 := by
   have : ¬ hit ⟨at_, order, t⟩ p = 1 := fun h => hp (h5.1 h)
   omega
  by_cases hc : eP z.l p
  ·have e2 := c1.2 hc
   rcases h3.2 hc with h | h
   ·have := c2.2 h; omega
   ·exact absurd h hp
  ·have e2 : ¬ 0 < cnt z.l p := fun h => hc (c1.1 h)
   have e3 : ¬ 0 < cnt z'.l p := fun h => hc (h3.1 (.inl (c2.1 h)))
   omega
theorem OU {z : Zn} (hz : z.ok) {a o : Nat} (hb : bY z.f z.e a o) (hd : ∀ x ∈ z.l, apartB a o x) (t p : Nat) : cnt (z.back a o).l p = cnt z.l p + hit ⟨a, o, t⟩ p := by
 obtain ⟨g1, g2⟩ := Zn.oN hz hb hd
 have h1 := kL (kM hz.2.sep) p
 have h2 := kL (kM g1.2.sep) p
 have h3 := g2 p
 have h4 := Du ⟨a, o, t⟩ p
 have h5 : hit ⟨a, o, t⟩ p = 1 ↔ inB a o p := jE
 have c1 := @iW z.l p
 have c2 := @iW (z.back a o).l p
 by_cases hp : inB a o p
 ·have e1 := h5.2 hp
  have e2 : ¬ 0 < cnt z.l p := fun h => by
   obtain ⟨c, hc, hcp⟩ := c1.1 h
   exact iU (hd c hc) p hp hcp
  have e3 := c2.2 (h3.2 (.inr hp))
  omega
 ·have e1 : hit ⟨a, o, t⟩ p = 0 := by
   have : ¬ hit ⟨a, o, t⟩ p = 1 := fun h => hp (h5.1 h)
   omega
  by_cases hc : eP z.l p
  ·have e2 := c1.2 hc
   have e3 := c2.2 (h3.2 (.inl hc))
   omega
  ·have e2 : ¬ 0 < cnt z.l p := fun h => hc (c1.1 h)
   have e3 : ¬ 0 < cnt (z.back a o).l p := fun h => by
    rcases h3.1 (c2.1 h) with h' | h'
    ·exact hc h'
    ·exact hp h'
   omega

def sumTo (f : Nat → Nat) : Nat → Nat
 | 0 => 0
 | n + 1 => sumTo f n + f n
theorem BM (f g : Nat → Nat) : ∀ n, sumTo (fun p => f p + g p) n = sumTo f n + sumTo g n
 | 0 => rfl
 | n + 1 => by rw [sumTo, sumTo, sumTo, BM f g n]; omega
theorem BN (b : Bk) : ∀ n, sumTo (hit b) n = min n b.fin - min n b.a
 | 0 => by simp [sumTo]
 | n + 1 => by
  rw [sumTo, BN b n]
  unfold hit
  have h1 : b.a < b.fin := by unfold Bk.fin; have := dM b.o; omega
  split <;> omega
def szB : List Bk → Nat
 | [] => 0
 | b :: l => 2 ^ b.o + szB l
theorem MC {l : List Bk} {N : Nat} (h : ∀ b ∈ l, b.fin ≤ N) : sumTo (cnt l) N = szB l := by
 induction l with
 | nil =>
  have : ∀ n, sumTo (cnt []) n = 0 := fun n => by
   induction n with
   | zero => rfl
   | succ n ih => rw [sumTo, ih]; rfl
  rw [this]; rfl
 | cons b l ih =>
  have h1 : cnt (b :: l) = fun p => hit b p + cnt l p := rfl
  rw [h1, BM, BN, ih (fun c hc => h c (by simp [hc])), szB]
  have h2 := h b (by simp)
  unfold Bk.fin at *
  generalize 2 ^ b.o = q at *
  rw [Nat.min_eq_right h2, Nat.min_eq_right (by omega)]
  omega
end
section
open Go.RowKit

structure Safe (X : Nat → Prop) (w w' : World) : Prop where
 os : w'.os = w.os
 tape : w'.tape = w.tape
 output : w'.output = w.output
 size : w.heap.size ≤ w'.heap.size
 block : ∀ k, k < w.heap.size → X k → w'.heap[k]? = w.heap[k]?
section
variable {X Y : Nat → Prop} {a b c w w' : World} {B : Nat}
theorem Safe.refl (X : Nat → Prop) (w : World) : Safe X w w := ⟨rfl, rfl, rfl, Nat.le_refl _, fun _ _ _ => rfl⟩
theorem Safe.trans (h : Safe X a b) (k : Safe X b c) : Safe X a c := ⟨k.os.trans h.os, k.tape.trans h.tape, k.output.trans h.output, gQ h.size k.size, fun j hj hx => (k.block j (gI hj h.size) hx).trans (h.block j hj hx)⟩
theorem Safe.sub (h : Safe X a b) (hy : ∀ k, k < a.heap.size → Y k → X k) : Safe Y a b := ⟨h.os, h.tape, h.output, h.size, fun j hj hx => h.block j hj (hy j hj hx)⟩
theorem Safe.fP (h : Below w.heap.size w w') : Safe X w w' := ⟨h.os, h.tape, h.output, h.size, fun k hk _ => h.block k hk⟩
theorem Safe.jO {row : Option Nat} (h : w.grownBy w' row) (hr : ∀ k, X k → some k ≠ row) : Safe X w w' := ⟨h.os, h.tape, h.output, h.size, fun k hk hx => h.block k hk (hr k hx)⟩
theorem Safe.then (h : Safe X a b) (k : Below b.heap.size b c) : Safe X a c := h.trans (.fP k)
theorem Safe.below (h : Safe X w w') (hX : ∀ k, k < B → X k) (hB : B ≤ w.heap.size) : Below B w w' := ⟨h.os, h.tape, h.output, h.size, fun k hk => h.block k (gI hk hB) (hX k hk)⟩
theorem Safe.after (h0 : Below B a w) (h : Safe X w w') (hX : ∀ k, k < B → X k) (hB : B ≤ w.heap.size) : Below B a w' := h0.trans (h.below hX hB)
theorem Safe.set (h : Safe X a b) {g : Nat} (hg : ¬ X g) (i : Nat) (u : Value) : Safe X a (b.setCell ⟨g, i, none⟩ u) := h.trans ⟨rfl, rfl, rfl, by simp [World.setCell], fun k hk hx => Below.heap_setCell _ _ _ _ (fun e => hg (by rw [← show k = g from e]; exact hx))⟩
theorem Safe.cell (h : Safe X w w') {p : Addr} (hp : p.block < w.heap.size) (hx : X p.block) : w'.cell? p = w.cell? p := World.cell?_of_block (w := w) (h.block p.block hp hx)
theorem Safe.frozen (h : Safe X w w') {p : Addr} (hp : p.block < w.heap.size) (hx : X p.block) : w'.frozen? p = w.frozen? p := World.frozen?_of_block (w := w) (h.block p.block hp hx)
theorem Safe.box (h : Safe X w w') {g : Nat} {vs : Array Value} (hc : ∀ o, w.cell? ⟨g, o, none⟩ = vs[o]?) (hg : g < w.heap.size) (hx : X g) (o : Nat) : w'.cell? ⟨g, o, none⟩ = vs[o]? := (h.cell (p := ⟨g, o, none⟩) hg hx).trans (hc o)
theorem Safe.Pg (h : Safe X w w') {g : Nat} (hc : ∀ o, w.frozen? ⟨g, o, none⟩ = false) (hg : g < w.heap.size) (hx : X g) (o : Nat) : w'.frozen? ⟨g, o, none⟩ = false := (h.frozen (p := ⟨g, o, none⟩) hg hx).trans (hc o)
end
end
section
open Go.RowKit
open Go.Maps (Keyed)

theorem tJ {H : Type} {P : Program} {e : TypeId} (he : P.underlying e = some .bool) {v : Value} {z : DataW H × List MemPlace} (h : plainElem P e v = some z) : ∃ x, v = .bool x ∧ z = (.lit (.bool x), []) := by
 unfold plainElem at h
 rw [he] at h
 cases v <;> simp at h
 exact ⟨_, rfl, h.symm⟩

def dX (w : World) (P : Program) (k e : TypeId) (B n : Nat) (S : Lit → Prop) : Prop :=
 ∃ D : DataW Unit, w.ownsMap P k (plainElem P e) B n D ∧ Maps.IsMap D ∧ ∀ kl, WideAt.IsKeyLit kl → (S kl → D.atKey kl (.lit (.bool false)) = .lit (.bool true)) ∧ (¬ S kl → D.atKey kl (.lit (.bool false)) = .lit (.bool false))
section
variable {w w' : World} {P : Program} {t k e : TypeId} {B n : Nat} {S : Lit → Prop}
theorem dX.made (w : World) (P : Program) (k e : TypeId) : dX (w.alloc (.map #[] 0)) P k e w.heap.size 0 fun _ => False :=
 ⟨.map [], World.ownsMap_made w P k _, Maps.isMap_empty, fun kl _ => ⟨fun h => h.elim, fun _ => rfl⟩⟩
theorem dX.lt (h : dX w P k e B n S) : B < w.heap.size := by
 obtain ⟨D, h1, _⟩ := h
 exact h1.lt
theorem dX.kept {row : Option Nat} (h : dX w P k e B n S) (hg : w.grownBy w' row) (hne : some B ≠ row) : dX w' P k e B n S := by
 obtain ⟨D, h1, h2⟩ := h
 exact ⟨D, h1.kept hg hne, h2⟩
theorem dX.below (h : dX w P k e B n S) (hb : Below w.heap.size w w') : dX w' P k e B n S :=
 h.kept (row := none) ⟨hb.os, hb.tape, hb.output, hb.size, fun j hj _ => hb.block j hj⟩ (by simp)
theorem dX.imp {S' : Lit → Prop} (h : dX w P k e B n S) (hs : ∀ x, S x ↔ S' x) : dX w P k e B n S' := by
 obtain ⟨D, h1, h2, h3⟩ := h
 exact ⟨D, h1, h2, fun kl hk => ⟨fun hx => (h3 kl hk).1 ((hs kl).2 hx), fun hx => (h3 kl hk).2 fun hy => hx ((hs kl).1 hy)⟩⟩
theorem dX.out (h : dX w P k e B n S) (K : Keyed P k) (ht : P.underlying t = some (.map k e)) (he : P.underlying e = some .bool) (hz : (zeroValue e).run P w = .ok (.bool false) w) {key : Value} {kl : Lit} (hkey : keyOf P k key = some kl) (hk : WideAt.IsKeyLit kl) (hno : ¬ S kl) :
  (Instr.lookup t (.map (some B)) key false).run P w = .ok (.bool false) w := by
 obtain ⟨D, h1, _, h3⟩ := h
 obtain ⟨v, ps, hrun, hv⟩ := h1.lookup K ht hz (plainElem_bool he false) hkey
 obtain ⟨x, rfl, hx⟩ := tJ he hv
 have h4 := (h3 kl hk).2 hno
 rw [h4] at hx
 simp only [Prod.mk.injEq, DataW.lit.injEq, Lit.bool.injEq] at hx
 rw [hrun, ← hx.1]
theorem dX.put (h : dX w P k e B n S) (K : Keyed P k) (ht : P.underlying t = some (.map k e)) (he : P.underlying e = some .bool) (hn : n < maxLen) {key : Value} {kl : Lit} (hkey : keyOf P k key = some kl) (hk : WideAt.IsKeyLit kl) :
  ∃ w', (Instr.mapUpdate t (.map (some B)) key (.bool true)).run P w = .ok () w' ∧ dX w' P k e B (n + 1) (fun x => x = kl ∨ S x) ∧ w.grownBy w' (some B) := by
 obtain ⟨D, h1, h2, h3⟩ := h
 obtain ⟨w', hrun, ho, hg⟩ := h1.update K ht hn hkey (plainElem_bool he true)
 refine ⟨w', hrun, ⟨_, ho, h2.put _ _, fun x hx => ?_⟩, hg⟩
 by_cases hxk : x = kl
 ·subst hxk
  exact ⟨fun _ => Maps.atKey_put_same h2 hk _ _, fun h => absurd (Or.inl rfl) h⟩
 ·rw [Maps.atKey_put_other hxk]
  exact ⟨fun h => (h3 x hx).1 (h.resolve_left hxk), fun h => (h3 x hx).2 fun hs => h (Or.inr hs)⟩
end
end
section
open Go.RowKit

structure Bt where
 m : List Rg
 r : List Rg
def Bt.ok (b : Bt) : Bool := dB b.m && dB b.r
structure Ez (w : World) (a1 a2 : Option Addr) (n1 n2 : Nat) (b : Bt) : Prop where
 l1 : b.m.length = n1
 l2 : b.r.length = n2
 r1 : Row w a1 (flat fJ b.m)
 r2 : Row w a2 (flat fJ b.r)
theorem Ez.below {w w' : World} {a1 a2 : Option Addr} {n1 n2 : Nat} {b : Bt} (h : Ez w a1 a2 n1 n2 b) (hb : Below w.heap.size w w') : Ez w' a1 a2 n1 n2 b := ⟨h.l1, h.l2, h.r1.below hb, h.r2.below hb⟩

structure oJ (w : World) (base : Nat) (a1 a2 : Option Addr) (n1 n2 c1 c2 : Nat) (b : Bt) : Prop where
 l1 : b.m.length = n1
 l2 : b.r.length = n2
 o1 : w.ownsRow base 55 2 (.slice a1 n1 c1) n1 (flat fJ b.m)
 o2 : w.ownsRow base 55 2 (.slice a2 n2 c2) n2 (flat fJ b.r)
theorem oJ.at {w : World} {base : Nat} {a1 a2 : Option Addr} {n1 n2 c1 c2 : Nat} {b : Bt} (h : oJ w base a1 a2 n1 n2 c1 c2 b) : Ez w a1 a2 n1 n2 b := ⟨h.l1, h.l2, aY h.o1, aY h.o2⟩
theorem oJ.below {w w' : World} {base : Nat} {a1 a2 : Option Addr} {n1 n2 c1 c2 : Nat} {b : Bt} (h : oJ w base a1 a2 n1 n2 c1 c2 b) (hb : Below w.heap.size w w') : oJ w' base a1 a2 n1 n2 c1 c2 b := ⟨h.l1, h.l2, own_below h.o1 hb (Nat.le_refl _), own_below h.o2 hb (Nat.le_refl _)⟩
theorem oJ.base {w : World} {base base' : Nat} {a1 a2 : Option Addr} {n1 n2 c1 c2 : Nat} {b : Bt} (h : oJ w base a1 a2 n1 n2 c1 c2 b) (hb : base' ≤ base) : oJ w base' a1 a2 n1 n2 c1 c2 b := ⟨h.l1, h.l2, own_base h.o1 hb, own_base h.o2 hb⟩
theorem oJ.set {w : World} {base : Nat} {a1 a2 : Option Addr} {n1 n2 c1 c2 : Nat} {b : Bt} (h : oJ w base a1 a2 n1 n2 c1 c2 b) {g : Nat} (hg : (Value.slice a1 n1 c1).ownBlock ≠ some g ∧ (Value.slice a2 n2 c2).ownBlock ≠ some g) (i : Nat) (u : Value) : oJ (w.setCell ⟨g, i, none⟩ u) base a1 a2 n1 n2 c1 c2 b := ⟨h.l1, h.l2, dL h.o1 hg.1 u, dL h.o2 hg.2 u⟩
theorem oJ.ne {w : World} {base : Nat} {a1 a2 : Option Addr} {n1 n2 c1 c2 : Nat} {b : Bt} (h : oJ w base a1 a2 n1 n2 c1 c2 b) {g : Nat} (hg : g < base ∨ w.heap.size ≤ g) : (Value.slice a1 n1 c1).ownBlock ≠ some g ∧ (Value.slice a2 n2 c2).ownBlock ≠ some g := ⟨own_ne h.o1 hg, own_ne h.o2 hg⟩
end
section
open Go.RowKit

def Rh (b : Bt) (p : Nat) : Bool := bW b.m p && !bW b.r p
def iJ (b : Bt) : List Rg := dD (Rh b)

set_option maxHeartbeats 2000000 in
set_option maxRecDepth 100000 in
theorem Oc (a1 a2 : Option Addr) (n1 n2 c1 c2 : Nat) (b : Bt) (w : World) (hat : Ez w a1 a2 n1 n2 b) (h1 : dB b.m = true) (h2 : dB b.r = true) :
  Calls Tryz.prog 56 #[.agg #[.slice a1 n1 c1, .slice a2 n2 c2]] w fun e w' => ∃ a' c', e = .returned (.tuple #[.slice a' (iJ b).length c', .int .i64 0]) ∧ w'.ownsRow w.heap.size 55 2 (.slice a' (iJ b).length c') (iJ b).length (flat fJ (iJ b)) ∧ Below w.heap.size w w' := by
 have hb1 := tZ h1
 have hb2 := tZ h2
 obtain ⟨K0, F0, hsz, hbw⟩ := boxes1 w #[.slice a1 n1 c1, .slice a2 n2 c2] 27
 obtain ⟨l1, l2, q1, q2⟩ := hat.below hbw
 have aAI := o8 h1
 have aAJ := o8 h2
 have hok1 := kV h1
 have hok2 := kV h2
 generalize hF : iJ b = F
 have HF := gO hF
 clear hat hF
 go_enter Tryz.func56, Tryz.ntmps56
 go_wp2_with fail
 generalize w.alloc (.cells #[.slice a1 n1 c1, .slice a2 n2 c2] 27) = w0 at *
 refine (vV _ _ _ _ _ _ b.m b.r _ l1 l2 (by omega) (by omega) q1 q2 aAI aAJ h1 h2).mono ?_
 rintro e w1 ⟨rfl, hb1'⟩
 have K0a := aC K0 hsz hb1'
 have q1a := q1.below hb1'
 have q2a := q2.below hb1'
 have sK := Below.step hbw hb1'
 have hsz1 : w.heap.size < w1.heap.size := gI hsz hb1'.size
 clear K0 F0 q1 q2 aAI aAJ hb1' h1 h2
 have LK0 : ∀ W, Below w1.heap.size w1 W → ∀ o, W.cell? ⟨w.heap.size, o, none⟩ = (#[.slice a1 n1 c1, .slice a2 n2 c2] : Array Value)[o]? := fun W h o => aC K0a hsz1 h o
 go_upto_region 4 with fail
 go_cut [5, 6] (fun s5 s6 wx => ∃ (g5 g6 : Nat) (c5 c6 : Nat), s5 = .slice (some ⟨g5, 0, none⟩) 256 c5 ∧ s6 = .slice (some ⟨g6, 0, none⟩) 256 c6 ∧ wx.ownsRow w1.heap.size 4 1 (.slice (some ⟨g5, 0, none⟩) 256 c5) 256 ((bl (bW b.m)).map vB) ∧ wx.ownsRow w1.heap.size 4 1 (.slice (some ⟨g6, 0, none⟩) 256 c6) 256 ((bl (bW b.r)).map vB) ∧ g5 ≠ g6 ∧ Below w1.heap.size w1 wx)
 case first =>
  go_region_held3 (fun W => Below w1.heap.size w1 W) ((repeat (first | assumption | exact Below.refl _ _ | apply Below.drew | refine Below.step ?_ (by assumption)))) (first | (go_at_call_of 101 (Value.slice a1 n1 c1); refine (CU _ _ _ b.m _ l1 (q1a.below (by assumption)) hok1 (by omega)).mono ?_; rintro e wm ⟨am, cm, rfl, yJ, hbm⟩) | (go_at_call_of 101 (Value.slice a2 n2 c2); refine (CU _ _ _ b.r _ l2 (q2a.below (by assumption)) hok2 (by omega)).mono ?_; rintro e wr ⟨ar, cr, rfl, hor, hbr⟩))
  all_goals (go_wp2_with fail; go_meet)
  ·obtain ⟨g5, _, rfl, hg5, hs5, _, _⟩ := eF yJ 0 (by rw [List.length_map, jF]; omega)
   obtain ⟨g6, _, rfl, hg6, hs6, _, _⟩ := eF hor 0 (by rw [List.length_map, jF]; omega)
   exact ⟨g5, g6, cm, cr, rfl, rfl, own_base (own_below yJ hbr (Nat.le_refl _)) (Nat.le_refl _), own_base hor (by have := hbm.size; simpa using this), by omega, by assumption⟩
 case rest =>
  obtain ⟨g5, g6, c5, c6, rfl, rfl, ho5, ho6, hne, hbx⟩ := hcut
  have hbw2 := Below.step sK hbx
  have HO5 := gO ho5
  have HO6 := gO ho6
  clear LK0 K0a q1a q2a hok1 hok2 ho5 ho6
  go_wp2
  go_loopw [7, 21] (fun _ s21 wq => ∃ i : Nat, i ≤ 256 ∧ s21 = .int .i64 i ∧ Hid (wq.ownsRow w1.heap.size 4 1 (.slice (some ⟨g5, 0, none⟩) 256 c5) 256 ((bl (fun p => bW b.m p && !(decide (p < i) && bW b.r p))).map vB)) ∧ Hid (wq.ownsRow w1.heap.size 4 1 (.slice (some ⟨g6, 0, none⟩) 256 c6) 256 ((bl (bW b.r)).map vB)) ∧ Below w.heap.size w wq) (fun _ s21 _ => 256 - (intOf s21).toNat)
  case atStart =>
   refine ⟨0, by omega, rfl, ?_, HO6, hbw2⟩
   rw [show bl (fun p => bW b.m p && !(decide (p < 0) && bW b.r p)) = bl (bW b.m) from qO fun p _ => by simp]
   exact HO5
  case round =>
   obtain ⟨i, hi, rfl, hown5, hown6, hb3⟩ := hrel
   clear HO5 HO6
   by_cases hlt : i < 256
   ·obtain ⟨b5, off5, e5, hb5, hc5⟩ := Ey (aY hown5.out) hlt
    obtain ⟨rfl, rfl⟩ : g5 = b5 ∧ 0 = off5 := by simpa using e5
    obtain ⟨b6, off6, e6, hb6, hc6⟩ := Ey (aY hown6.out) hlt
    obtain ⟨rfl, rfl⟩ : g6 = b6 ∧ 0 = off6 := by simpa using e6
    obtain ⟨g, v, eg, hg, hgs, hcg, hfg⟩ := eF hown5.out i (by rw [List.length_map, jF]; omega)
    obtain rfl : g5 = g := by simpa using eg
    rw [decide_eq_false (show ¬ i < i by omega), Bool.false_and, Bool.not_false, Bool.and_true, Nat.zero_add] at hc5
    rw [Nat.zero_add] at hc6
    have HN : Hid (∀ v, v = (bW b.m i && !bW b.r i) → ((wr.setCell ⟨g5, i, none⟩ (.bool v)).ownsRow w1.heap.size 4 1 (.slice (some ⟨g5, 0, none⟩) 256 c5) 256 ((bl (fun p => bW b.m p && !(decide (p < i + 1) && bW b.r p))).map vB))) := fun v hv => by
     have h := (World.ownsRow.stored hown5.out i (vB v)).1
     rw [← List.map_set, QZ] at h
     rw [show bl (fun p => bW b.m p && !(decide (p < i + 1) && bW b.r p)) = bl (fun p => if p = i then v else bW b.m p && !(decide (p < i) && bW b.r p)) from qO fun p _ => by
      by_cases e : p = i
      ·subst e
       rw [if_pos rfl, hv, decide_eq_true (Nat.lt_succ_self p), Bool.true_and]
      ·rw [if_neg e, decide_eq_decide.2 (show p < i + 1 ↔ p < i by omega)]]
     exact h
    have HM : Hid (∀ v, ((wr.setCell ⟨g5, i, none⟩ (.bool v)).ownsRow w1.heap.size 4 1 (.slice (some ⟨g6, 0, none⟩) 256 c6) 256 ((bl (bW b.r)).map vB))) := fun v => dL hown6.out (by simp [Value.ownBlock]; exact fun h => hne h.symm) _
    have hz := sK.size
    clear hown5 hown6 hcg e5 e6 eg
    cases hm : bW b.m i with
    | false =>
     rw [hm] at hc5
     go_wp2
     go_roundw
     case rel => exact ⟨i + 1, by omega, by go_num, HN.out _ (by rw [hm]; rfl), HM.out _, hb3.setCell (by simp only; omega) _⟩
     case measure => simp [intOf]; omega
    | true =>
     rw [hm] at hc5
     cases hr : bW b.r i with
     | false =>
      rw [hr] at hc6
      go_wp2
      go_roundw
      case rel => exact ⟨i + 1, by omega, by go_num, HN.out _ (by rw [hm, hr]; rfl), HM.out _, hb3.setCell (by simp only; omega) _⟩
      case measure => simp [intOf]; omega
     | true =>
      rw [hr] at hc6
      go_wp2
      go_roundw
      case rel => exact ⟨i + 1, by omega, by go_num, HN.out _ (by rw [hm, hr]; rfl), HM.out _, hb3.setCell (by simp only; omega) _⟩
      case measure => simp [intOf]; omega
   ·obtain rfl : i = 256 := by omega
    have hrow := aY hown5.out
    clear hown5 hown6
    go_wp2_with fail
    refine (GZ _ _ _ _ hrow).mono ?_
    rw [show dD (fun p => bW b.m p && !(decide (p < 256) && bW b.r p)) = F from by
     rw [← HF.out]
     exact pJ fun p hp => by rw [decide_eq_true hp, Bool.true_and]; rfl]
    rintro e w5 ⟨a', c', rfl, hown5, hb6⟩
    have H5 := gO (own_base hown5 hb3.size)
    clear hown5
    go_wp2
    go_ret2
    exact ⟨a', c', rfl, H5.out, Below.step hb3 hb6⟩
end
section
open Go.RowKit

def AQ (a b c : Int) : Bt := ⟨[⟨pk a 20, 40 + pk b 60⟩, ⟨130 + pk c 10, 16 + pk a 90⟩], [⟨pk a 20 + pk c 30, 1 + pk a 7⟩, ⟨150 + pk b 9, 1 + pk c 5⟩]⟩
theorem iK (n : Int) {m : Int} (h : 1 ≤ m) : 0 ≤ pk n m ∧ pk n m < m := ⟨wC n m h, UN n m h⟩
theorem JZ (a b c : Int) : dB (AQ a b c).m = true ∧ dB (AQ a b c).r = true := by
 have h1 := iK a (m := 20) (by decide)
 have h2 := iK b (m := 60) (by decide)
 have h3 := iK c (m := 10) (by decide)
 have h4 := iK a (m := 90) (by decide)
 have h5 := iK c (m := 30) (by decide)
 have h6 := iK a (m := 7) (by decide)
 have h7 := iK b (m := 9) (by decide)
 have h8 := iK c (m := 5) (by decide)
 have e1 : cO none (AQ a b c).m = true := by
  simp [AQ, cO, Ep, tY]
  omega
 have e2 : cO none (AQ a b c).r = true := by
  simp [AQ, cO, Ep, tY]
  omega
 exact ⟨by unfold dB; rw [e1]; rfl, by unfold dB; rw [e2]; rfl⟩

set_option maxHeartbeats 4000000 in
set_option maxRecDepth 100000 in
theorem RY (a b c : Int) (w : World) (ha : -9223372036854775808 ≤ a ∧ a ≤ 9223372036854775807) (hb : -9223372036854775808 ≤ b ∧ b ≤ 9223372036854775807) (hc : -9223372036854775808 ≤ c ∧ c ≤ 9223372036854775807) :
  Calls Tryz.prog 26 #[.int .i64 a, .int .i64 b, .int .i64 c] w fun ev w' => ∃ a1 c1 a2 c2, ev = .returned (.agg #[.slice a1 2 c1, .slice a2 2 c2, .int .i64 (16 * pk a 9), .int .i64 (pk b 12), .int .i64 (1 + pk c 4)]) ∧ Ez w' a1 a2 2 2 (AQ a b c) ∧ Below w.heap.size w w' := by
 have h1 := iK a (m := 20) (by decide)
 have h2 := iK b (m := 60) (by decide)
 have h3 := iK c (m := 10) (by decide)
 have h4 := iK a (m := 90) (by decide)
 have h5 := iK c (m := 30) (by decide)
 have h6 := iK a (m := 7) (by decide)
 have h7 := iK b (m := 9) (by decide)
 have h8 := iK c (m := 5) (by decide)
 have h9 := iK a (m := 9) (by decide)
 have h10 := iK b (m := 12) (by decide)
 have h11 := iK c (m := 4) (by decide)
 go_enter Tryz.func26, Tryz.ntmps26
 go_wp2_with (go_at_call 28; refine (yP _ _ _ (by omega) (by omega) (by decide) (by decide)).mono ?_; rintro e w' ⟨rfl, rfl⟩)
 have b1 := aB w (.cells #[.slice (some ⟨w.heap.size + 1 + 1, 0, none⟩) 2 2, .slice (some ⟨w.heap.size + 1 + 1 + 1, 0, none⟩) 2 2, .int .i64 (16 * pk a 9), .int .i64 (pk b 12), .int .i64 (1 + pk c 4)] 29)
 have k1 := bC w #[.slice (some ⟨w.heap.size + 1 + 1, 0, none⟩) 2 2, .slice (some ⟨w.heap.size + 1 + 1 + 1, 0, none⟩) 2 2, .int .i64 (16 * pk a 9), .int .i64 (pk b 12), .int .i64 (1 + pk c 4)] 29
 have z1 : (w.alloc (.cells #[.slice (some ⟨w.heap.size + 1 + 1, 0, none⟩) 2 2, .slice (some ⟨w.heap.size + 1 + 1 + 1, 0, none⟩) 2 2, .int .i64 (16 * pk a 9), .int .i64 (pk b 12), .int .i64 (1 + pk c 4)] 29)).heap.size = w.heap.size + 1 := by simp
 generalize w.alloc (.cells #[.slice (some ⟨w.heap.size + 1 + 1, 0, none⟩) 2 2, .slice (some ⟨w.heap.size + 1 + 1 + 1, 0, none⟩) 2 2, .int .i64 (16 * pk a 9), .int .i64 (pk b 12), .int .i64 (1 + pk c 4)] 29) = w1 at *
 have b2 := aB w1 (.cells #[.slice (some ⟨w.heap.size + 1 + 1, 0, none⟩) 2 2, .slice (some ⟨w.heap.size + 1 + 1 + 1, 0, none⟩) 2 2, .int .i64 (16 * pk a 9), .int .i64 (pk b 12), .int .i64 (1 + pk c 4)] 29)
 have z2 : (w1.alloc (.cells #[.slice (some ⟨w.heap.size + 1 + 1, 0, none⟩) 2 2, .slice (some ⟨w.heap.size + 1 + 1 + 1, 0, none⟩) 2 2, .int .i64 (16 * pk a 9), .int .i64 (pk b 12), .int .i64 (1 + pk c 4)] 29)).heap.size = w.heap.size + 1 + 1 := by simp [z1]
 generalize w1.alloc (.cells #[.slice (some ⟨w.heap.size + 1 + 1, 0, none⟩) 2 2, .slice (some ⟨w.heap.size + 1 + 1 + 1, 0, none⟩) 2 2, .int .i64 (16 * pk a 9), .int .i64 (pk b 12), .int .i64 (1 + pk c 4)] 29) = w2 at *
 have r3 := yO w2 (flat fJ (AQ a b c).m) 55
 have b3 := aB w2 (.cells (flat fJ (AQ a b c).m).toArray 55)
 have z3 : (w2.alloc (.cells (flat fJ (AQ a b c).m).toArray 55)).heap.size = w.heap.size + 1 + 1 + 1 := by simp [z2]
 rw [show w2.alloc (.cells #[.int .i64 (pk a 20), .int .i64 (40 + pk b 60), .int .i64 (130 + pk c 10), .int .i64 (16 + pk a 90)] 55) = w2.alloc (.cells (flat fJ (AQ a b c).m).toArray 55) from rfl]
 generalize w2.alloc (.cells (flat fJ (AQ a b c).m).toArray 55) = w3 at *
 have r4 := yO w3 (flat fJ (AQ a b c).r) 55
 have b4 := aB w3 (.cells (flat fJ (AQ a b c).r).toArray 55)
 rw [show w3.alloc (.cells #[.int .i64 (pk a 20 + pk c 30), .int .i64 (1 + pk a 7), .int .i64 (150 + pk b 9), .int .i64 (1 + pk c 5)] 55) = w3.alloc (.cells (flat fJ (AQ a b c).r).toArray 55) from rfl]
 generalize w3.alloc (.cells (flat fJ (AQ a b c).r).toArray 55) = w4 at *
 rw [z2] at r3
 rw [z3] at r4
 have k4 := aC (aC (aC k1 (by omega) b2) (by omega) b3) (by omega) b4
 refine bodyPost_ret (v := .agg #[.slice (some ⟨w.heap.size + 1 + 1, 0, none⟩) 2 2, .slice (some ⟨w.heap.size + 1 + 1 + 1, 0, none⟩) 2 2, .int .i64 (16 * pk a 9), .int .i64 (pk b 12), .int .i64 (1 + pk c 4)]) (by simp [results, Tryz.results26, go_sem, k4]) rfl ⟨_, _, _, _, rfl, ⟨rfl, rfl, r3.below b4, r4⟩, Below.step (Below.step (Below.step b1 b2) b3) b4⟩
end
end Go.Proofs.YtcmpmobhongkiaaGreatDoor
