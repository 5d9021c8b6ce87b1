/- texts of this claim, joined. -/
import Derived.Test.YtcmpmobhongkiaaGreatDoorSE0
import Derived.Test.YtcmpmobhongkiaaGreatDoorSE2
import Derived.Test.YtcmpmobhongkiaaGreatDoorSE3
set_option linter.unusedVariables false
set_option linter.unusedSimpArgs false
namespace Go.Proofs.YtcmpmobhongkiaaGreatDoor
section
open Go.RowKit

theorem Nj (k : Int) (w : World) (h1 : 1 ≤ k) (h2 : k ≤ 64) (h3 : 4 ≤ 16 / k) :
  Calls Tryz.prog 70 #[.int .i64 k] w fun e w' => e = .returned (.tuple #[.int .i64 0, .int .i64 (16 / k), .int .i64 0]) ∧ w = w' := by
 go_enter Tryz.func70, Tryz.ntmps70
 go_wp2
 refine wp_loop_rounds 1 ?_; rw [rounds_succ]
 go_wp2
 go_ret3
 exact ⟨rfl, rfl⟩

theorem Nk (k : Int) (w : World) (h1 : 1 ≤ k) (h2 : k ≤ 64) (h3 : 16 / k < 4) (h4 : 4 ≤ 32 / k) :
  Calls Tryz.prog 70 #[.int .i64 k] w fun e w' => e = .returned (.tuple #[.int .i64 1, .int .i64 (32 / k), .int .i64 0]) ∧ w = w' := by
 go_enter Tryz.func70, Tryz.ntmps70
 go_wp2
 refine wp_loop_rounds 2 ?_; rw [rounds_succ]
 go_wp2
 rw [rounds_succ]
 go_wp2
 go_ret3
 exact ⟨rfl, rfl⟩

theorem Nl (k : Int) (w : World) (h1 : 1 ≤ k) (h2 : k ≤ 64) (h3 : 16 / k < 4) (h4 : 32 / k < 4) :
  Calls Tryz.prog 70 #[.int .i64 k] w fun e w' => e = .returned (.tuple #[.int .i64 2, .int .i64 (64 / k), .int .i64 0]) ∧ w = w' := by
 go_enter Tryz.func70, Tryz.ntmps70
 go_wp2
 refine wp_loop_rounds 3 ?_; rw [rounds_succ]
 go_wp2
 rw [rounds_succ]
 go_wp2
 rw [rounds_succ]
 go_wp2
 all_goals (go_ret3; exact ⟨rfl, rfl⟩)
end
section
def DV (b : Bk) : Nat × Nat := (b.a, b.o)
end
section
open Go.RowKit

structure Rg where
 f : Int
 s : Int
deriving DecidableEq

def eX (r : Rg) : List Value := [vI r.f, vI r.s]
theorem gY (r : Rg) : (eX r).length = 2 := rfl
def Rg.fin (r : Rg) : Int := r.f + r.s
def Rg.small (r : Rg) : Prop := -4611686018427387904 ≤ r.f ∧ r.f ≤ 4611686018427387903 ∧ -4611686018427387904 ≤ r.s ∧ r.s ≤ 4611686018427387903

theorem l9 (r : Rg) (w : World) (h : r.small) :
  Calls Tryz.prog 148 #[.agg #[.int .i64 r.f, .int .i64 r.s]] w fun e w' => e = .returned (.int .i64 (r.f + r.s)) ∧ Below w.heap.size w w' := by
 obtain ⟨h1, h2, h3, h4⟩ := h
 go_enter Tryz.func148, Tryz.ntmps148
 go_wp2
 go_ret
 exact ⟨rfl, (Below.refl _ _).alloc (Nat.le_refl _) _⟩

def rY (r : Rg) : Bool := decide (0 ≤ r.f ∧ 1 ≤ r.s ∧ r.s ≤ 256 ∧ r.f ≤ 256 - r.s)

theorem iY {r : Rg} (h : rY r = true) : 0 ≤ r.f ∧ 1 ≤ r.s ∧ r.s ≤ 256 ∧ r.f ≤ 256 - r.s := of_decide_eq_true h

theorem fZ (r : Rg) (w : World) (h : rY r = true) :
  Calls Tryz.prog 171 #[.agg #[.int .i64 r.f, .int .i64 r.s]] w fun e w' => e = .returned (.int .i64 0) ∧ Below w.heap.size w w' := by
 obtain ⟨h1, h2, h3, h4⟩ := iY h
 clear h
 go_enter Tryz.func171, Tryz.ntmps171
 go_wp2
 go_ret
 exact ⟨rfl, (Below.refl _ _).alloc (Nat.le_refl _) _⟩

theorem oM (r : Rg) (w : World) (h : rY r = false) :
  Calls Tryz.prog 171 #[.agg #[.int .i64 r.f, .int .i64 r.s]] w fun e w' => e = .returned (.int .i64 1) ∧ Below w.heap.size w w' := by
 obtain ⟨f, s⟩ := r
 have h' := of_decide_eq_false h
 simp only at h' ⊢
 clear h
 by_cases h1 : 0 ≤ f
 ·by_cases h2 : 1 ≤ s
  ·by_cases h3 : s ≤ 256
   ·have h4 : 256 - s < f := by omega
    clear h'
    go_enter Tryz.func171, Tryz.ntmps171
    go_wp2
    go_ret
    exact ⟨rfl, (Below.refl _ _).alloc (Nat.le_refl _) _⟩
   ·clear h'
    go_enter Tryz.func171, Tryz.ntmps171
    go_wp2
    go_ret
    exact ⟨rfl, (Below.refl _ _).alloc (Nat.le_refl _) _⟩
  ·clear h'
   go_enter Tryz.func171, Tryz.ntmps171
   go_wp2
   go_ret
   exact ⟨rfl, (Below.refl _ _).alloc (Nat.le_refl _) _⟩
 ·clear h'
  go_enter Tryz.func171, Tryz.ntmps171
  go_wp2
  go_ret
  exact ⟨rfl, (Below.refl _ _).alloc (Nat.le_refl _) _⟩

def Dj : Option Rg → Rg → Bool
 | none, _ => true
 | some p, r => decide (p.f + p.s < r.f)

def bW : Option Rg → List Rg → Bool
 | _, [] => true
 | p, r :: l => rY r && Dj p r && bW (some r) l

def cO (l : List Rg) : Bool := decide (l.length ≤ 40) && bW none l

theorem kZ : ∀ (l : List Rg) (p : Option Rg) (k : Nat), bW p l = (bW p (l.take k) && bW ((l.take k).getLast?.or p) (l.drop k))
 | [], p, k => by simp [bW]
 | r :: l, p, 0 => by simp [bW]
 | r :: l, p, k + 1 => by
  rw [List.take_succ_cons, List.drop_succ_cons, bW, bW, kZ l (some r) k, ← Bool.and_assoc]
  congr 2
  cases h : l.take k with
  | nil => simp
  | cons x t => simp [List.getLast?_cons]

def Ip (l : List Rg) (k : Nat) (r : Rg) : Bool := rY r && Dj (l[k - 1]?.bind fun p => if k = 0 then none else some p) r

theorem Fh (l : List Rg) (k : Nat) (hk : k < l.length) : bW none (l.take (k + 1)) = (bW none (l.take k) && Ip l k l[k]) := by
 rw [List.take_succ_eq_append_getElem hk, kZ (l.take k ++ [l[k]]) none k]
 have hl : (l.take k).length = k := by rw [List.length_take]; omega
 rw [List.take_left' hl, List.drop_left' hl]
 congr 1
 have e : ((l.take k).getLast?.or none) = (l[k - 1]?.bind fun p => if k = 0 then none else some p) := by
  rcases k with _ | k
  ·simp
  ·rw [List.getLast?_eq_getElem?, hl]
   simp
 rw [e]
 simp [bW, Ip]

theorem Qd (a : Option Addr) (cap : Nat) (l : List Rg) (w : World) (hl : l.length ≤ 9223372036854775807) (hr : Row w a (flat eX l)) (hs : ∀ r ∈ l, r.small) :
  Calls Tryz.prog 147 #[.slice a l.length cap] w fun e w' => e = .returned (.bool (cO l)) ∧ Below w.heap.size w w' := by
 by_cases hlen : l.length ≤ 40
 ·have hb0 : decide (40 < (l.length : Int)) = false := decide_eq_false (by omega)
  have hE : cO l = bW none l := by simp [cO, hlen]
  have HE := gO hE
  clear hE
  go_enter Tryz.func147, Tryz.ntmps147
  go_wp2
  go_loopw [3, 4, 10] (fun _ _ s10 wr => ∃ k : Nat, k ≤ l.length ∧ s10 = .int .i64 k ∧ Hid (bW none (l.take k) = true) ∧ Below w.heap.size w wr) (fun _ _ s10 _ => l.length - (intOf s10).toNat)
  case atStart => exact ⟨0, Nat.zero_le _, rfl, by simp [Hid, bW], Below.refl _ _⟩
  case round =>
   obtain ⟨k, hk, rfl, hok, hbw⟩ := hrel
   by_cases hlt : k < l.length
   ·obtain ⟨b, off, rfl, hb, hc⟩ := aK gY (by decide) (hr.below hbw) hlt
    have hc0 := hc 0 (vI l[k].f) rfl
    have hc1 := hc 1 (vI l[k].s) rfl
    simp only [vI, Nat.add_zero] at hc0 hc1
    go_wp2_with fail
    have h10 : (wr.alloc (.cells #[.int .i64 l[k].f, .int .i64 l[k].s] 55)).cell? ⟨wr.heap.size, 0, none⟩ = some (.int .i64 l[k].f) := by simp [go_sem]
    have h11 : (wr.alloc (.cells #[.int .i64 l[k].f, .int .i64 l[k].s] 55)).cell? ⟨wr.heap.size, 1, none⟩ = some (.int .i64 l[k].s) := by simp [go_sem]
    have hs1 : wr.heap.size < (wr.alloc (.cells #[.int .i64 l[k].f, .int .i64 l[k].s] 55)).heap.size := by simp
    have hb1 : Below w.heap.size w (wr.alloc (.cells #[.int .i64 l[k].f, .int .i64 l[k].s] 55)) := hbw.alloc hbw.size _
    clear hc hc0 hc1
    generalize wr.alloc (.cells #[.int .i64 l[k].f, .int .i64 l[k].s] 55) = w1 at *
    have hsucc := Fh l k hlt
    rw [hok.out, Bool.true_and] at hsucc
    have HS := gO hsucc
    clear hsucc
    cases hck : rY l[k] with
    | false =>
     have hfalse : Hid (bW none l = false) := by
      rw [Hid, kZ l none (k + 1), HS.out]
      simp [Ip, hck]
     refine aS (by kernel_rfl) (by kernel_rfl) ?_
     repeat (first | go_big_quiet_step ((go_at_call 171; exact Calls.bI (oM l[k] _ hck))) | quiet_step ((go_at_call 171; exact Calls.bI (oM l[k] _ hck))))
     refine wpQuiet_nil ?_
     rintro _ ⟨wx, rfl⟩
     have hbx : Below w.heap.size w (ext w1 wx) := Below.step hb1 (aQ w1 wx)
     go_wp2
     go_ret
     exact ⟨aU (by rw [HE.out, hfalse.out]), hbx⟩
    | true =>
     by_cases hk0 : 0 < k
     ·have hd : decide (0 < (k : Int)) = true := decide_eq_true (by omega)
      have hkk : k - 1 < l.length := by omega
      have hsp := hs l[k - 1] (gL hkk)
      obtain ⟨b', off', e', hb', hc'⟩ := aK gY (by decide) (hr.below hb1) hkk
      obtain ⟨rfl, rfl⟩ : b = b' ∧ off = off' := by simpa using e'
      have hc0 := hc' 0 (vI l[k - 1].f) rfl
      have hc1 := hc' 1 (vI l[k - 1].s) rfl
      simp only [vI, Nat.add_zero] at hc0 hc1
      clear hc' e'
      have hi1 : 0 ≤ (k : Int) - 1 := by omega
      have hi2 : (k : Int) - 1 < (l.length : Int) := by omega
      have hi3 : ((k : Int) - 1).toNat = k - 1 := by omega
      have hi4 : IntKind.i64.wrap ((k : Int) - 1) = (k : Int) - 1 := IntWalk.i64_in _ (by omega)
      cases hp : decide (l[k].f ≤ l[k - 1].f + l[k - 1].s) with
      | true =>
       refine aS (by kernel_rfl) (by kernel_rfl) ?_
       repeat (first | go_big_quiet_step ((first | (go_at_call 171; exact Calls.bI (fZ l[k] _ hck)) | (go_at_call 148; exact Calls.bI (l9 l[k - 1] _ hsp)))) | quiet_step ((first | (go_at_call 171; exact Calls.bI (fZ l[k] _ hck)) | (go_at_call 148; exact Calls.bI (l9 l[k - 1] _ hsp)))))
       refine wpQuiet_nil ?_
       rintro _ ⟨wx, rfl⟩
       have hbx : Below w.heap.size w (ext w1 wx) := Below.step hb1 (aQ w1 wx)
       have hfalse : Hid (bW none l = false) := by
        have hp' := of_decide_eq_true hp
        rw [Hid, kZ l none (k + 1), HS.out]
        have : Ip l k l[k] = false := by
         unfold Ip
         rw [hck, Bool.true_and, gJ hkk, Option.bind_some, if_neg (by omega)]
         exact decide_eq_false (by omega)
        rw [this, Bool.false_and]
       go_wp2
       go_ret
       exact ⟨aU (by rw [HE.out, hfalse.out]), hbx⟩
      | false =>
       have Fj : Hid (bW none (l.take (k + 1)) = true) := by
        have hp' := of_decide_eq_false hp
        rw [Hid, HS.out]
        unfold Ip
        rw [hck, Bool.true_and, gJ hkk, Option.bind_some, if_neg (by omega)]
        exact decide_eq_true (by omega)
       refine aS (by kernel_rfl) (by kernel_rfl) ?_
       repeat (first | go_big_quiet_step ((first | (go_at_call 171; exact Calls.bI (fZ l[k] _ hck)) | (go_at_call 148; exact Calls.bI (l9 l[k - 1] _ hsp)))) | quiet_step ((first | (go_at_call 171; exact Calls.bI (fZ l[k] _ hck)) | (go_at_call 148; exact Calls.bI (l9 l[k - 1] _ hsp)))))
       refine wpQuiet_nil ?_
       rintro _ ⟨wx, rfl⟩
       have hbx : Below w.heap.size w (ext w1 wx) := Below.step hb1 (aQ w1 wx)
       go_wp2
       go_roundw
       case rel => exact ⟨k + 1, by omega, by go_num, Fj.out, hbx⟩
       case measure => simp [intOf]; omega
     ·have hd : decide (0 < (k : Int)) = false := decide_eq_false (by omega)
      have Fj : Hid (bW none (l.take (k + 1)) = true) := by
       obtain rfl : k = 0 := by omega
       rw [Hid, HS.out]; unfold Ip; rw [hck, Bool.true_and]
       cases l[0 - 1]? <;> rfl
      refine aS (by kernel_rfl) (by kernel_rfl) ?_
      repeat (first | go_big_quiet_step ((go_at_call 171; exact Calls.bI (fZ l[k] _ hck))) | quiet_step ((go_at_call 171; exact Calls.bI (fZ l[k] _ hck))))
      refine wpQuiet_nil ?_
      rintro _ ⟨wx, rfl⟩
      have hbx : Below w.heap.size w (ext w1 wx) := Below.step hb1 (aQ w1 wx)
      go_wp2
      go_roundw
      case rel => exact ⟨k + 1, by omega, by go_num, Fj.out, hbx⟩
      case measure => simp [intOf]; omega
   ·obtain rfl : k = l.length := by omega
    have Fj : Hid (bW none l = true) := by rw [List.take_of_length_le (Nat.le_refl _)] at hok; exact hok
    clear hok
    go_wp2
    go_ret
    exact ⟨aU (by rw [HE.out, Fj.out]), hbw⟩
 ·have hb0 : decide (40 < (l.length : Int)) = true := decide_eq_true (by omega)
  have hE : Hid (cO l = false) := by unfold Hid cO; rw [decide_eq_false hlen, Bool.false_and]
  go_enter Tryz.func147, Tryz.ntmps147
  go_wp2
  go_ret
  exact ⟨aU hE.out.symm, Below.refl _ _⟩

theorem Qe (a : Option Addr) (n cap : Nat) (l : List Rg) (w : World) (hn : l.length = n) (hl : n ≤ 9223372036854775807) (hr : Row w a (flat eX l)) (hs : ∀ r ∈ l, r.small) (b : Bool) (hb : cO l = b) :
  Calls Tryz.prog 147 #[.slice a n cap] w fun e w' => e = .returned (.bool b) ∧ Below w.heap.size w w' := by
 subst hn; subst hb
 exact Qd a cap l w hl hr hs

theorem uH (a1 a2 : Option Addr) (n1 n2 c1 c2 : Nat) (m r : List Rg) (w : World) (hn1 : m.length = n1) (hn2 : r.length = n2) (hl1 : n1 ≤ 9223372036854775807) (hl2 : n2 ≤ 9223372036854775807) (hr1 : Row w a1 (flat eX m)) (hr2 : Row w a2 (flat eX r)) (hs1 : ∀ x ∈ m, x.small) (hs2 : ∀ x ∈ r, x.small) (h1 : cO m = true) (h2 : cO r = true) :
  Calls Tryz.prog 100 #[.agg #[.slice a1 n1 c1, .slice a2 n2 c2]] w fun e w' => e = .returned (.int .i64 0) ∧ Below w.heap.size w w' := by
 have hal : Below w.heap.size w (w.alloc (.cells #[.slice a1 n1 c1, .slice a2 n2 c2] 27)) := aC _ _
 have hr1' := hr1.below hal
 have hr2' := hr2.below hal
 clear hr1 hr2
 go_enter Tryz.func100, Tryz.ntmps100
 go_wp2_with fail
 refine (Qe _ _ _ m _ hn1 hl1 hr1' hs1 true h1).mono ?_
 rintro e w1 ⟨rfl, hb1⟩
 have B1 := NZ hb1
 go_wp2_with fail
 refine (Qe _ _ _ r _ hn2 hl2 (hr2'.below hb1) hs2 true h2).mono ?_
 rintro e w2 ⟨rfl, hb2⟩
 go_wp2
 go_ret
 exact ⟨rfl, Below.step hal (Below.step hb1 hb2)⟩
end
section
open Go.RowKit

def vB (b : Bool) : Value := .bool b
def bl (f : Nat → Bool) : List Bool := (List.range 256).map f
theorem iR (f : Nat → Bool) : (bl f).length = 256 := by simp [bl]
theorem qF {f g : Nat → Bool} (h : ∀ p, p < 256 → f p = g p) : bl f = bl g := List.map_congr_left fun p hp => h p (List.mem_range.1 hp)
theorem Iq (f : Nat → Bool) (i : Nat) (h : i < 256) : (bl f)[i]? = some (f i) := by simp [bl, h]
theorem Qg (f : Nat → Bool) (i : Nat) (v : Bool) : (bl f).set i v = bl (fun p => if p = i then v else f p) := by
 apply List.ext_getElem?
 intro j
 rw [List.getElem?_set]
 by_cases hj : j < 256
 ·rw [Iq _ j hj, Iq _ j hj, iR]
  by_cases e : i = j
  ·subst e; simp [hj]
  ·rw [if_neg e, if_neg (fun h => e h.symm)]
 ·have h1 : (bl f)[j]? = none := List.getElem?_eq_none (by rw [iR]; omega)
  have h2 : (bl (fun p => if p = i then v else f p))[j]? = none := List.getElem?_eq_none (by rw [iR]; omega)
  rw [h1, h2, iR]
  split
  ·rw [if_neg (by omega)]
  ·rfl

def mD (r : Rg) (p : Nat) : Bool := decide (r.f ≤ (p : Int) ∧ (p : Int) < r.f + r.s)
def bV (l : List Rg) (p : Nat) : Bool := l.any fun r => mD r p

theorem Fp {r : Rg} (h : rY r = true) : r.small := by
 have := iY h
 unfold Rg.small
 omega

theorem zF : ∀ (l : List Rg) (p : Option Rg), bW p l = true → ∀ r ∈ l, rY r = true
 | [], _, _, r, hr => by simp at hr
 | x :: l, p, h, r, hr => by
  simp only [bW, Bool.and_eq_true] at h
  rcases List.mem_cons.1 hr with rfl | hr
  ·exact h.1.1
  ·exact zF l (some x) h.2 r hr
theorem kK {l : List Rg} (h : cO l = true) : ∀ r ∈ l, rY r = true := by
 simp only [cO, Bool.and_eq_true] at h
 exact zF l none h.2
theorem oG {l : List Rg} (h : cO l = true) : ∀ r ∈ l, r.small := fun r hr => Fp (kK h r hr)
theorem sD {l : List Rg} (h : cO l = true) : l.length ≤ 40 := by
 simp only [cO, Bool.and_eq_true, decide_eq_true_eq] at h
 exact h.1

theorem MF : (Tryz.prog.info? 4).map (fun i => (i.zero, i.size, i.bytes)) = some (some (.bool false), 1, 1) := by kernel_rfl
theorem SL : (List.replicate 256 (Value.bool false)) = (bl fun _ => false).map vB := by
 rw [show (bl fun _ => false) = List.replicate 256 false from by decide +kernel, List.map_replicate]
 rfl

theorem zG (l : List Rg) (k : Nat) (hk : k < l.length) (p : Nat) : bV (l.take (k + 1)) p = (bV (l.take k) p || mD l[k] p) := by
 unfold bV
 rw [List.take_succ_eq_append_getElem hk, List.any_append]
 simp

set_option maxRecDepth 100000 in
theorem BI (a : Option Addr) (n cap : Nat) (l : List Rg) (w : World) (hn : l.length = n) (hr : Row w a (flat eX l)) (hok : ∀ r ∈ l, rY r = true) (hl : n ≤ 9223372036854775807) :
  Calls Tryz.prog 101 #[.slice a n cap] w fun e w' => ∃ a' c', e = .returned (.slice a' 256 c') ∧ w'.ownsRow w.heap.size 4 1 (.slice a' 256 c') 256 ((bl (bV l)).map vB) ∧ Below w.heap.size w w' := by
 subst hn
 obtain ⟨i0, hi, hz, hsize, hby⟩ := info_parts MF
 go_enter Tryz.func101, Tryz.ntmps101
 go_wp2_with (at_make; refine wpList_make_full _ rfl _ _ 82 rfl w.heap.size 4 i0 (.bool false) 1 Tryz.underlying82 hi hz hsize .i64 .i64 _ _ 256 rfl rfl rfl rfl ?q1 ?q2 ?q3 ?_)
 case q1 => rw [hby]; omega
 case q2 => unfold maxLen; omega
 case q3 => exact Nat.le_refl _
 intro w1 hown hgrow
 rw [toList_madeCells_one, SL] at hown
 have HO := gO hown
 have hbw := (Below.refl w.heap.size w).grown hgrow (Nat.le_refl _) (by simp)
 clear hown hgrow
 go_wp2
 go_loopw [5, 6, 10] (fun _ _ s10 wr => ∃ k : Nat, k ≤ l.length ∧ s10 = .int .i64 k ∧ Hid (wr.ownsRow w.heap.size 4 1 (.slice (some ⟨w.heap.size, 0, none⟩) 256 256) 256 ((bl (bV (l.take k))).map vB)) ∧ Below w.heap.size w wr) (fun _ _ s10 _ => l.length - (intOf s10).toNat)
 case atStart => exact ⟨0, Nat.zero_le _, rfl, HO, hbw⟩
 case round =>
  obtain ⟨k, hk, rfl, hown, hbw⟩ := hrel
  by_cases hlt : k < l.length
  ·obtain ⟨b, off, rfl, hb, hc⟩ := aK gY (by decide) (hr.below hbw) hlt
   have hc0 := hc 0 (vI l[k].f) rfl
   have hc1 := hc 1 (vI l[k].s) rfl
   simp only [vI, Nat.add_zero] at hc0 hc1
   have hck := hok l[k] (gL hlt)
   obtain ⟨g1, g2, g3, g4⟩ := iY hck
   have hsm := Fp hck
   have hsucc := zG l k hlt
   generalize hrr : l[k] = r at *
   clear hrr hok
   obtain ⟨f, s⟩ := r
   simp only at g1 g2 g3 g4 hc0 hc1
   obtain ⟨f, rfl⟩ := Int.eq_ofNat_of_zero_le g1
   obtain ⟨s, rfl⟩ := Int.eq_ofNat_of_zero_le (show (0 : Int) ≤ s by omega)
   have Zl := gO hsucc
   clear hsucc
   go_wp2
   have hb2 : Below w.heap.size w (wr.alloc (.cells #[.int .i64 (f : Int), .int .i64 (s : Int)] 55)) := hbw.alloc hbw.size _
   have B2 := aY wr #[.int .i64 (f : Int), .int .i64 (s : Int)] 55
   have hs2 : wr.heap.size < (wr.alloc (.cells #[.int .i64 (f : Int), .int .i64 (s : Int)] 55)).heap.size := by simp
   have HO2 := gO (own_below hown.out (aC wr (.cells #[.int .i64 (f : Int), .int .i64 (s : Int)] 55)) (Nat.le_refl _))
   have hne : w.heap.size < wr.heap.size := by
    obtain ⟨g, v, e, _, h, _⟩ := dW hown.out 0 (by simp [iR])
    obtain rfl : w.heap.size = g := by simpa using e
    exact h
   generalize wr.alloc (.cells #[.int .i64 (f : Int), .int .i64 (s : Int)] 55) = w2 at *
   generalize wr.heap.size = bb at *
   go_loopw [6] (fun s6 wq => ∃ i : Nat, f ≤ i ∧ i ≤ f + s ∧ s6 = .int .i64 i ∧ Hid (wq.ownsRow w.heap.size 4 1 (.slice (some ⟨w.heap.size, 0, none⟩) 256 256) 256 ((bl (fun p => bV (l.take k) p || (decide (f ≤ p) && decide (p < i)))).map vB)) ∧ Below w.heap.size w wq ∧ Hid (∀ o, wq.cell? ⟨bb, o, none⟩ = (#[.int .i64 (f : Int), .int .i64 (s : Int)] : Array Value)[o]?) ∧ bb < wq.heap.size) (fun s6 _ => 256 - (intOf s6).toNat)
   case atStart =>
    refine ⟨f, Nat.le_refl _, by omega, rfl, ?_, hb2, B2, hs2⟩
    rw [show bl (fun p => bV (l.take k) p || (decide (f ≤ p) && decide (p < f))) = bl (bV (l.take k)) from qF fun p _ => by
     have : (decide (f ≤ p) && decide (p < f)) = false := by
      by_cases h : f ≤ p
      ·rw [decide_eq_false (show ¬ p < f by omega), Bool.and_false]
      ·rw [decide_eq_false h, Bool.false_and]
     rw [this, Bool.or_false]]
    exact HO2
   case round =>
    obtain ⟨i, hi1, hi2, rfl, hown3, hb3, HB3, hs3⟩ := hrel
    have B3 := HB3.out
    clear B2 HO2 HO hs2 hb2
    by_cases Hr : i < f + s
    ·go_wp2_with fail
     refine (l9 ⟨(f : Int), (s : Int)⟩ _ hsm).mono ?_
     rintro e w4 ⟨rfl, hb4⟩
     have B4 := aB B3 hs3 hb4
     have hown4 := own_below hown3.out hb4 (Nat.le_refl _)
     have hb5 := Below.step hb3 hb4
     have hs4 : bb < w4.heap.size := gI hs3 hb4.size
     obtain ⟨g, v, e, hg, hgs, hcg, hfg⟩ := dW hown4 i (by rw [List.length_map, iR]; omega)
     obtain rfl : w.heap.size = g := by simpa using e
     have HO4 := gO hown4
     clear B3 hown4 hown3 e
     go_wp2
     go_roundw
     case rel =>
      refine ⟨i + 1, by omega, by omega, by go_num, ?_, hb5.setCell (Nat.le_refl _) _, ?_, by simpa using hs4⟩
      ·have h := (World.ownsRow.stored HO4.out i (vB true)).1
       rw [← List.map_set, Qg] at h
       rw [show bl (fun p => bV (l.take k) p || (decide (f ≤ p) && decide (p < i + 1))) = bl (fun p => if p = i then true else bV (l.take k) p || (decide (f ≤ p) && decide (p < i))) from qF fun p _ => by
        by_cases e : p = i
        ·subst e
         rw [if_pos rfl, decide_eq_true hi1, decide_eq_true (Nat.lt_succ_self p)]; simp
        ·rw [if_neg e, decide_eq_decide.2 (show p < i + 1 ↔ p < i by omega)]]
       exact h
      ·intro o
       simp [go_sem, B4]
     case measure => simp [intOf]; omega
    ·obtain rfl : i = f + s := by omega
     go_wp2_with fail
     refine (l9 ⟨(f : Int), (s : Int)⟩ _ hsm).mono ?_
     rintro e w4 ⟨rfl, hb4⟩
     have hb5 := Below.step hb3 hb4
     have hown4 := gO (own_below hown3.out hb4 (Nat.le_refl _))
     clear B3 hown3
     go_wp2
     go_roundw
     case rel =>
      refine ⟨k + 1, by omega, by go_num, ?_, hb5⟩
      rw [show bl (bV (l.take (k + 1))) = bl (fun p => bV (l.take k) p || (decide (f ≤ p) && decide (p < f + s))) from qF fun p _ => by
       rw [Zl.out p]
       congr 1
       unfold mD
       rw [← Bool.decide_and]
       exact decide_eq_decide.2 (by simp only; omega)]
      exact hown4.out
     case measure => simp [intOf]; omega
  ·obtain rfl : k = l.length := by omega
   rw [List.take_of_length_le (Nat.le_refl _)] at hown
   go_wp2
   go_ret
   exact ⟨_, _, rfl, hown.out, hbw⟩
end
end Go.Proofs.YtcmpmobhongkiaaGreatDoor
