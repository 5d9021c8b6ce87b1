/- texts of this claim, joined. -/
import Derived.Test.YtcmpmobhongkiaaGreatDoorCM0
import Derived.Test.YtcmpmobhongkiaaGreatDoorCM2
import Derived.Test.YtcmpmobhongkiaaGreatDoorCM5
set_option linter.unusedVariables false
set_option linter.unusedSimpArgs false
namespace Go.Proofs.YtcmpmobhongkiaaGreatDoor
section
open Go.RowKit

set_option maxHeartbeats 2000000 in
theorem OZ (x b : Bk) (B : Nat) (W : World) (hx : x.o ≤ 4) (hxa : x.a ≤ 1000) (hb : b.o ≤ 4) (hba : b.a ≤ 1000) (hB : B < W.heap.size) (h0 : W.cell? ⟨B, 0, none⟩ = some (.int .i64 b.a)) (h1 : W.cell? ⟨B, 1, none⟩ = some (.int .i64 b.o)) (h2 : W.cell? ⟨B, 2, none⟩ = some (.int .i64 b.t)) :
  Calls Tryz.prog 172 (#[.agg (aO x).toArray] ++ #[.pointer (some ⟨B, 0, none⟩)]) W fun ev w' => ev = .returned (.bool (decide (x.a < b.fin ∧ b.a < x.fin))) ∧ Below W.heap.size W w' := by
 show Calls Tryz.prog 172 #[.agg #[.int .i64 x.a, .int .i64 x.o, .int .i64 x.t], .pointer (some ⟨B, 0, none⟩)] W _
 have hb0 := aB W (.cells #[.int .i64 (x.a : Int), .int .i64 (x.o : Int), .int .i64 (x.t : Int)] 63)
 have K := bC W #[.int .i64 (x.a : Int), .int .i64 (x.o : Int), .int .i64 (x.t : Int)] 63
 have hs : W.heap.size < (W.alloc (.cells #[.int .i64 (x.a : Int), .int .i64 (x.o : Int), .int .i64 (x.t : Int)] 63)).heap.size := by simp
 have hB2 : B < (W.alloc (.cells #[.int .i64 (x.a : Int), .int .i64 (x.o : Int), .int .i64 (x.t : Int)] 63)).heap.size := by omega
 have g0 := (hb0.cell (p := ⟨B, 0, none⟩) hB).trans h0
 have g1 := (hb0.cell (p := ⟨B, 1, none⟩) hB).trans h1
 have g2 := (hb0.cell (p := ⟨B, 2, none⟩) hB).trans h2
 have k0 := K 0
 have k1 := K 1
 have k2 := K 2
 simp only [gB, gC, gD] at k0 k1 k2
 have c1 : ((x.a : Int) < (b.fin : Int)) ↔ x.a < b.fin := by omega
 clear h0 h1 h2 K
 cases hd : decide (x.a < b.fin) with
 | true =>
  have hd' : decide ((x.a : Int) < (b.fin : Int)) = true := decide_eq_true (by have := of_decide_eq_true hd; omega)
  go_enter Tryz.func172, Tryz.ntmps172
  go_wp2_with fail
  generalize W.alloc (.cells #[.int .i64 (x.a : Int), .int .i64 (x.o : Int), .int .i64 (x.t : Int)] 63) = w0 at *
  refine aS (by kernel_rfl) (by kernel_rfl) ?_
  repeat (first | go_big_quiet_step ((go_at_call 164; first | with_reducible exact Calls.bP (iV b _ hb hba) | with_reducible exact Calls.bP (iV x _ hx hxa))) | quiet_step ((go_at_call 164; first | with_reducible exact Calls.bP (iV b _ hb hba) | with_reducible exact Calls.bP (iV x _ hx hxa))))
  refine wpQuiet_nil ?_
  rintro _ ⟨wx, rfl⟩
  have hbx := Below.step hb0 (aQ w0 wx)
  go_wp2
  go_ret
  exact ⟨aW (by rw [Bool.decide_and, hd, Bool.true_and]), hbx⟩
 | false =>
  have hd' : decide ((x.a : Int) < (b.fin : Int)) = false := decide_eq_false (by have := of_decide_eq_false hd; omega)
  go_enter Tryz.func172, Tryz.ntmps172
  go_wp2_with fail
  generalize W.alloc (.cells #[.int .i64 (x.a : Int), .int .i64 (x.o : Int), .int .i64 (x.t : Int)] 63) = w0 at *
  refine aS (by kernel_rfl) (by kernel_rfl) ?_
  repeat (first | go_big_quiet_step ((go_at_call 164; first | with_reducible exact Calls.bP (iV b _ hb hba) | with_reducible exact Calls.bP (iV x _ hx hxa))) | quiet_step ((go_at_call 164; first | with_reducible exact Calls.bP (iV b _ hb hba) | with_reducible exact Calls.bP (iV x _ hx hxa))))
  refine wpQuiet_nil ?_
  rintro _ ⟨wx, rfl⟩
  have hbx := Below.step hb0 (aQ w0 wx)
  go_wp2
  go_ret
  exact ⟨aW (by rw [Bool.decide_and, hd, Bool.false_and]), hbx⟩

theorem YJ (b : Bk) (o t B C : Nat) (W : World) (hB : B < W.heap.size) (hc : W.cell? ⟨B, 0, none⟩ = some (.int .i64 o)) (hC : C < W.heap.size) (hc2 : W.cell? ⟨C, 0, none⟩ = some (.int .i64 t)) :
  Calls Tryz.prog 202 (#[.agg (aO b).toArray] ++ #[.pointer (some ⟨B, 0, none⟩), .pointer (some ⟨C, 0, none⟩)]) W fun ev w' => ev = .returned (.bool (decide (b.o = o ∧ b.t = t))) ∧ Below W.heap.size W w' := by
 have hne : B ≠ W.heap.size := by omega
 have hne2 : C ≠ W.heap.size := by omega
 show Calls Tryz.prog 202 #[.agg #[.int .i64 b.a, .int .i64 b.o, .int .i64 b.t], .pointer (some ⟨B, 0, none⟩), .pointer (some ⟨C, 0, none⟩)] W _
 by_cases c1 : b.o = o
 ·by_cases c2 : b.t = t
  ·subst c1 c2
   go_enter Tryz.func202, Tryz.ntmps202
   go_wp2
   go_ret
   exact ⟨aW (by simp), aB _ _⟩
  ·have d2 : ((b.t : Int) == (t : Int)) = false := by rw [beq_eq_false_iff_ne]; omega
   subst c1
   go_enter Tryz.func202, Tryz.ntmps202
   go_wp2
   go_ret
   exact ⟨aW (by symm; exact decide_eq_false (fun h => c2 h.2)), aB _ _⟩
 ·have d1 : ((b.o : Int) == (o : Int)) = false := by rw [beq_eq_false_iff_ne]; omega
  go_enter Tryz.func202, Tryz.ntmps202
  go_wp2
  go_ret
  exact ⟨aW (by symm; exact decide_eq_false (fun h => c1 h.1)), aB _ _⟩

theorem wH (a1 a2 : Option Addr) (n1 n2 c1 c2 : Nat) (f e : Nat) (z : Zn) (o t : Nat) (w : World) (hat : Dw w a1 a2 n1 n2 z) (hl : n1 ≤ 1000) :
  Calls Tryz.prog 191 #[.agg #[.int .i64 f, .int .i64 e, .slice a1 n1 c1, .slice a2 n2 c2], .int .i64 o, .int .i64 t] w fun ev w' => ev = .returned (.int .i64 (bZ (fun b => decide (b.o = o ∧ b.t = t)) z.l)) ∧ Below w.heap.size w w' := by
 obtain ⟨K3, K4, K5, F3, F4, F5, hsz, hbw⟩ := boxes3 w #[.int .i64 (f : Int), .int .i64 (e : Int), .slice a1 n1 c1, .slice a2 n2 c2] 102 #[.int .i64 (o : Int)] 3 #[.int .i64 (t : Int)] 3
 have lQ := hat.below hbw
 have l1 := hat.l1
 have k4 := K4 0
 have k5 := K5 0
 simp only [gB, gC] at k4 k5
 clear hat K3 K4 K5 F3 F4 F5
 have eg : ∀ args w, (callFunc 202 args).run Tryz.prog w = .ok (.enter 202 args) w := enters_of Tryz.func202 (by kernel_rfl) rfl
 go_enter Tryz.func191, Tryz.ntmps191
 go_wp2_with fail
 generalize ((w.alloc (.cells #[.int .i64 (f : Int), .int .i64 (e : Int), .slice a1 n1 c1, .slice a2 n2 c2] 102)).alloc (.cells #[.int .i64 (o : Int)] 3)).alloc (.cells #[.int .i64 (t : Int)] 3) = w0 at *
 refine (xO _ _ _ z.l _ _ (fun b => decide (b.o = o ∧ b.t = t)) _ l1 (by omega) lQ.r1 eg (fun W hW x hx => YJ x o t _ _ W (gI (show w.heap.size + 1 < w0.heap.size by omega) hW.size) ((hW.cell (p := ⟨w.heap.size + 1, 0, none⟩) (by show w.heap.size + 1 < _; omega)).trans k4) (gI (show w.heap.size + 1 + 1 < w0.heap.size by omega) hW.size) ((hW.cell (p := ⟨w.heap.size + 1 + 1, 0, none⟩) (by show w.heap.size + 1 + 1 < _; omega)).trans k5))).mono ?_
 rintro ev w1 ⟨rfl, hb1⟩
 go_wp2
 go_ret
 exact ⟨dK (by simp only [Bool.decide_and]), Below.step hbw hb1⟩
end
section
open Go.RowKit

structure Rg where
 f : Int
 s : Int
deriving DecidableEq

def fJ (r : Rg) : List Value := [vI r.f, vI r.s]
theorem iR (r : Rg) : (fJ r).length = 2 := rfl
def Rg.fin (r : Rg) : Int := r.f + r.s
def Rg.small (r : Rg) : Prop := -4611686018427387904 ≤ r.f ∧ r.f ≤ 4611686018427387903 ∧ -4611686018427387904 ≤ r.s ∧ r.s ≤ 4611686018427387903

theorem nG (r : Rg) (w : World) (h : r.small) :
  Calls Tryz.prog 148 #[.agg #[.int .i64 r.f, .int .i64 r.s]] w fun e w' => e = .returned (.int .i64 (r.f + r.s)) ∧ Below w.heap.size w w' := by
 obtain ⟨h1, h2, h3, h4⟩ := h
 go_enter Tryz.func148, Tryz.ntmps148
 go_wp2
 go_ret
 exact ⟨rfl, (Below.refl _ _).alloc (Nat.le_refl _) _⟩

def tY (r : Rg) : Bool := decide (0 ≤ r.f ∧ 1 ≤ r.s ∧ r.s ≤ 256 ∧ r.f ≤ 256 - r.s)

theorem jM {r : Rg} (h : tY r = true) : 0 ≤ r.f ∧ 1 ≤ r.s ∧ r.s ≤ 256 ∧ r.f ≤ 256 - r.s := of_decide_eq_true h

theorem iI (r : Rg) (w : World) (h : tY r = true) :
  Calls Tryz.prog 171 #[.agg #[.int .i64 r.f, .int .i64 r.s]] w fun e w' => e = .returned (.int .i64 0) ∧ Below w.heap.size w w' := by
 obtain ⟨h1, h2, h3, h4⟩ := jM h
 clear h
 go_enter Tryz.func171, Tryz.ntmps171
 go_wp2
 go_ret
 exact ⟨rfl, (Below.refl _ _).alloc (Nat.le_refl _) _⟩

theorem pG (r : Rg) (w : World) (h : tY r = false) :
  Calls Tryz.prog 171 #[.agg #[.int .i64 r.f, .int .i64 r.s]] w fun e w' => e = .returned (.int .i64 1) ∧ Below w.heap.size w w' := by
 obtain ⟨f, s⟩ := r
 have h' := of_decide_eq_false h
 simp only at h' ⊢
 clear h
 by_cases h1 : 0 ≤ f
 ·by_cases h2 : 1 ≤ s
  ·by_cases h3 : s ≤ 256
   ·have h4 : 256 - s < f := by omega
    clear h'
    go_enter Tryz.func171, Tryz.ntmps171
    go_wp2
    go_ret
    exact ⟨rfl, (Below.refl _ _).alloc (Nat.le_refl _) _⟩
   ·clear h'
    go_enter Tryz.func171, Tryz.ntmps171
    go_wp2
    go_ret
    exact ⟨rfl, (Below.refl _ _).alloc (Nat.le_refl _) _⟩
  ·clear h'
   go_enter Tryz.func171, Tryz.ntmps171
   go_wp2
   go_ret
   exact ⟨rfl, (Below.refl _ _).alloc (Nat.le_refl _) _⟩
 ·clear h'
  go_enter Tryz.func171, Tryz.ntmps171
  go_wp2
  go_ret
  exact ⟨rfl, (Below.refl _ _).alloc (Nat.le_refl _) _⟩

def Ep : Option Rg → Rg → Bool
 | none, _ => true
 | some p, r => decide (p.f + p.s < r.f)

def cO : Option Rg → List Rg → Bool
 | _, [] => true
 | p, r :: l => tY r && Ep p r && cO (some r) l

def dB (l : List Rg) : Bool := decide (l.length ≤ 40) && cO none l

theorem lT : ∀ (l : List Rg) (p : Option Rg) (k : Nat), cO p l = (cO p (l.take k) && cO ((l.take k).getLast?.or p) (l.drop k))
 | [], p, k => by simp [cO]
 | r :: l, p, 0 => by simp [cO]
 | r :: l, p, k + 1 => by
  rw [List.take_succ_cons, List.drop_succ_cons, cO, cO, lT l (some r) k, ← Bool.and_assoc]
  congr 2
  cases h : l.take k with
  | nil => simp
  | cons x t => simp [List.getLast?_cons]

def JD (l : List Rg) (k : Nat) (r : Rg) : Bool := tY r && Ep (l[k - 1]?.bind fun p => if k = 0 then none else some p) r

theorem GU (l : List Rg) (k : Nat) (hk : k < l.length) : cO none (l.take (k + 1)) = (cO none (l.take k) && JD l k l[k]) := by
 rw [List.take_succ_eq_append_getElem hk, lT (l.take k ++ [l[k]]) none k]
 have hl : (l.take k).length = k := by rw [List.length_take]; omega
 rw [List.take_left' hl, List.drop_left' hl]
 congr 1
 have e : ((l.take k).getLast?.or none) = (l[k - 1]?.bind fun p => if k = 0 then none else some p) := by
  rcases k with _ | k
  ·simp
  ·rw [List.getLast?_eq_getElem?, hl]
   simp
 rw [e]
 simp [cO, JD]

theorem QX (a : Option Addr) (cap : Nat) (l : List Rg) (w : World) (hl : l.length ≤ 9223372036854775807) (hr : Row w a (flat fJ l)) (hs : ∀ r ∈ l, r.small) :
  Calls Tryz.prog 147 #[.slice a l.length cap] w fun e w' => e = .returned (.bool (dB l)) ∧ Below w.heap.size w w' := by
 by_cases hlen : l.length ≤ 40
 ·have hb0 : decide (40 < (l.length : Int)) = false := decide_eq_false (by omega)
  have hE : dB l = cO none l := by simp [dB, hlen]
  have HE := gO hE
  clear hE
  go_enter Tryz.func147, Tryz.ntmps147
  go_wp2
  go_loopw [3, 4, 10] (fun _ _ s10 wr => ∃ k : Nat, k ≤ l.length ∧ s10 = .int .i64 k ∧ Hid (cO none (l.take k) = true) ∧ Below w.heap.size w wr) (fun _ _ s10 _ => l.length - (intOf s10).toNat)
  case atStart => exact ⟨0, Nat.zero_le _, rfl, by simp [Hid, cO], Below.refl _ _⟩
  case round =>
   obtain ⟨k, hk, rfl, hok, hbw⟩ := hrel
   by_cases hlt : k < l.length
   ·obtain ⟨b, off, rfl, hb, hc⟩ := aN iR (by decide) (hr.below hbw) hlt
    have hc0 := hc 0 (vI l[k].f) rfl
    have hc1 := hc 1 (vI l[k].s) rfl
    simp only [vI, Nat.add_zero] at hc0 hc1
    go_wp2_with fail
    have h10 : (wr.alloc (.cells #[.int .i64 l[k].f, .int .i64 l[k].s] 55)).cell? ⟨wr.heap.size, 0, none⟩ = some (.int .i64 l[k].f) := by simp [go_sem]
    have h11 : (wr.alloc (.cells #[.int .i64 l[k].f, .int .i64 l[k].s] 55)).cell? ⟨wr.heap.size, 1, none⟩ = some (.int .i64 l[k].s) := by simp [go_sem]
    have hs1 : wr.heap.size < (wr.alloc (.cells #[.int .i64 l[k].f, .int .i64 l[k].s] 55)).heap.size := by simp
    have hb1 : Below w.heap.size w (wr.alloc (.cells #[.int .i64 l[k].f, .int .i64 l[k].s] 55)) := hbw.alloc hbw.size _
    clear hc hc0 hc1
    generalize wr.alloc (.cells #[.int .i64 l[k].f, .int .i64 l[k].s] 55) = w1 at *
    have hsucc := GU l k hlt
    rw [hok.out, Bool.true_and] at hsucc
    have HS := gO hsucc
    clear hsucc
    cases hck : tY l[k] with
    | false =>
     have hfalse : Hid (cO none l = false) := by
      rw [Hid, lT l none (k + 1), HS.out]
      simp [JD, hck]
     refine aS (by kernel_rfl) (by kernel_rfl) ?_
     repeat (first | go_big_quiet_step ((go_at_call 171; exact Calls.bP (pG l[k] _ hck))) | quiet_step ((go_at_call 171; exact Calls.bP (pG l[k] _ hck))))
     refine wpQuiet_nil ?_
     rintro _ ⟨wx, rfl⟩
     have hbx : Below w.heap.size w (ext w1 wx) := Below.step hb1 (aQ w1 wx)
     go_wp2
     go_ret
     exact ⟨aW (by rw [HE.out, hfalse.out]), hbx⟩
    | true =>
     by_cases hk0 : 0 < k
     ·have hd : decide (0 < (k : Int)) = true := decide_eq_true (by omega)
      have hkk : k - 1 < l.length := by omega
      have hsp := hs l[k - 1] (gL hkk)
      obtain ⟨b', off', e', hb', hc'⟩ := aN iR (by decide) (hr.below hb1) hkk
      obtain ⟨rfl, rfl⟩ : b = b' ∧ off = off' := by simpa using e'
      have hc0 := hc' 0 (vI l[k - 1].f) rfl
      have hc1 := hc' 1 (vI l[k - 1].s) rfl
      simp only [vI, Nat.add_zero] at hc0 hc1
      clear hc' e'
      have hi1 : 0 ≤ (k : Int) - 1 := by omega
      have hi2 : (k : Int) - 1 < (l.length : Int) := by omega
      have hi3 : ((k : Int) - 1).toNat = k - 1 := by omega
      have hi4 : IntKind.i64.wrap ((k : Int) - 1) = (k : Int) - 1 := IntWalk.i64_in _ (by omega)
      cases hp : decide (l[k].f ≤ l[k - 1].f + l[k - 1].s) with
      | true =>
       refine aS (by kernel_rfl) (by kernel_rfl) ?_
       repeat (first | go_big_quiet_step ((first | (go_at_call 171; exact Calls.bP (iI l[k] _ hck)) | (go_at_call 148; exact Calls.bP (nG l[k - 1] _ hsp)))) | quiet_step ((first | (go_at_call 171; exact Calls.bP (iI l[k] _ hck)) | (go_at_call 148; exact Calls.bP (nG l[k - 1] _ hsp)))))
       refine wpQuiet_nil ?_
       rintro _ ⟨wx, rfl⟩
       have hbx : Below w.heap.size w (ext w1 wx) := Below.step hb1 (aQ w1 wx)
       have hfalse : Hid (cO none l = false) := by
        have hp' := of_decide_eq_true hp
        rw [Hid, lT l none (k + 1), HS.out]
        have : JD l k l[k] = false := by
         unfold JD
         rw [hck, Bool.true_and, gJ hkk, Option.bind_some, if_neg (by omega)]
         exact decide_eq_false (by omega)
        rw [this, Bool.false_and]
       go_wp2
       go_ret
       exact ⟨aW (by rw [HE.out, hfalse.out]), hbx⟩
      | false =>
       have GV : Hid (cO none (l.take (k + 1)) = true) := by
        have hp' := of_decide_eq_false hp
        rw [Hid, HS.out]
        unfold JD
        rw [hck, Bool.true_and, gJ hkk, Option.bind_some, if_neg (by omega)]
        exact decide_eq_true (by omega)
       refine aS (by kernel_rfl) (by kernel_rfl) ?_
       repeat (first | go_big_quiet_step ((first | (go_at_call 171; exact Calls.bP (iI l[k] _ hck)) | (go_at_call 148; exact Calls.bP (nG l[k - 1] _ hsp)))) | quiet_step ((first | (go_at_call 171; exact Calls.bP (iI l[k] _ hck)) | (go_at_call 148; exact Calls.bP (nG l[k - 1] _ hsp)))))
       refine wpQuiet_nil ?_
       rintro _ ⟨wx, rfl⟩
       have hbx : Below w.heap.size w (ext w1 wx) := Below.step hb1 (aQ w1 wx)
       go_wp2
       go_roundw
       case rel => exact ⟨k + 1, by omega, by go_num, GV.out, hbx⟩
       case measure => simp [intOf]; omega
     ·have hd : decide (0 < (k : Int)) = false := decide_eq_false (by omega)
      have GV : Hid (cO none (l.take (k + 1)) = true) := by
       obtain rfl : k = 0 := by omega
       rw [Hid, HS.out]; unfold JD; rw [hck, Bool.true_and]
       cases l[0 - 1]? <;> rfl
      refine aS (by kernel_rfl) (by kernel_rfl) ?_
      repeat (first | go_big_quiet_step ((go_at_call 171; exact Calls.bP (iI l[k] _ hck))) | quiet_step ((go_at_call 171; exact Calls.bP (iI l[k] _ hck))))
      refine wpQuiet_nil ?_
      rintro _ ⟨wx, rfl⟩
      have hbx : Below w.heap.size w (ext w1 wx) := Below.step hb1 (aQ w1 wx)
      go_wp2
      go_roundw
      case rel => exact ⟨k + 1, by omega, by go_num, GV.out, hbx⟩
      case measure => simp [intOf]; omega
   ·obtain rfl : k = l.length := by omega
    have GV : Hid (cO none l = true) := by rw [List.take_of_length_le (Nat.le_refl _)] at hok; exact hok
    clear hok
    go_wp2
    go_ret
    exact ⟨aW (by rw [HE.out, GV.out]), hbw⟩
 ·have hb0 : decide (40 < (l.length : Int)) = true := decide_eq_true (by omega)
  have hE : Hid (dB l = false) := by unfold Hid dB; rw [decide_eq_false hlen, Bool.false_and]
  go_enter Tryz.func147, Tryz.ntmps147
  go_wp2
  go_ret
  exact ⟨aW hE.out.symm, Below.refl _ _⟩

theorem QY (a : Option Addr) (n cap : Nat) (l : List Rg) (w : World) (hn : l.length = n) (hl : n ≤ 9223372036854775807) (hr : Row w a (flat fJ l)) (hs : ∀ r ∈ l, r.small) (b : Bool) (hb : dB l = b) :
  Calls Tryz.prog 147 #[.slice a n cap] w fun e w' => e = .returned (.bool b) ∧ Below w.heap.size w w' := by
 subst hn; subst hb
 exact QX a cap l w hl hr hs

theorem vV (a1 a2 : Option Addr) (n1 n2 c1 c2 : Nat) (m r : List Rg) (w : World) (hn1 : m.length = n1) (hn2 : r.length = n2) (hl1 : n1 ≤ 9223372036854775807) (hl2 : n2 ≤ 9223372036854775807) (hr1 : Row w a1 (flat fJ m)) (hr2 : Row w a2 (flat fJ r)) (hs1 : ∀ x ∈ m, x.small) (hs2 : ∀ x ∈ r, x.small) (h1 : dB m = true) (h2 : dB r = true) :
  Calls Tryz.prog 100 #[.agg #[.slice a1 n1 c1, .slice a2 n2 c2]] w fun e w' => e = .returned (.int .i64 0) ∧ Below w.heap.size w w' := by
 have hal : Below w.heap.size w (w.alloc (.cells #[.slice a1 n1 c1, .slice a2 n2 c2] 27)) := aB _ _
 have hr1' := hr1.below hal
 have hr2' := hr2.below hal
 clear hr1 hr2
 go_enter Tryz.func100, Tryz.ntmps100
 go_wp2_with fail
 refine (QY _ _ _ m _ hn1 hl1 hr1' hs1 true h1).mono ?_
 rintro e w1 ⟨rfl, hb1⟩
 have B1 := OW hb1
 go_wp2_with fail
 refine (QY _ _ _ r _ hn2 hl2 (hr2'.below hb1) hs2 true h2).mono ?_
 rintro e w2 ⟨rfl, hb2⟩
 go_wp2
 go_ret
 exact ⟨rfl, Below.step hal (Below.step hb1 hb2)⟩
end
section
open Go.RowKit

def vB (b : Bool) : Value := .bool b
def bl (f : Nat → Bool) : List Bool := (List.range 256).map f
theorem jF (f : Nat → Bool) : (bl f).length = 256 := by simp [bl]
theorem qO {f g : Nat → Bool} (h : ∀ p, p < 256 → f p = g p) : bl f = bl g := List.map_congr_left fun p hp => h p (List.mem_range.1 hp)
theorem JE (f : Nat → Bool) (i : Nat) (h : i < 256) : (bl f)[i]? = some (f i) := by simp [bl, h]
theorem QZ (f : Nat → Bool) (i : Nat) (v : Bool) : (bl f).set i v = bl (fun p => if p = i then v else f p) := by
 apply List.ext_getElem?
 intro j
 rw [List.getElem?_set]
 by_cases hj : j < 256
 ·rw [JE _ j hj, JE _ j hj, jF]
  by_cases e : i = j
  ·subst e; simp [hj]
  ·rw [if_neg e, if_neg (fun h => e h.symm)]
 ·have h1 : (bl f)[j]? = none := List.getElem?_eq_none (by rw [jF]; omega)
  have h2 : (bl (fun p => if p = i then v else f p))[j]? = none := List.getElem?_eq_none (by rw [jF]; omega)
  rw [h1, h2, jF]
  split
  ·rw [if_neg (by omega)]
  ·rfl

def nH (r : Rg) (p : Nat) : Bool := decide (r.f ≤ (p : Int) ∧ (p : Int) < r.f + r.s)
def bW (l : List Rg) (p : Nat) : Bool := l.any fun r => nH r p

theorem GX {r : Rg} (h : tY r = true) : r.small := by
 have := jM h
 unfold Rg.small
 omega

theorem Aj : ∀ (l : List Rg) (p : Option Rg), cO p l = true → ∀ r ∈ l, tY r = true
 | [], _, _, r, hr => by simp at hr
 | x :: l, p, h, r, hr => by
  simp only [cO, Bool.and_eq_true] at h
  rcases List.mem_cons.1 hr with rfl | hr
  ·exact h.1.1
  ·exact Aj l (some x) h.2 r hr
theorem kV {l : List Rg} (h : dB l = true) : ∀ r ∈ l, tY r = true := by
 simp only [dB, Bool.and_eq_true] at h
 exact Aj l none h.2
theorem o8 {l : List Rg} (h : dB l = true) : ∀ r ∈ l, r.small := fun r hr => GX (kV h r hr)
theorem tZ {l : List Rg} (h : dB l = true) : l.length ≤ 40 := by
 simp only [dB, Bool.and_eq_true, decide_eq_true_eq] at h
 exact h.1

theorem Ob : (Tryz.prog.info? 4).map (fun i => (i.zero, i.size, i.bytes)) = some (some (.bool false), 1, 1) := by kernel_rfl
theorem Uo : (List.replicate 256 (Value.bool false)) = (bl fun _ => false).map vB := by
 rw [show (bl fun _ => false) = List.replicate 256 false from by decide +kernel, List.map_replicate]
 rfl

theorem Ak (l : List Rg) (k : Nat) (hk : k < l.length) (p : Nat) : bW (l.take (k + 1)) p = (bW (l.take k) p || nH l[k] p) := by
 unfold bW
 rw [List.take_succ_eq_append_getElem hk, List.any_append]
 simp

set_option maxRecDepth 100000 in
theorem CU (a : Option Addr) (n cap : Nat) (l : List Rg) (w : World) (hn : l.length = n) (hr : Row w a (flat fJ l)) (hok : ∀ r ∈ l, tY r = true) (hl : n ≤ 9223372036854775807) :
  Calls Tryz.prog 101 #[.slice a n cap] w fun e w' => ∃ a' c', e = .returned (.slice a' 256 c') ∧ w'.ownsRow w.heap.size 4 1 (.slice a' 256 c') 256 ((bl (bW l)).map vB) ∧ Below w.heap.size w w' := by
 subst hn
 obtain ⟨i0, hi, hz, hsize, hby⟩ := info_parts Ob
 go_enter Tryz.func101, Tryz.ntmps101
 go_wp2_with (at_make; refine wpList_make_full _ rfl _ _ 82 rfl w.heap.size 4 i0 (.bool false) 1 Tryz.underlying82 hi hz hsize .i64 .i64 _ _ 256 rfl rfl rfl rfl ?q1 ?q2 ?q3 ?_)
 case q1 => rw [hby]; omega
 case q2 => unfold maxLen; omega
 case q3 => exact Nat.le_refl _
 intro w1 hown hgrow
 rw [toList_madeCells_one, Uo] at hown
 have HO := gO hown
 have hbw := (Below.refl w.heap.size w).grown hgrow (Nat.le_refl _) (by simp)
 clear hown hgrow
 go_wp2
 go_loopw [5, 6, 10] (fun _ _ s10 wr => ∃ k : Nat, k ≤ l.length ∧ s10 = .int .i64 k ∧ Hid (wr.ownsRow w.heap.size 4 1 (.slice (some ⟨w.heap.size, 0, none⟩) 256 256) 256 ((bl (bW (l.take k))).map vB)) ∧ Below w.heap.size w wr) (fun _ _ s10 _ => l.length - (intOf s10).toNat)
 case atStart => exact ⟨0, Nat.zero_le _, rfl, HO, hbw⟩
 case round =>
  obtain ⟨k, hk, rfl, hown, hbw⟩ := hrel
  by_cases hlt : k < l.length
  ·obtain ⟨b, off, rfl, hb, hc⟩ := aN iR (by decide) (hr.below hbw) hlt
   have hc0 := hc 0 (vI l[k].f) rfl
   have hc1 := hc 1 (vI l[k].s) rfl
   simp only [vI, Nat.add_zero] at hc0 hc1
   have hck := hok l[k] (gL hlt)
   obtain ⟨g1, g2, g3, g4⟩ := jM hck
   have hsm := GX hck
   have hsucc := Ak l k hlt
   generalize hrr : l[k] = r at *
   clear hrr hok
   obtain ⟨f, s⟩ := r
   simp only at g1 g2 g3 g4 hc0 hc1
   obtain ⟨f, rfl⟩ := Int.eq_ofNat_of_zero_le g1
   obtain ⟨s, rfl⟩ := Int.eq_ofNat_of_zero_le (show (0 : Int) ≤ s by omega)
   have aAG := gO hsucc
   clear hsucc
   go_wp2
   have hb2 : Below w.heap.size w (wr.alloc (.cells #[.int .i64 (f : Int), .int .i64 (s : Int)] 55)) := hbw.alloc hbw.size _
   have B2 := bC wr #[.int .i64 (f : Int), .int .i64 (s : Int)] 55
   have hs2 : wr.heap.size < (wr.alloc (.cells #[.int .i64 (f : Int), .int .i64 (s : Int)] 55)).heap.size := by simp
   have HO2 := gO (own_below hown.out (aB wr (.cells #[.int .i64 (f : Int), .int .i64 (s : Int)] 55)) (Nat.le_refl _))
   have hne : w.heap.size < wr.heap.size := by
    obtain ⟨g, v, e, _, h, _⟩ := eF hown.out 0 (by simp [jF])
    obtain rfl : w.heap.size = g := by simpa using e
    exact h
   generalize wr.alloc (.cells #[.int .i64 (f : Int), .int .i64 (s : Int)] 55) = w2 at *
   generalize wr.heap.size = bb at *
   go_loopw [6] (fun s6 wq => ∃ i : Nat, f ≤ i ∧ i ≤ f + s ∧ s6 = .int .i64 i ∧ Hid (wq.ownsRow w.heap.size 4 1 (.slice (some ⟨w.heap.size, 0, none⟩) 256 256) 256 ((bl (fun p => bW (l.take k) p || (decide (f ≤ p) && decide (p < i)))).map vB)) ∧ Below w.heap.size w wq ∧ Hid (∀ o, wq.cell? ⟨bb, o, none⟩ = (#[.int .i64 (f : Int), .int .i64 (s : Int)] : Array Value)[o]?) ∧ bb < wq.heap.size) (fun s6 _ => 256 - (intOf s6).toNat)
   case atStart =>
    refine ⟨f, Nat.le_refl _, by omega, rfl, ?_, hb2, B2, hs2⟩
    rw [show bl (fun p => bW (l.take k) p || (decide (f ≤ p) && decide (p < f))) = bl (bW (l.take k)) from qO fun p _ => by
     have : (decide (f ≤ p) && decide (p < f)) = false := by
      by_cases h : f ≤ p
      ·rw [decide_eq_false (show ¬ p < f by omega), Bool.and_false]
      ·rw [decide_eq_false h, Bool.false_and]
     rw [this, Bool.or_false]]
    exact HO2
   case round =>
    obtain ⟨i, hi1, hi2, rfl, hown3, hb3, HB3, hs3⟩ := hrel
    have B3 := HB3.out
    clear B2 HO2 HO hs2 hb2
    by_cases Jc : i < f + s
    ·go_wp2_with fail
     refine (nG ⟨(f : Int), (s : Int)⟩ _ hsm).mono ?_
     rintro e w4 ⟨rfl, hb4⟩
     have B4 := aC B3 hs3 hb4
     have hown4 := own_below hown3.out hb4 (Nat.le_refl _)
     have hb5 := Below.step hb3 hb4
     have hs4 : bb < w4.heap.size := gI hs3 hb4.size
     obtain ⟨g, v, e, hg, hgs, hcg, hfg⟩ := eF hown4 i (by rw [List.length_map, jF]; omega)
     obtain rfl : w.heap.size = g := by simpa using e
     have HO4 := gO hown4
     clear B3 hown4 hown3 e
     go_wp2
     go_roundw
     case rel =>
      refine ⟨i + 1, by omega, by omega, by go_num, ?_, hb5.setCell (Nat.le_refl _) _, ?_, by simpa using hs4⟩
      ·have h := (World.ownsRow.stored HO4.out i (vB true)).1
       rw [← List.map_set, QZ] at h
       rw [show bl (fun p => bW (l.take k) p || (decide (f ≤ p) && decide (p < i + 1))) = bl (fun p => if p = i then true else bW (l.take k) p || (decide (f ≤ p) && decide (p < i))) from qO fun p _ => by
        by_cases e : p = i
        ·subst e
         rw [if_pos rfl, decide_eq_true hi1, decide_eq_true (Nat.lt_succ_self p)]; simp
        ·rw [if_neg e, decide_eq_decide.2 (show p < i + 1 ↔ p < i by omega)]]
       exact h
      ·intro o
       simp [go_sem, B4]
     case measure => simp [intOf]; omega
    ·obtain rfl : i = f + s := by omega
     go_wp2_with fail
     refine (nG ⟨(f : Int), (s : Int)⟩ _ hsm).mono ?_
     rintro e w4 ⟨rfl, hb4⟩
     have hb5 := Below.step hb3 hb4
     have hown4 := gO (own_below hown3.out hb4 (Nat.le_refl _))
     clear B3 hown3
     go_wp2
     go_roundw
     case rel =>
      refine ⟨k + 1, by omega, by go_num, ?_, hb5⟩
      rw [show bl (bW (l.take (k + 1))) = bl (fun p => bW (l.take k) p || (decide (f ≤ p) && decide (p < f + s))) from qO fun p _ => by
       rw [aAG.out p]
       congr 1
       unfold nH
       rw [← Bool.decide_and]
       exact decide_eq_decide.2 (by simp only; omega)]
      exact hown4.out
     case measure => simp [intOf]; omega
  ·obtain rfl : k = l.length := by omega
   rw [List.take_of_length_le (Nat.le_refl _)] at hown
   go_wp2
   go_ret
   exact ⟨_, _, rfl, hown.out, hbw⟩
end
section
def jP (l : List Rg) (i : Nat) : List Rg :=
 match l.getLast? with
 | some r => if r.f + r.s = i then l.dropLast ++ [⟨r.f, r.s + 1⟩] else l ++ [⟨i, 1⟩]
 | none => [⟨i, 1⟩]

def fB (f : Nat → Bool) : Nat → List Rg
 | 0 => []
 | i + 1 => if f i then jP (fB f i) i else fB f i

def dD (f : Nat → Bool) : List Rg := fB f 256

structure Es (f : Nat → Bool) (i : Nat) (l : List Rg) : Prop where
 chain : ∀ k (h : k + 1 < l.length), (l[k]'(by omega)).f + (l[k]'(by omega)).s < l[k + 1].f
 low : ∀ r ∈ l, 0 ≤ r.f ∧ 1 ≤ r.s ∧ r.f + r.s ≤ i
 mem : ∀ p, bW l p = (decide (p < i) && f p)

theorem qP (l m : List Rg) (p : Nat) : bW (l ++ m) p = (bW l p || bW m p) := by simp [bW]
theorem vW (r : Rg) (p : Nat) : bW [r] p = nH r p := by simp [bW]

theorem GY {f : Nat → Bool} {i : Nat} {l : List Rg} (h : Es f i l) (hf : f i = true) : Es f (i + 1) (jP l i) := by
 unfold jP
 rcases List.eq_nil_or_concat l with rfl | ⟨L, r, rfl⟩
 ·refine ⟨fun k hk => by simp at hk, fun r hr => ?_, fun p => ?_⟩
  ·simp only [List.getLast?_nil, List.mem_singleton] at hr; subst hr; simp only; omega
  ·have hm := h.mem p
   simp only [bW, List.any_nil] at hm
   show bW [⟨i, 1⟩] p = _
   rw [vW]
   unfold nH
   by_cases e : p = i
   ·subst e; simp [hf]; omega
   ·rw [decide_eq_false (by simp only; omega)]
    by_cases h1 : p < i
    ·rw [decide_eq_true h1, Bool.true_and] at hm; rw [← hm]; simp
    ·rw [decide_eq_false (by omega)]; simp
 ·simp only [List.concat_eq_append, List.getLast?_concat, List.dropLast_concat]
  rw [List.concat_eq_append] at h
  have hrl := h.low r (by simp)
  by_cases e : r.f + r.s = i
  ·rw [if_pos e]
   refine ⟨fun k hk => ?_, fun x hx => ?_, fun p => ?_⟩
   ·have hc := h.chain k (by simpa using hk)
    simp only [List.length_append, List.length_cons, List.length_nil] at hk
    by_cases hkl : k + 1 < L.length
    ·rw [List.getElem_append_left (by omega), List.getElem_append_left hkl] at hc ⊢; exact hc
    ·have e1 : ∀ (x : Rg) (h : k + 1 < (L ++ [x]).length), (L ++ [x])[k + 1] = x := fun x h => by rw [List.getElem_append_right (by omega)]; simp
     rw [List.getElem_append_left (by omega), e1] at hc ⊢
     exact hc
   ·rw [List.mem_append, List.mem_singleton] at hx
    rcases hx with hx | rfl
    ·have := h.low x (by simp [hx]); omega
    ·simp only; omega
   ·have hm := h.mem p
    rw [qP, vW] at hm ⊢
    by_cases ep : p = i
    ·subst ep
     rw [show nH ⟨r.f, r.s + 1⟩ p = true from decide_eq_true (by simp only; omega), hf]; simp
    ·rw [show nH ⟨r.f, r.s + 1⟩ p = nH r p from decide_eq_decide.2 (by simp only; omega), hm, decide_eq_decide.2 (show p < i ↔ p < i + 1 by omega)]
  ·rw [if_neg e]
   refine ⟨fun k hk => ?_, fun x hx => ?_, fun p => ?_⟩
   ·simp only [List.length_append, List.length_cons, List.length_nil] at hk
    by_cases hkl : k + 1 < (L ++ [r]).length
    ·rw [List.getElem_append_left (by omega), List.getElem_append_left hkl]; exact h.chain k hkl
    ·have hkk : k = L.length := by simp only [List.length_append, List.length_cons, List.length_nil] at hkl; omega
     subst hkk
     rw [List.getElem_append_left (by simp), List.getElem_append_right (by simp)]
     simp; omega
   ·rw [List.mem_append, List.mem_singleton] at hx
    rcases hx with hx | rfl
    ·have := h.low x hx; omega
    ·simp only; omega
   ·have hm := h.mem p
    rw [qP, hm, vW]
    unfold nH
    by_cases ep : p = i
    ·subst ep; simp [hf]; omega
    ·rw [decide_eq_false (show ¬ ((i : Int) ≤ (p : Int) ∧ (p : Int) < (i : Int) + 1) by omega), Bool.or_false, decide_eq_decide.2 (show p < i ↔ p < i + 1 by omega)]

theorem kW (f : Nat → Bool) : ∀ i, Es f i (fB f i)
 | 0 => ⟨fun k hk => by simp [fB] at hk, fun r hr => by simp [fB] at hr, fun p => by simp [fB, bW]⟩
 | i + 1 => by
  unfold fB
  have ih := kW f i
  cases hf : f i with
  | true => rw [if_pos rfl]; exact GY ih hf
  | false =>
   rw [if_neg (by simp)]
   refine ⟨ih.chain, fun r hr => by have := ih.low r hr; omega, fun p => ?_⟩
   rw [ih.mem]
   by_cases e : p = i
   ·subst e; simp [hf]
   ·rw [decide_eq_decide.2 (show p < i ↔ p < i + 1 by omega)]

theorem pI : ∀ (l : List Rg) (p : Option Rg), (∀ r ∈ l, tY r = true) → (∀ k (h : k + 1 < l.length), (l[k]'(by omega)).f + (l[k]'(by omega)).s < l[k + 1].f) → (∀ r q, l.head? = some r → p = some q → q.f + q.s < r.f) → cO p l = true
 | [], _, _, _, _ => rfl
 | r :: l, p, h1, h2, h3 => by
  unfold cO
  rw [h1 r (by simp), Bool.true_and]
  rw [pI l (some r) (fun x hx => h1 x (by simp [hx])) (fun k hk => h2 (k + 1) (by simpa using hk)) (fun x q hx hq => by
   obtain rfl : r = q := by simpa using hq
   cases l with
   | nil => simp at hx
   | cons y l =>
    obtain rfl : y = x := by simpa using hx
    exact h2 0 (by simp)), Bool.and_true]
  cases p with
  | none => rfl
  | some q => exact decide_eq_true (h3 r q rfl rfl)

theorem Et (f : Nat → Bool) : ∀ r ∈ dD f, tY r = true := fun r hr => by
 have := (kW f 256).low r hr
 exact decide_eq_true (by omega)
theorem qQ (f : Nat → Bool) : cO none (dD f) = true :=
 pI _ none (Et f) (kW f 256).chain (fun _ _ _ h => by cases h)
theorem Eu (f : Nat → Bool) (h : (dD f).length ≤ 40) : dB (dD f) = true := by
 unfold dB
 rw [decide_eq_true h, qQ, Bool.true_and]
theorem Bo (f : Nat → Bool) (p : Nat) (hp : p < 256) : bW (dD f) p = f p := by
 rw [dD, (kW f 256).mem p, decide_eq_true hp, Bool.true_and]
theorem Bq (f : Nat → Bool) (p : Nat) (hp : 256 ≤ p) : bW (dD f) p = false := by
 rw [dD, (kW f 256).mem p, decide_eq_false (by omega), Bool.false_and]
theorem yA {f g : Nat → Bool} : ∀ i, (∀ p, p < i → f p = g p) → fB f i = fB g i
 | 0, _ => rfl
 | i + 1, h => by
  unfold fB
  rw [h i (by omega), yA i fun p hp => h p (by omega)]
theorem pJ {f g : Nat → Bool} (h : ∀ p, p < 256 → f p = g p) : dD f = dD g := yA 256 h

def qR (f : Nat → Bool) (p : Nat) : Bool := f p && !(decide (0 < p) && f (p - 1))
def starts (f : Nat → Bool) : Nat → Nat
 | 0 => 0
 | i + 1 => starts f i + if qR f i then 1 else 0

theorem Ew (l : List Rg) (i : Nat) : ∃ r, (jP l i).getLast? = some r ∧ r.f + r.s = (i : Int) + 1 := by
 unfold jP
 split
 ·split
  ·rename_i r hr e
   exact ⟨_, List.getLast?_concat .., by simp only; omega⟩
  ·exact ⟨_, List.getLast?_concat .., rfl⟩
 ·exact ⟨_, rfl, rfl⟩

theorem Rf (f : Nat → Bool) (i : Nat) : (∃ r, (fB f i).getLast? = some r ∧ r.f + r.s = (i : Int)) ↔ (0 < i ∧ f (i - 1) = true) := by
 rcases i with _ | i
 ·simp [fB]
 ·rw [Nat.add_sub_cancel]
  unfold fB
  cases hf : f i with
  | true =>
   rw [if_pos rfl]
   obtain ⟨r, h1, h2⟩ := Ew (fB f i) i
   exact ⟨fun _ => ⟨by omega, rfl⟩, fun _ => ⟨r, h1, by omega⟩⟩
  | false =>
   rw [if_neg (by simp)]
   constructor
   ·rintro ⟨r, h1, h2⟩
    have := (kW f i).low r (List.mem_of_getLast? h1)
    omega
   ·rintro ⟨_, h⟩; cases h

theorem o9 (f : Nat → Bool) : ∀ i, (fB f i).length = starts f i
 | 0 => rfl
 | i + 1 => by
  have ih := o9 f i
  have hl := Rf f i
  unfold fB starts qR
  cases hf : f i with
  | false => rw [if_neg (by simp), ih, Bool.false_and]; rfl
  | true =>
   rw [if_pos rfl, Bool.true_and]
   unfold jP
   split
   ·rename_i r hr
    by_cases e : r.f + r.s = (i : Int)
    ·rw [if_pos e]
     obtain ⟨h0, h1⟩ := hl.1 ⟨r, hr, e⟩
     rw [h1, decide_eq_true h0]
     have hne : fB f i ≠ [] := by intro h; rw [h] at hr; cases hr
     have := List.length_pos_iff.2 hne
     simp [List.length_dropLast]; omega
    ·rw [if_neg e]
     have hn : ¬ (0 < i ∧ f (i - 1) = true) := fun h => by
      obtain ⟨r', h1, h2⟩ := hl.2 h
      rw [hr] at h1; obtain rfl : r = r' := by simpa using h1
      exact e h2
     have hb : (decide (0 < i) && f (i - 1)) = false := by
      by_cases h0 : 0 < i
      ·rw [decide_eq_true h0, Bool.true_and]
       cases h : f (i - 1) with
       | false => rfl
       | true => exact absurd ⟨h0, h⟩ hn
      ·rw [decide_eq_false h0, Bool.false_and]
     rw [hb, List.length_append, ih]; rfl
   ·rename_i hr
    rw [List.getLast?_eq_none_iff] at hr
    rw [hr] at ih hl
    have hn : ¬ (0 < i ∧ f (i - 1) = true) := fun h => by
     obtain ⟨r', h1, h2⟩ := hl.2 h
     cases h1
    have hb : (decide (0 < i) && f (i - 1)) = false := by
     by_cases h0 : 0 < i
     ·rw [decide_eq_true h0, Bool.true_and]
      cases h : f (i - 1) with
      | false => rfl
      | true => exact absurd ⟨h0, h⟩ hn
     ·rw [decide_eq_false h0, Bool.false_and]
    rw [hb, ← ih]; rfl

def upd (f : Nat → Bool) (a b : Nat) (v : Bool) (p : Nat) : Bool := if a ≤ p ∧ p < b then v else f p

theorem JF (f : Nat → Bool) (a b : Nat) (v : Bool) (hab : a < b) (p : Nat) : (if qR (upd f a b v) p then 1 else 0) ≤ (if qR f p then 1 else 0) + if p = (if v then a else b) then 1 else 0 := by
 have key : qR (upd f a b v) p = true → qR f p = true ∨ p = (if v then a else b) := by
  intro h
  unfold qR at h ⊢
  simp only [Bool.and_eq_true, Bool.not_eq_true', Bool.and_eq_false_iff, decide_eq_false_iff_not] at h ⊢
  obtain ⟨h1, h2⟩ := h
  unfold upd at h1 h2
  cases v with
  | true =>
   simp only [if_true] at h1 h2 ⊢
   by_cases hin : a ≤ p ∧ p < b
   ·by_cases e : p = a
    ·exact .inr e
    ·exfalso
     rw [if_pos (by omega)] at h2
     rcases h2 with h2 | h2
     ·omega
     ·cases h2
   ·rw [if_neg hin] at h1
    by_cases e : p = b
    ·exfalso
     rw [if_pos (by omega)] at h2
     rcases h2 with h2 | h2
     ·omega
     ·cases h2
    ·left
     refine ⟨h1, ?_⟩
     by_cases h0 : 0 < p
     ·rw [if_neg (by omega)] at h2; exact h2
     ·exact .inl h0
  | false =>
   simp only [Bool.false_eq_true, if_false] at h1 h2 ⊢
   by_cases hin : a ≤ p ∧ p < b
   ·rw [if_pos hin] at h1; cases h1
   ·rw [if_neg hin] at h1
    by_cases e : p = b
    ·exact .inr e
    ·left
     refine ⟨h1, ?_⟩
     by_cases h0 : 0 < p
     ·rw [if_neg (by omega)] at h2; exact h2
     ·exact .inl h0
 cases hs : qR (upd f a b v) p with
 | false => simp
 | true =>
  rcases key hs with h | h
  ·rw [h]; simp
  ·rw [if_pos h]; simp

theorem Am (f : Nat → Bool) (a b : Nat) (v : Bool) (hab : a < b) : ∀ n, starts (upd f a b v) n ≤ starts f n + if (if v then a else b) < n then 1 else 0
 | 0 => by simp [starts]
 | n + 1 => by
  have ih := Am f a b v hab n
  have h := JF f a b v hab n
  unfold starts
  generalize (if v then a else b) = c at *
  by_cases h1 : n = c
  ·subst h1
   have e1 : (if n < n then 1 else 0 : Nat) = 0 := if_neg (by omega)
   have e2 : (if n < n + 1 then 1 else 0 : Nat) = 1 := if_pos (by omega)
   rw [e1] at ih
   rw [if_pos rfl] at h
   rw [e2]; omega
  ·rw [if_neg h1] at h
   by_cases h2 : c < n
   ·have e1 : (if c < n then 1 else 0 : Nat) = 1 := if_pos h2
    have e2 : (if c < n + 1 then 1 else 0 : Nat) = 1 := if_pos (by omega)
    rw [e1] at ih; rw [e2]; omega
   ·have e1 : (if c < n then 1 else 0 : Nat) = 0 := if_neg h2
    have e2 : (if c < n + 1 then 1 else 0 : Nat) = 0 := if_neg (by omega)
    rw [e1] at ih; rw [e2]; omega

theorem JG (c : Prop) [Decidable c] : (if c then 1 else 0 : Nat) ≤ 1 := by split <;> omega

theorem nI (f : Nat → Bool) (a b : Nat) (v : Bool) (hab : a < b) : (dD (upd f a b v)).length ≤ (dD f).length + 1 := by
 unfold dD
 rw [o9, o9]
 have h1 := Am f a b v hab 256
 have h2 := JG ((if v then a else b) < 256)
 omega

theorem pF : ∀ (l : List Rg) (q : Rg), cO (some q) l = true → ∀ r ∈ l, q.f + q.s < r.f
 | [], _, _, r, hr => by simp at hr
 | x :: l, q, h, r, hr => by
  simp only [cO, Bool.and_eq_true] at h
  have hx : q.f + q.s < x.f := of_decide_eq_true h.1.2
  rcases List.mem_cons.1 hr with rfl | hr
  ·exact hx
  ·have h1 := pF l x h.2 r hr
   have h2 := jM h.1.1
   omega

theorem jD (l : List Rg) (p : Nat) : bW l p = true ↔ ∃ r ∈ l, r.f ≤ (p : Int) ∧ (p : Int) < r.f + r.s := by
 unfold bW nH
 simp [List.any_eq_true]

theorem CV : ∀ (l m : List Rg) (q q' : Option Rg), cO q l = true → cO q' m = true → (∀ p, bW l p = bW m p) → l = m
 | [], [], _, _, _, _, _ => rfl
 | [], y :: m, _, q', _, h2, h => by
  simp only [cO, Bool.and_eq_true] at h2
  have hy := jM h2.1.1
  obtain ⟨n, hn⟩ := Int.eq_ofNat_of_zero_le hy.1
  have : bW (y :: m) n = true := (jD _ _).2 ⟨y, by simp, by omega, by omega⟩
  rw [← h n] at this
  simp [bW] at this
 | x :: l, [], q, _, h1, _, h => by
  simp only [cO, Bool.and_eq_true] at h1
  have hy := jM h1.1.1
  obtain ⟨n, hn⟩ := Int.eq_ofNat_of_zero_le hy.1
  have : bW (x :: l) n = true := (jD _ _).2 ⟨x, by simp, by omega, by omega⟩
  rw [h n] at this
  simp [bW] at this
 | x :: l, y :: m, q, q', h1, h2, h => by
  simp only [cO, Bool.and_eq_true] at h1 h2
  obtain ⟨⟨hx, _⟩, hl⟩ := h1
  obtain ⟨⟨hy, _⟩, hm⟩ := h2
  have px := jM hx
  have py := jM hy
  have lx := pF l x hl
  have ly := pF m y hm
  have lower : ∀ (z : Rg) (t : List Rg), 1 ≤ z.s → (∀ r ∈ t, z.f + z.s < r.f) → ∀ p : Nat, bW (z :: t) p = true → z.f ≤ p := fun z t hz ht p hp => by
   obtain ⟨r, hr, h3, h4⟩ := (jD _ _).1 hp
   rcases List.mem_cons.1 hr with rfl | hr
   ·exact h3
   ·have := ht r hr; omega
  obtain ⟨n, hn⟩ := Int.eq_ofNat_of_zero_le px.1
  obtain ⟨n', hn'⟩ := Int.eq_ofNat_of_zero_le py.1
  have e1 : y.f ≤ x.f := by
   have : bW (x :: l) n = true := (jD _ _).2 ⟨x, by simp, by omega, by omega⟩
   rw [h n] at this
   have := lower y m py.2.1 ly n this; omega
  have e2 : x.f ≤ y.f := by
   have : bW (y :: m) n' = true := (jD _ _).2 ⟨y, by simp, by omega, by omega⟩
   rw [← h n'] at this
   have := lower x l px.2.1 lx n' this; omega
  have ef : x.f = y.f := by omega
  have gap : ∀ (z z' : Rg) (t t' : List Rg), z.f = z'.f → 0 ≤ z.f → 1 ≤ z.s → (∀ r ∈ t, z.f + z.s < r.f) → (∀ p, bW (z :: t) p = bW (z' :: t') p) → ¬ z.s < z'.s := fun z z' t t' hf h0 hs ht hpp hlt => by
   obtain ⟨k, hk⟩ := Int.eq_ofNat_of_zero_le (show 0 ≤ z.f + z.s by omega)
   have h3 : bW (z' :: t') k = true := (jD _ _).2 ⟨z', by simp, by omega, by omega⟩
   rw [← hpp k] at h3
   obtain ⟨r, hr, h4, h5⟩ := (jD _ _).1 h3
   rcases List.mem_cons.1 hr with rfl | hr
   ·omega
   ·have := ht r hr; omega
  have es : x.s = y.s := by
   have g1 := gap x y l m ef px.1 px.2.1 lx h
   have g2 := gap y x m l ef.symm py.1 py.2.1 ly (fun p => (h p).symm)
   omega
  have exy : x = y := by
   obtain ⟨a, b⟩ := x; obtain ⟨c, d⟩ := y
   simp only at ef es; rw [ef, es]
  subst exy
  congr 1
  refine CV l m (some x) (some x) hl hm fun p => ?_
  have hp := h p
  by_cases hin : x.f ≤ (p : Int) ∧ (p : Int) < x.f + x.s
  ·have n1 : bW l p = false := by
    rw [Bool.eq_false_iff]; intro hh
    obtain ⟨r, hr, h4, h5⟩ := (jD _ _).1 hh
    have := lx r hr; omega
   have n2 : bW m p = false := by
    rw [Bool.eq_false_iff]; intro hh
    obtain ⟨r, hr, h4, h5⟩ := (jD _ _).1 hh
    have := ly r hr; omega
   rw [n1, n2]
  ·have n0 : nH x p = false := decide_eq_false hin
   simp only [bW, List.any_cons] at hp ⊢
   rw [n0, Bool.false_or, Bool.false_or] at hp
   exact hp

theorem Ap {l : List Rg} (h : dB l = true) : l = dD (bW l) := by
 have hall := kV h
 simp only [dB, Bool.and_eq_true] at h
 refine CV l _ none none h.2 (qQ _) fun p => ?_
 by_cases hp : p < 256
 ·rw [Bo _ p hp]
 ·rw [Bq _ p (by omega), Bool.eq_false_iff]
  intro hh
  obtain ⟨r, hr, h4, h5⟩ := (jD _ _).1 hh
  have := jM (hall r hr)
  omega
end
end Go.Proofs.YtcmpmobhongkiaaGreatDoor
