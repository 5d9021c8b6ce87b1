/- texts of this claim, joined. -/
import Derived.Test.YtcmpmobhongkiaaGreatDoorCM0
import Derived.Test.YtcmpmobhongkiaaGreatDoorCM13
import Derived.Test.YtcmpmobhongkiaaGreatDoorCM16
import Derived.Test.YtcmpmobhongkiaaGreatDoorCM19
import Derived.Test.YtcmpmobhongkiaaGreatDoorCM9
import Derived.Maps.OwnOps
set_option linter.unusedVariables false
set_option linter.unusedSimpArgs false
namespace Go.Proofs.YtcmpmobhongkiaaGreatDoor
section
open Go.RowKit

def encI (t : Int) : List Value := [vI t]
theorem qF (t : Int) : (encI t).length = 1 := rfl
theorem IG {w : World} {g o : Nat} {r : Int} (hc : ∀ i v, (encI r)[i]? = some v → w.cell? ⟨g, o + i, none⟩ = some v) : w.cell? ⟨g, o, none⟩ = some (.int .i64 r) := hc 0 _ rfl
theorem kR (l : List Int) : flat encI l = l.map vI := by
 induction l with
 | nil => rfl
 | cons x l ih => rw [dG, ih]; rfl
theorem II (a : Option Addr) (n cap : Nat) (l : List Int) (g : Nat) (lb : Array Value) (p : Int → Bool) (w : World) (hn : l.length = n) (hl : n ≤ 9223372036854775807) (hr : Row w a (flat encI l)) (eg : ∀ args w, (callFunc g args).run Tryz.prog w = .ok (.enter g args) w)
  (hp : ∀ W, Below w.heap.size w W → ∀ x ∈ l, Calls Tryz.prog g (#[.int .i64 x] ++ lb) W fun e w' => e = .returned (.bool (p x)) ∧ Below W.heap.size W w') :
  Calls Tryz.prog 156 #[.slice a n cap, .func (.func g) #[] lb] w fun e w' => e = .returned (.int .i64 (bZ p l)) ∧ Below w.heap.size w w' := by
 subst hn
 go_enter Tryz.func156, Tryz.ntmps156
 go_wp2
 go_loopw [5, 8] (fun _ s8 wr => ∃ k : Nat, k ≤ l.length ∧ s8 = .int .i64 k ∧ Hid (∀ x ∈ l.take k, p x = false) ∧ Below w.heap.size w wr) (fun _ s8 _ => l.length - (intOf s8).toNat)
 case atStart => exact ⟨0, Nat.zero_le _, rfl, by simp [Hid], Below.refl _ _⟩
 case round =>
  obtain ⟨k, hk, rfl, hnot, hbw⟩ := hrel
  by_cases hlt : k < l.length
  ·obtain ⟨b, off, rfl, hb, hc⟩ := aN qF (by decide) (hr.below hbw) hlt
   obtain hc0 := IG hc
   rw [Nat.mul_one] at hc0
   have hcall := hp wr hbw l[k] (gL hlt)
   clear hr hp hc
   cases hv : p l[k] with
   | true =>
    have HH := gO (kP hlt hv hnot.out)
    rw [hv] at hcall
    generalize l[k] = y at *
    go_wp2_with (go_at_fn g; refine hcall.mono ?_; rintro e w' ⟨rfl, hb'⟩)
    go_ret
    exact ⟨dK HH.out.symm, Below.step hbw hb'⟩
   | false =>
    rw [hv] at hcall
    have HH : Hid (∀ x ∈ l.take (k + 1), p x = false) := fun x hx => by
     rw [List.take_succ_eq_append_getElem hlt, List.mem_append, List.mem_singleton] at hx
     rcases hx with hx | rfl
     ·exact hnot.out x hx
     ·exact hv
    generalize l[k] = y at *
    go_wp2_with (go_at_fn g; refine hcall.mono ?_; rintro e w' ⟨rfl, hb'⟩)
    go_roundw
    case rel => exact ⟨k + 1, by omega, by go_num, HH.out, Below.step hbw hb'⟩
    case measure => simp [intOf]; omega
  ·obtain rfl : k = l.length := by omega
   go_wp2
   go_ret
   exact ⟨dK (jQ (by simpa [Hid] using hnot)).symm, hbw⟩

theorem AV (a : Option Addr) (n cap : Nat) (l : List Int) (g : Nat) (lb : Array Value) (p : Int → Bool) (w : World) (hn : l.length = n) (hl : n ≤ 9223372036854775807) (hr : Row w a (flat encI l)) (eg : ∀ args w, (callFunc g args).run Tryz.prog w = .ok (.enter g args) w)
  (hp : ∀ W, Below w.heap.size w W → ∀ x ∈ l, Calls Tryz.prog g (#[.int .i64 x] ++ lb) W fun e w' => e = .returned (.bool (p x)) ∧ Below W.heap.size W w') :
  Calls Tryz.prog 110 #[.slice a n cap, .func (.func g) #[] lb] w fun e w' => e = .returned (.bool (l.any p)) ∧ Below w.heap.size w w' := by
 go_enter Tryz.func110, Tryz.ntmps110
 go_wp2_with (go_at_call 156; refine (II _ _ _ l _ _ p _ hn hl hr eg hp).mono ?_; rintro e w' ⟨rfl, hb'⟩)
 go_ret
 exact ⟨aW (fO p l), hb'⟩


set_option maxRecDepth 100000 in
theorem Kv (y : Cc) (p : Int) (w : World) (hy : IB w y) (hn : y.n2 ≤ 1000000) (hs : ∀ x ∈ y.c.sl, x.p ≤ 1000000) (hp : -1000000 ≤ p ∧ p ≤ 1000000) :
  Calls Tryz.prog 131 #[.agg #[.slice y.a1 y.n1 y.c1, .int .i64 y.c.z, .int .i64 y.c.r, .int .i64 y.c.o, .slice y.a2 y.n2 y.c2, .slice y.a3 y.n3 y.c3], .int .i64 p] w fun ev w' => ev = .returned (.int .i64 (bZ (fun x => decide ((x.p : Int) = p)) y.c.sl)) ∧ Below w.heap.size w w' := by
 have eg : ∀ args w, (callFunc 166 args).run Tryz.prog w = .ok (.enter 166 args) w := enters_of Tryz.func166 (by kernel_rfl) rfl
 have hb1 := aB w (.cells #[.slice y.a1 y.n1 y.c1, .int .i64 (y.c.z : Int), .int .i64 (y.c.r : Int), .int .i64 (y.c.o : Int), .slice y.a2 y.n2 y.c2, .slice y.a3 y.n3 y.c3] 94)
 obtain ⟨K1, K2, F1, F2, hsz, hbw⟩ := boxes2 w #[.slice y.a1 y.n1 y.c1, .int .i64 (y.c.z : Int), .int .i64 (y.c.r : Int), .int .i64 (y.c.o : Int), .slice y.a2 y.n2 y.c2, .slice y.a3 y.n3 y.c3] 94 #[.int .i64 p] 3
 have k4 := K1 4
 have p0 := K2 0
 simp only [gB, gC, gD] at k4 p0
 have HC := gO (qE y.a2 y.n2 y.c2 y.c.sl 166 #[.pointer (some ⟨w.heap.size + 1, 0, none⟩)] (fun x => decide ((x.p : Int) = p)) _ hy.l2 (by omega) (hy.r2.below hbw) eg (fun W hW x hx => Pm x p (w.heap.size + 1) W (hs x hx) hp (gI hsz hW.size) ((hW.cell (p := ⟨w.heap.size + 1, 0, none⟩) hsz).trans p0)))
 have HB := gO hbw
 clear eg hb1 K1 K2 F1 F2 hbw hy hs
 go_enter Tryz.func131, Tryz.ntmps131
 go_wp2_with (go_at_call 125; refine HC.out.mono ?_; rintro e w' ⟨rfl, hb'⟩)
 go_ret
 exact ⟨rfl, Below.step HB.out hb'⟩

set_option maxRecDepth 100000 in
set_option maxHeartbeats 4000000 in
theorem ML (y : Cc) (x : Sl) (a : Int) (B C : Nat) (W : World) (hz : 1 ≤ y.c.z) (hrz : y.c.r * y.c.z ≤ 100000) (hp : x.p ≤ 1000) (ha1 : -1000000000000 ≤ a) (ha2 : a ≤ 1000000000000)
  (hB : B < W.heap.size) (hC : C < W.heap.size) (kB : ∀ o, W.cell? ⟨B, o, none⟩ = (#[.slice y.a1 y.n1 y.c1, .int .i64 (y.c.z : Int), .int .i64 (y.c.r : Int), .int .i64 (y.c.o : Int), .slice y.a2 y.n2 y.c2, .slice y.a3 y.n3 y.c3] : Array Value)[o]?) (kC : ∀ o, W.cell? ⟨C, o, none⟩ = (#[.int .i64 (x.p : Int), .int .i64 (x.n : Int), .int .i64 x.h] : Array Value)[o]?) :
  Calls Tryz.prog 141 (#[.int .i64 a] ++ #[.pointer (some ⟨B, 0, none⟩), .pointer (some ⟨C, 0, none⟩)]) W fun ev w' => ev = .returned (.bool (!iM y.c x.p a)) ∧ Below W.heap.size W w' := by
 show Calls Tryz.prog 141 #[.int .i64 a, .pointer (some ⟨B, 0, none⟩), .pointer (some ⟨C, 0, none⟩)] W _
 have b0 := kB 0
 have b1 := kB 1
 have b2 := kB 2
 have b3 := kB 3
 have b4 := kB 4
 have b5 := kB 5
 have c0 := kC 0
 simp only [gB, gC, gD] at b0 b1 b2 b3 b4 b5 c0
 have HC := gO (yU y.c y.a1 y.a2 y.a3 y.n1 y.c1 y.n2 y.c2 y.n3 y.c3 x.p a W hz hrz hp ha1 ha2)
 clear kB kC
 go_enter Tryz.func141, Tryz.ntmps141
 go_wp2_with (go_at_call 90; refine HC.out.mono ?_; rintro e w' ⟨rfl, hb'⟩)
 go_ret
 exact ⟨rfl, hb'⟩
end
section
open Go.RowKit

structure Sc where
 a1 : Option Addr
 n1 : Nat
 c1 : Nat
 hc : Hc
 a2 : Option Addr
 c2 : Nat
 ys : List Cc
structure rP (w : World) (v : Sc) (s : Sy) : Prop where
 lw : s.w.length = v.n1
 rw : Row w v.a1 (s.w.map vI)
 hh : HAt w v.hc.az v.hc.am v.hc.al v.hc.av v.hc.lc.length s.h.live.length v.hc.y0 v.hc.y1 v.hc.lc s.h
 rc : Row w v.a2 (flat bV v.ys)
 cy : v.ys.map (·.c) = s.cs
 ca : ∀ y ∈ v.ys, IB w y
 kw : v.n1 ≤ v.c1
 kc : v.ys.length ≤ v.c2
theorem rP.below {w w' : World} {v : Sc} {s : Sy} (h : rP w v s) (hb : Below w.heap.size w w') : rP w' v s := ⟨h.lw, h.rw.below hb, h.hh.below hb, h.rc.below hb, h.cy, fun y hy => (h.ca y hy).below hb, h.kw, h.kc⟩
def Sc.vals (v : Sc) (s : Sy) : Array Value := #[.slice v.a1 v.n1 v.c1, .slice v.hc.az 2 v.hc.cz, .slice v.hc.am 2 v.hc.cm, .int .i64 (s.h.aF : Int), .slice v.hc.al v.hc.lc.length v.hc.cl, .slice v.hc.av s.h.live.length v.hc.cv, .slice v.a2 v.ys.length v.c2]

set_option maxHeartbeats 8000000 in
set_option maxRecDepth 100000 in
theorem zJ (a1 az am al av a2 : Option Addr) (n1 c1 cz cm nl cl nv cv n2 c2 : Nat) (aF : Int) (xs : List Int) (y : Cc) (x : Sl) (l : List Int) (w : World) (hn : xs.length = n1) (hn4 : n1 ≤ 4096) (hr : Row w a1 (xs.map vI))
  (hz : 1 ≤ y.c.z) (hrz : y.c.r * y.c.z ≤ 100000) (hp : x.p ≤ 1000) (hf : follow xs x.h y.c.r = some l) (hl : l.length = x.n) (ho : ∀ a ∈ l, iM y.c x.p a = true) (hlb : ∀ a ∈ l, 0 ≤ a ∧ a ≤ 1000000) (hxn : x.n ≤ 1000000) :
  Calls Tryz.prog 91 #[.agg #[.slice a1 n1 c1, .slice az 2 cz, .slice am 2 cm, .int .i64 aF, .slice al nl cl, .slice av nv cv, .slice a2 n2 c2], .agg #[.slice y.a1 y.n1 y.c1, .int .i64 y.c.z, .int .i64 y.c.r, .int .i64 y.c.o, .slice y.a2 y.n2 y.c2, .slice y.a3 y.n3 y.c3], .agg #[.int .i64 x.p, .int .i64 x.n, .int .i64 x.h]] w fun ev w' => ∃ (a' : Option Addr) (c' : Nat), ev = .returned (.tuple #[.slice a' l.length c', .bool true]) ∧ Row w' a' (l.map vI) ∧ Below w.heap.size w w' := by
 obtain ⟨K0, K1, K2, F0, F1, F2, hsz, hbw⟩ := boxes3 w #[.slice a1 n1 c1, .slice az 2 cz, .slice am 2 cm, .int .i64 aF, .slice al nl cl, .slice av nv cv, .slice a2 n2 c2] 47 #[.slice y.a1 y.n1 y.c1, .int .i64 (y.c.z : Int), .int .i64 (y.c.r : Int), .int .i64 (y.c.o : Int), .slice y.a2 y.n2 y.c2, .slice y.a3 y.n3 y.c3] 94 #[.int .i64 (x.p : Int), .int .i64 (x.n : Int), .int .i64 x.h] 137
 have eg : ∀ args w, (callFunc 141 args).run Tryz.prog w = .ok (.enter 141 args) w := enters_of Tryz.func141 (by kernel_rfl) rfl
 have k0 := K0 0
 have k1 := K1 2
 have k2 := K2 1
 have k3 := K2 2
 simp only [gB, gC, gD] at k0 k1 k2 k3
 have HR := gO (hr.below hbw)
 have HB := gO hbw
 have HEG := gO eg
 have HK1 := gO K1
 have HK2 := gO K2
 have HO := gO ho
 have HLB := gO hlb
 clear hr hbw eg K0 K1 K2 F0 F1 F2 ho hlb
 go_enter Tryz.func91, Tryz.ntmps91
 go_wp2_with fail
 generalize ((w.alloc (.cells #[.slice a1 n1 c1, .slice az 2 cz, .slice am 2 cm, .int .i64 aF, .slice al nl cl, .slice av nv cv, .slice a2 n2 c2] 47)).alloc (.cells #[.slice y.a1 y.n1 y.c1, .int .i64 (y.c.z : Int), .int .i64 (y.c.r : Int), .int .i64 (y.c.o : Int), .slice y.a2 y.n2 y.c2, .slice y.a3 y.n3 y.c3] 94)).alloc (.cells #[.int .i64 (x.p : Int), .int .i64 (x.n : Int), .int .i64 x.h] 137) = w3 at *
 refine (EW a1 n1 c1 xs x.h y.c.r w3 hn (by omega) HR.out l hf).mono ?_
 rintro ev w4 ⟨a', c', rfl, hown, hb4⟩
 have HRL := gO (aY hown)
 have K14 := aC HK1.out (by omega) hb4
 have K24 := aC HK2.out hsz hb4
 have oH := gI hsz hb4.size
 have n4 := K24 1
 simp only [gB, gC, gD] at n4
 have HB4 := gO (Below.step HB.out hb4)
 have hcont := AV a' l.length c' l 141 #[.pointer (some ⟨w.heap.size + 1, 0, none⟩), .pointer (some ⟨w.heap.size + 1 + 1, 0, none⟩)] (fun a => !iM y.c x.p a) w4 rfl (by omega) (by rw [kR]; exact HRL.out) HEG.out (fun W hW a ha => ML y x a (w.heap.size + 1) (w.heap.size + 1 + 1) W hz hrz hp (by have := HLB.out a ha; omega) (by have := HLB.out a ha; omega) (by have := hW.size; omega) (gI oH hW.size) (aC K14 (by omega) hW) (aC K24 oH hW))
 have hany : (l.any fun a => !iM y.c x.p a) = false := by
  rw [List.any_eq_false]
  intro a ha
  rw [HO.out a ha]
  decide
 rw [hany] at hcont
 have HC := gO hcont
 have hln : ((l.length : Int) == (x.n : Int)) = true := by rw [beq_iff_eq, hl]
 have aGn : ((l.length : Int) != (x.n : Int)) = false := by rw [hl]; simp
 have HL := gO hl
 have aGo : l.length ≤ 1000000 := by omega
 clear hcont hany K14 K24 hown k0 k1 k2 k3 hb4 hl
 go_wp2_with (go_at_call 110; refine HC.out.mono ?_; rintro ev w5 ⟨rfl, hb5⟩)
 have HB5 := gO (Below.step HB4.out hb5)
 have HRL5 := gO (HRL.out.below hb5)
 go_ret2
 exact ⟨a', c', rfl, HRL5.out, HB5.out⟩
end
section
open Go.RowKit

theorem zW (k : Nat) (w : World) (h1 : 1 ≤ k) (h2 : k ≤ 64) :
  Calls Tryz.prog 70 #[.int .i64 k] w fun e w' => e = .returned (.tuple #[.int .i64 (dV k : Nat), .int .i64 (eY k : Nat), .int .i64 0]) ∧ w = w' := by
 have e16 : ((16 / k : Nat) : Int) = 16 / (k : Int) := by simp
 have e32 : ((32 / k : Nat) : Int) = 32 / (k : Int) := by simp
 have e64 : ((64 / k : Nat) : Int) = 64 / (k : Int) := by simp
 by_cases h3 : 4 ≤ 16 / k
 ·have hO : dV k = 0 := by unfold dV; rw [if_pos h3]
  have hN : eY k = 16 / k := by unfold eY; rw [hO]
  rw [hO, hN, e16]
  exact OD k w (by omega) (by omega) (by omega)
 ·by_cases h4 : 4 ≤ 32 / k
  ·have hO : dV k = 1 := by unfold dV; rw [if_neg h3, if_pos h4]
   have hN : eY k = 32 / k := by unfold eY; rw [hO]
   rw [hO, hN, e32]
   exact OE k w (by omega) (by omega) (by omega) (by omega)
  ·have hO : dV k = 2 := by unfold dV; rw [if_neg h3, if_neg h4]
   have hN : eY k = 64 / k := by unfold eY; rw [hO]
   rw [hO, hN, e64]
   exact OG k w (by omega) (by omega) (by omega) (by omega)

theorem CJ (b : Bk) (p : Nat) (w : World) (ha : b.a ≤ 1000) (hp : p ≤ 1000) :
  Calls Tryz.prog 130 #[.agg #[.int .i64 b.a, .int .i64 b.o, .int .i64 b.t], .int .i64 p] w fun e w' => e = .returned (.int .i64 ((b.a : Int) - p)) ∧ Below w.heap.size w w' := by
 go_enter Tryz.func130, Tryz.ntmps130
 go_wp2
 go_ret
 exact ⟨rfl, aB _ _⟩

set_option maxRecDepth 100000 in
theorem Ef (a : Option Addr) (n cap : Nat) (l : List Bk) (p : Nat) (w : World) (hn : l.length = n) (hl : n ≤ 1000) (hr : Row w a (flat aO l)) (hrise : pK l) (ha : ∀ b ∈ l, b.a ≤ 1000) (hp : p ≤ 1000) :
  Calls Tryz.prog 114 #[.slice a n cap, .int .i64 p, .func (.func 130) #[] #[]] w fun e w' => e = .returned (.tuple #[.int .i64 (lb l p : Int), .bool (hasB l p)]) ∧ Below w.heap.size w w' := by
 subst hn
 have hle := jZ l p
 have eg : ∀ args w, (callFunc 130 args).run Tryz.prog w = .ok (.enter 130 args) w := enters_of Tryz.func130 (by kernel_rfl) rfl
 go_enter Tryz.func114, Tryz.ntmps114
 go_wp2
 go_loopw [9, 10, 11] (fun s9 s10 _ wr => ∃ i j : Nat, i ≤ lb l p ∧ lb l p ≤ j ∧ j ≤ l.length ∧ s9 = .int .i64 i ∧ s10 = .int .i64 j ∧ Below w.heap.size w wr) (fun s9 s10 _ _ => (intOf s10).toNat - (intOf s9).toNat)
 case atStart => exact ⟨0, l.length, Nat.zero_le _, hle, Nat.le_refl _, rfl, rfl, Below.refl _ _⟩
 case round =>
  obtain ⟨i, j, h1, h2, h3, rfl, rfl, hb3⟩ := hrel
  by_cases hlt : i < j
  ·have Kr : (i + j) / 2 < l.length := by omega
   have hiff := gO (Iw hrise (a := p) Kr)
   obtain ⟨b, off, rfl, hb, hc⟩ := aN aI (by decide) (hr.below hb3) Kr
   obtain ⟨hc0, hc1, hc2⟩ := bK hc
   have hal := ha _ (gL Kr)
   clear hr hc
   generalize l[(i + j) / 2] = y at *
   go_wp2_with fail
   refine (CJ y p _ hal hp).mono ?_
   rintro e w1 ⟨rfl, hb1⟩
   have hb4 := Below.step hb3 hb1
   clear hc0 hc1 hc2
   by_cases hlt2 : y.a < p
   ·have h4 := hiff.out.2 hlt2
    have h5 : (y.a : Int) - p < 0 := by omega
    go_wp2
    go_roundw
    case rel => exact ⟨(i + j) / 2 + 1, j, by omega, h2, h3, by go_num, rfl, hb4⟩
    case measure => simp [intOf]; omega
   ·have h4 : ¬ (i + j) / 2 < lb l p := fun h => hlt2 (hiff.out.1 h)
    have h5 : ¬ (y.a : Int) - p < 0 := by omega
    go_wp2
    go_roundw
    case rel => exact ⟨i, (i + j) / 2, h1, by omega, by omega, rfl, by go_num, hb4⟩
    case measure => simp [intOf]; omega
  ·obtain rfl : i = lb l p := by omega
   have hkk : (lb l p : Int) ≤ l.length := by omega
   by_cases hk : lb l p < l.length
   ·obtain ⟨b, off, rfl, hb, hc⟩ := aN aI (by decide) (hr.below hb3) hk
    obtain ⟨hc0, hc1, hc2⟩ := bK hc
    have hal := ha _ (gL hk)
    have hat := gO (uM hrise (a := p) hk)
    have hk2 : (lb l p : Int) < l.length := by omega
    clear hr hc
    generalize l[lb l p] = y at *
    generalize hK0 : lb l p = K at *
    have HK := gO hK0
    clear hK0
    go_wp2_with fail
    refine (CJ y p _ hal hp).mono ?_
    rintro e w1 ⟨rfl, hb1⟩
    have hb4 := Below.step hb3 hb1
    clear hc0 hc1 hc2
    by_cases hy : y.a = p
    ·have h5 : ((y.a : Int) - p == 0) = true := by rw [beq_iff_eq]; omega
     go_wp2
     go_ret2
     refine ⟨?_, hb4⟩
     rw [hat.out, HK.out, decide_eq_true hy]; rfl
    ·have h5 : ((y.a : Int) - p == 0) = false := by rw [beq_eq_false_iff_ne]; omega
     go_wp2
     go_ret2
     refine ⟨?_, hb4⟩
     rw [hat.out, HK.out, decide_eq_false hy]; rfl
   ·have hat := gO (uN hrise (a := p) (by omega))
    have hk2 : ¬ (lb l p : Int) < l.length := by omega
    clear hr
    generalize hK0 : lb l p = K at *
    have HK := gO hK0
    clear hK0
    go_wp2
    go_ret2
    refine ⟨?_, hb3⟩
    rw [hat.out, HK.out]; rfl
end
section
open Go.RowKit

theorem QS {α : Type} {q : α → Bool} : ∀ {l : List α}, (∀ i j (hi : i < l.length) (hj : j < l.length), i < j → q l[j] = true → q l[i] = true) → ∀ k (hk : k < l.length), k < (l.takeWhile q).length ↔ q l[k] = true
 | [], _, k, hk => by simp at hk
 | a :: l, h, k, hk => by
  by_cases ha : q a = true
  ·rw [List.takeWhile_cons_of_pos ha]
   cases k with
   | zero => simpa using ha
   | succ k =>
    have ih := QS (l := l) (fun i j hi hj hij hq => h (i + 1) (j + 1) (by simpa using hi) (by simpa using hj) (by omega) hq) k (by simpa using hk)
    simpa using ih
  ·rw [List.takeWhile_cons_of_neg ha]
   cases k with
   | zero => simpa using ha
   | succ k =>
    simp only [List.length_nil, Nat.not_lt_zero, false_iff, List.getElem_cons_succ]
    intro hq
    exact ha (h 0 (k + 1) (by simp) hk (by omega) hq)
theorem Lr {l : List (List UInt8)} {v : List UInt8} (hl : l.Pairwise fun a b => Go.Op.bytesLess a b = true) {k : Nat} (hk : k < l.length) : k < uH l v ↔ Go.Op.bytesLess l[k] v = true :=
 QS (q := fun x => Go.Op.bytesLess x v) (fun i j hi hj hij hq => zZ (List.pairwise_iff_getElem.1 hl i j hi hj hij) hq) k hk
theorem QT (l : List (List UInt8)) (v : List UInt8) : uH l v ≤ l.length := (List.takeWhile_sublist _).length_le

theorem NW {x y : List UInt8} (w : World) {b : Bool} (h : Go.Op.bytesLess x y = b) : (binOp .lss 9 (.string ⟨x.toArray⟩) (.string ⟨y.toArray⟩)).run Tryz.prog w = .ok (.bool b) w := by
 simp [binOp, Go.Op.stringOp]
 exact h
theorem CQ (x : List UInt8) (w : World) : (binOp .neq 9 (.string ⟨x.toArray⟩) (.string ⟨x.toArray⟩)).run Tryz.prog w = .ok (.bool false) w := by
 simp [binOp, Go.Op.stringOp]
theorem Ul (x : List UInt8) (w : World) : Calls Tryz.prog 158 #[.string ⟨x.toArray⟩] w fun ev w' => ev = .returned (.bool false) ∧ w = w' := by
 have h := CQ x w
 go_enter Tryz.func158, Tryz.ntmps158
 go_wp2
 go_ret
 exact ⟨rfl, rfl⟩
theorem Lu (x : List UInt8) (w : World) : Calls Tryz.prog 120 #[.string ⟨x.toArray⟩] w fun ev w' => ev = .returned (.bool false) ∧ w = w' := by
 have h := CQ x w
 go_enter Tryz.func120, Tryz.ntmps120
 go_wp2
 go_ret
 exact ⟨rfl, rfl⟩
theorem GH (x y : List UInt8) (w : World) : Calls Tryz.prog 119 #[.string ⟨x.toArray⟩, .string ⟨y.toArray⟩] w fun ev w' => ev = .returned (.bool (Go.Op.bytesLess x y)) ∧ w = w' := by
 have h := NW (x := x) (y := y) w rfl
 go_enter Tryz.func119, Tryz.ntmps119
 go_wp2_with (go_at_call 158; refine (Ul x _).mono ?_; rintro ev w' ⟨rfl, rfl⟩)
 go_ret
 exact ⟨rfl, rfl⟩
def aDl (l : List (List UInt8)) (v : List UInt8) (w : World) (e : Ending) (w' : World) : Prop := ∃ b : Bool, e = .returned (.tuple #[.int .i64 (uH l v : Int), .bool b]) ∧ w = w'
set_option maxHeartbeats 4000000 in
set_option maxRecDepth 100000 in
theorem LD (a : Option Addr) (n cap : Nat) (l : List (List UInt8)) (v : List UInt8) (w : World) (hn : l.length = n) (hl : n ≤ 1000) (hr : Row w a (flat encS l)) (hrise : l.Pairwise fun a b => Go.Op.bytesLess a b = true) :
  Calls Tryz.prog 68 #[.slice a n cap, .string ⟨v.toArray⟩] w (aDl l v w) := by
 subst hn
 have hle := QT l v
 go_enter Tryz.func68, Tryz.ntmps68
 go_wp2
 go_loopw [7, 8, 9] (fun s7 s8 _ wr => wr = w ∧ ∃ i j : Nat, i ≤ uH l v ∧ uH l v ≤ j ∧ j ≤ l.length ∧ s7 = .int .i64 i ∧ s8 = .int .i64 j) (fun s7 s8 _ _ => (intOf s8).toNat - (intOf s7).toNat)
 case atStart => exact ⟨rfl, 0, l.length, Nat.zero_le _, hle, Nat.le_refl _, rfl, rfl⟩
 case round =>
  obtain ⟨rfl, i, j, h1, h2, h3, rfl, rfl⟩ := hrel
  by_cases hlt : i < j
  ·have Kr : (i + j) / 2 < l.length := by omega
   have hiff := gO (Lr hrise (v := v) Kr)
   obtain ⟨b, off, rfl, hb, hc⟩ := aN aU (by decide) hr Kr
   have hc0 := l9 hc
   rw [Nat.mul_one] at hc0
   clear hr hc
   generalize l[(i + j) / 2] = y at *
   cases hb2 : Go.Op.bytesLess y v with
   | true =>
    have h4 := hiff.out.2 hb2
    have HL := gO (GH y v wr)
    rw [hb2] at HL
    clear hb2
    go_wp2_with (go_at_call 119; refine HL.out.mono ?_; rintro ev w' ⟨rfl, rfl⟩)
    go_roundw
    case rel => exact ⟨by first | rfl | trivial, (i + j) / 2 + 1, j, by omega, h2, h3, by go_num, rfl⟩
    case measure => simp [intOf]; omega
   | false =>
    have h4 : ¬ (i + j) / 2 < uH l v := fun h => by rw [hiff.out.1 h] at hb2; cases hb2
    have HL := gO (GH y v wr)
    rw [hb2] at HL
    clear hb2
    go_wp2_with (go_at_call 119; refine HL.out.mono ?_; rintro ev w' ⟨rfl, rfl⟩)
    go_roundw
    case rel => exact ⟨by first | rfl | trivial, i, (i + j) / 2, h1, by omega, by omega, rfl, by go_num⟩
    case measure => simp [intOf]; omega
  ·obtain rfl : i = uH l v := by omega
   have hkk : (uH l v : Int) ≤ l.length := by omega
   by_cases hk : uH l v < l.length
   ·obtain ⟨b, off, rfl, hb, hc⟩ := aN aU (by decide) hr hk
    have hc0 := l9 hc
    rw [Nat.mul_one] at hc0
    have hk2 : (uH l v : Int) < l.length := by omega
    clear hr hc
    generalize l[uH l v] = y at *
    generalize hK0 : uH l v = K at *
    have HK := gO hK0
    clear hK0
    cases YK : y == v with
    | true =>
     have h5 := (bytes_eq y v).trans YK
     go_wp2_with (go_at_call 120; refine (Lu _ _).mono ?_; rintro ev w' ⟨rfl, rfl⟩)
     exact bodyPost_ret (v := .tuple #[.int .i64 (K : Int), .bool true]) (by simp [results, Tryz.results68, go_sem]) rfl ⟨true, by rw [HK.out], rfl⟩
    | false =>
     have h5 := (bytes_eq y v).trans YK
     go_wp2_with (go_at_call 120; refine (Lu _ _).mono ?_; rintro ev w' ⟨rfl, rfl⟩)
     exact bodyPost_ret (v := .tuple #[.int .i64 (K : Int), .bool false]) (by simp [results, Tryz.results68, go_sem]) rfl ⟨false, by rw [HK.out], rfl⟩
   ·have hk2 : ¬ (uH l v : Int) < l.length := by omega
    clear hr
    generalize hK0 : uH l v = K at *
    have HK := gO hK0
    clear hK0
    go_wp2
    exact bodyPost_ret (v := .tuple #[.int .i64 (K : Int), .bool false]) (by simp [results, Tryz.results68, go_sem]) rfl ⟨false, by rw [HK.out], rfl⟩
end
end Go.Proofs.YtcmpmobhongkiaaGreatDoor
