/- texts of this claim, joined. -/
import Derived.Test.YtcmpmobhongkiaaGreatDoorCG0
import Derived.Test.YtcmpmobhongkiaaGreatDoorCG11
import Derived.Test.YtcmpmobhongkiaaGreatDoorCG17
import Derived.Test.YtcmpmobhongkiaaGreatDoorCG18
import Derived.Test.YtcmpmobhongkiaaGreatDoorCG9
import Derived.Maps.OwnOps
set_option linter.unusedVariables false
set_option linter.unusedSimpArgs false
namespace Go.Proofs.YtcmpmobhongkiaaGreatDoor
section
open Go.RowKit
def put5 (W : World) (b : Nat) (u0 u1 u2 u3 u4 : Value) : World := ((((W.setCell ⟨b, 0, none⟩ u0).setCell ⟨b, 1, none⟩ u1).setCell ⟨b, 2, none⟩ u2).setCell ⟨b, 3, none⟩ u3).setCell ⟨b, 4, none⟩ u4
theorem HS.move {W : World} {g B : Nat} {X : Nat → Prop} {h : Hp} {c : Hc} (hs : HS W g X h c) (hB : X B) {a0 a1 a2 a3 a4 : Value} (hk : ∀ o, W.cell? ⟨B, o, none⟩ = (#[a0, a1, a2, a3, a4] : Array Value)[o]?) (hf : ∀ o, W.frozen? ⟨B, o, none⟩ = false) :
  HS (put5 W B (.slice c.az 2 c.cz) (.slice c.am 2 c.cm) (.int .i64 (h.aF : Int)) (.slice c.al c.lc.length c.cl) (.slice c.av h.live.length c.cv)) B (fun k => X k ∧ k ≠ B) h c := by
 have h1 := ((((hs.far hB 0 (.slice c.az 2 c.cz)).far hB 1 (.slice c.am 2 c.cm)).far hB 2 (.int .i64 (h.aF : Int))).far hB 3 (.slice c.al c.lc.length c.cl)).far hB 4 (.slice c.av h.live.length c.cv)
 have h2 := aG (aG (aG (aG (aG hk 0 (.slice c.az 2 c.cz)) 1 (.slice c.am 2 c.cm)) 2 (.int .i64 (h.aF : Int))) 3 (.slice c.al c.lc.length c.cl)) 4 (.slice c.av h.live.length c.cv)
 refine ⟨⟨h1.r.own, h1.r.ro, h1.r.ds, fun r hr k hk' => ⟨fun e => (h1.r.og r hr k hk').2 (by rw [e]; exact hB), fun e => (h1.r.og r hr k hk').2 e.1⟩, fun r hr e => h1.r.rx r hr B e hB, fun r hr k hk' e => h1.r.rx r hr k hk' e.1, h1.r.xs B hB, fun e => e.2 rfl, fun k hk' => h1.r.xs k hk'.1, h1.r.e0, h1.r.e1, h1.r.ll⟩, h2, aH (aH (aH (aH (aH hf _ _) _ _) _ _) _ _) _ _⟩
end
section
open Go.RowKit
def lJ (W : World) (B : Nat) (h : Hp) (c : Hc) : Prop := HR W B (fun k => k < B) h c
theorem lJ.at {W : World} {B : Nat} {h : Hp} {c : Hc} (hs : lJ W B h c) : HAt W c.az c.am c.al c.av c.lc.length h.live.length c.y0 c.y1 c.lc h := HR.at hs
theorem ret5 {W0 W4 W : World} {B b G : Nat} {X : Nat → Prop} {h : Hp} {c : Hc} {a0 a1 a2 a3 a4 : Value} (hb : Below B W0 W4) (sf : Safe X W4 W) (hs : HS W G X h c) (K2 : ∀ o, W4.cell? ⟨b, o, none⟩ = (#[a0, a1, a2, a3, a4] : Array Value)[o]?) (F2 : ∀ o, W4.frozen? ⟨b, o, none⟩ = false) (hsz : b < W4.heap.size) (hX : X b) (XA : ∀ k, k < B → X k) (hB : B ≤ W4.heap.size) (hbB : B ≤ b) (u0 u1 u2 u3 u4 : Value) :
  (W.cell? ⟨b, 0, none⟩ = some a0 ∧ W.cell? ⟨b, 1, none⟩ = some a1 ∧ W.cell? ⟨b, 2, none⟩ = some a2 ∧ W.cell? ⟨b, 3, none⟩ = some a3 ∧ W.cell? ⟨b, 4, none⟩ = some a4) ∧
  (W.frozen? ⟨b, 0, none⟩ = false ∧ W.frozen? ⟨b, 1, none⟩ = false ∧ W.frozen? ⟨b, 2, none⟩ = false ∧ W.frozen? ⟨b, 3, none⟩ = false ∧ W.frozen? ⟨b, 4, none⟩ = false) ∧
  HS (put5 W b u0 u1 u2 u3 u4) G X h c ∧ Below B W0 (put5 W b u0 u1 u2 u3 u4) ∧ ∀ o, (put5 W b u0 u1 u2 u3 u4).cell? ⟨b, o, none⟩ = (#[u0, u1, u2, u3, u4] : Array Value)[o]? := by
 have K := sf.box K2 hsz hX
 have F := sf.Qg F2 hsz hX
 exact ⟨⟨K 0, K 1, K 2, K 3, K 4⟩, ⟨F 0, F 1, F 2, F 3, F 4⟩, ((((hs.far hX 0 u0).far hX 1 u1).far hX 2 u2).far hX 3 u3).far hX 4 u4, Below.setCell (Below.setCell (Below.setCell (Below.setCell (Below.setCell (Safe.after hb sf XA hB) hbB u0) hbB u1) hbB u2) hbB u3) hbB u4, aG (aG (aG (aG (aG K 0 u0) 1 u1) 2 u2) 3 u3) 4 u4⟩
end
section
open Go.RowKit

structure Sc where
 a1 : Option Addr
 n1 : Nat
 c1 : Nat
 hc : Hc
 a2 : Option Addr
 c2 : Nat
 ys : List Cc
structure qF (w : World) (v : Sc) (s : Sy) : Prop where
 lw : s.w.length = v.n1
 rw : Row w v.a1 (s.w.map vI)
 hh : HAt w v.hc.az v.hc.am v.hc.al v.hc.av v.hc.lc.length s.h.live.length v.hc.y0 v.hc.y1 v.hc.lc s.h
 rc : Row w v.a2 (flat bW v.ys)
 cy : v.ys.map (·.c) = s.cs
 ca : ∀ y ∈ v.ys, IZ w y
 kw : v.n1 ≤ v.c1
 kc : v.ys.length ≤ v.c2
theorem qF.below {w w' : World} {v : Sc} {s : Sy} (h : qF w v s) (hb : Below w.heap.size w w') : qF w' v s := ⟨h.lw, h.rw.below hb, h.hh.below hb, h.rc.below hb, h.cy, fun y hy => (h.ca y hy).below hb, h.kw, h.kc⟩
def Sc.vals (v : Sc) (s : Sy) : Array Value := #[.slice v.a1 v.n1 v.c1, .slice v.hc.az 2 v.hc.cz, .slice v.hc.am 2 v.hc.cm, .int .i64 (s.h.aF : Int), .slice v.hc.al v.hc.lc.length v.hc.cl, .slice v.hc.av s.h.live.length v.hc.cv, .slice v.a2 v.ys.length v.c2]

set_option maxHeartbeats 8000000 in
set_option maxRecDepth 100000 in
theorem zJ (a1 az am al av a2 : Option Addr) (n1 c1 cz cm nl cl nv cv n2 c2 : Nat) (aF : Int) (xs : List Int) (y : Cc) (x : Sl) (l : List Int) (w : World) (hn : xs.length = n1) (hn4 : n1 ≤ 4096) (hr : Row w a1 (xs.map vI))
  (hz : 1 ≤ y.c.z) (hrz : y.c.r * y.c.z ≤ 100000) (hp : x.p ≤ 1000) (hf : follow xs x.h y.c.r = some l) (hl : l.length = x.n) (ho : ∀ a ∈ l, iH y.c x.p a = true) (hlb : ∀ a ∈ l, 0 ≤ a ∧ a ≤ 1000000) (hxn : x.n ≤ 1000000) :
  Calls Tryz.prog 91 #[.agg #[.slice a1 n1 c1, .slice az 2 cz, .slice am 2 cm, .int .i64 aF, .slice al nl cl, .slice av nv cv, .slice a2 n2 c2], .agg #[.slice y.a1 y.n1 y.c1, .int .i64 y.c.z, .int .i64 y.c.r, .int .i64 y.c.o, .slice y.a2 y.n2 y.c2, .slice y.a3 y.n3 y.c3], .agg #[.int .i64 x.p, .int .i64 x.n, .int .i64 x.h]] w fun ev w' => ∃ (a' : Option Addr) (c' : Nat), ev = .returned (.tuple #[.slice a' l.length c', .bool true]) ∧ Row w' a' (l.map vI) ∧ Below w.heap.size w w' := by
 obtain ⟨K0, K1, K2, F0, F1, F2, hsz, hbw⟩ := boxes3 w #[.slice a1 n1 c1, .slice az 2 cz, .slice am 2 cm, .int .i64 aF, .slice al nl cl, .slice av nv cv, .slice a2 n2 c2] 47 #[.slice y.a1 y.n1 y.c1, .int .i64 (y.c.z : Int), .int .i64 (y.c.r : Int), .int .i64 (y.c.o : Int), .slice y.a2 y.n2 y.c2, .slice y.a3 y.n3 y.c3] 94 #[.int .i64 (x.p : Int), .int .i64 (x.n : Int), .int .i64 x.h] 137
 have eg : ∀ args w, (callFunc 141 args).run Tryz.prog w = .ok (.enter 141 args) w := enters_of Tryz.func141 (by kernel_rfl) rfl
 have k0 := K0 0
 have k1 := K1 2
 have k2 := K2 1
 have k3 := K2 2
 simp only [gB, gC, gD] at k0 k1 k2 k3
 have HR := gO (hr.below hbw)
 have HB := gO hbw
 have HEG := gO eg
 have HK1 := gO K1
 have HK2 := gO K2
 have HO := gO ho
 have HLB := gO hlb
 clear hr hbw eg K0 K1 K2 F0 F1 F2 ho hlb
 go_enter Tryz.func91, Tryz.ntmps91
 go_wp2_with fail
 generalize ((w.alloc (.cells #[.slice a1 n1 c1, .slice az 2 cz, .slice am 2 cm, .int .i64 aF, .slice al nl cl, .slice av nv cv, .slice a2 n2 c2] 47)).alloc (.cells #[.slice y.a1 y.n1 y.c1, .int .i64 (y.c.z : Int), .int .i64 (y.c.r : Int), .int .i64 (y.c.o : Int), .slice y.a2 y.n2 y.c2, .slice y.a3 y.n3 y.c3] 94)).alloc (.cells #[.int .i64 (x.p : Int), .int .i64 (x.n : Int), .int .i64 x.h] 137) = w3 at *
 refine (Fb a1 n1 c1 xs x.h y.c.r w3 hn (by omega) HR.out l hf).mono ?_
 rintro ev w4 ⟨a', c', rfl, hown, hb4⟩
 have HRL := gO (aW hown)
 have K14 := aB HK1.out (by omega) hb4
 have K24 := aB HK2.out hsz hb4
 have oD := gI hsz hb4.size
 have n4 := K24 1
 simp only [gB, gC, gD] at n4
 have HB4 := gO (Below.step HB.out hb4)
 have hcont := Bg a' l.length c' l 141 #[.pointer (some ⟨w.heap.size + 1, 0, none⟩), .pointer (some ⟨w.heap.size + 1 + 1, 0, none⟩)] (fun a => !iH y.c x.p a) w4 rfl (by omega) (by rw [kT]; exact HRL.out) HEG.out (fun W hW a ha => Nz y x a (w.heap.size + 1) (w.heap.size + 1 + 1) W hz hrz hp (by have := HLB.out a ha; omega) (by have := HLB.out a ha; omega) (by have := hW.size; omega) (gI oD hW.size) (aB K14 (by omega) hW) (aB K24 oD hW))
 have hany : (l.any fun a => !iH y.c x.p a) = false := by
  rw [List.any_eq_false]
  intro a ha
  rw [HO.out a ha]
  decide
 rw [hany] at hcont
 have HC := gO hcont
 have hln : ((l.length : Int) == (x.n : Int)) = true := by rw [beq_iff_eq, hl]
 have aHd : ((l.length : Int) != (x.n : Int)) = false := by rw [hl]; simp
 have HL := gO hl
 have aHe : l.length ≤ 1000000 := by omega
 clear hcont hany K14 K24 hown k0 k1 k2 k3 hb4 hl
 go_wp2_with (go_at_call 110; refine HC.out.mono ?_; rintro ev w5 ⟨rfl, hb5⟩)
 have HB5 := gO (Below.step HB4.out hb5)
 have HRL5 := gO (HRL.out.below hb5)
 go_ret2
 exact ⟨a', c', rfl, HRL5.out, HB5.out⟩
end
section
open Go.RowKit

theorem zV (k : Nat) (w : World) (h1 : 1 ≤ k) (h2 : k ≤ 64) :
  Calls Tryz.prog 70 #[.int .i64 k] w fun e w' => e = .returned (.tuple #[.int .i64 (dR k : Nat), .int .i64 (dW k : Nat), .int .i64 0]) ∧ w = w' := by
 have e16 : ((16 / k : Nat) : Int) = 16 / (k : Int) := by simp
 have e32 : ((32 / k : Nat) : Int) = 32 / (k : Int) := by simp
 have e64 : ((64 / k : Nat) : Int) = 64 / (k : Int) := by simp
 by_cases h3 : 4 ≤ 16 / k
 ·have hO : dR k = 0 := by unfold dR; rw [if_pos h3]
  have hN : dW k = 16 / k := by unfold dW; rw [hO]
  rw [hO, hN, e16]
  exact PI k w (by omega) (by omega) (by omega)
 ·by_cases h4 : 4 ≤ 32 / k
  ·have hO : dR k = 1 := by unfold dR; rw [if_neg h3, if_pos h4]
   have hN : dW k = 32 / k := by unfold dW; rw [hO]
   rw [hO, hN, e32]
   exact PK k w (by omega) (by omega) (by omega) (by omega)
  ·have hO : dR k = 2 := by unfold dR; rw [if_neg h3, if_neg h4]
   have hN : dW k = 64 / k := by unfold dW; rw [hO]
   rw [hO, hN, e64]
   exact PL k w (by omega) (by omega) (by omega) (by omega)

theorem CW (b : Bk) (p : Nat) (w : World) (ha : b.a ≤ 1000) (hp : p ≤ 1000) :
  Calls Tryz.prog 130 #[.agg #[.int .i64 b.a, .int .i64 b.o, .int .i64 b.t], .int .i64 p] w fun e w' => e = .returned (.int .i64 ((b.a : Int) - p)) ∧ Below w.heap.size w w' := by
 go_enter Tryz.func130, Tryz.ntmps130
 go_wp2
 go_ret
 exact ⟨rfl, aC _ _⟩

set_option maxRecDepth 100000 in
theorem Et (a : Option Addr) (n cap : Nat) (l : List Bk) (p : Nat) (w : World) (hn : l.length = n) (hl : n ≤ 1000) (hr : Row w a (flat aO l)) (hrise : pF l) (ha : ∀ b ∈ l, b.a ≤ 1000) (hp : p ≤ 1000) :
  Calls Tryz.prog 114 #[.slice a n cap, .int .i64 p, .func (.func 130) #[] #[]] w fun e w' => e = .returned (.tuple #[.int .i64 (lb l p : Int), .bool (hasB l p)]) ∧ Below w.heap.size w w' := by
 subst hn
 have hle := jZ l p
 have eg : ∀ args w, (callFunc 130 args).run Tryz.prog w = .ok (.enter 130 args) w := enters_of Tryz.func130 (by kernel_rfl) rfl
 go_enter Tryz.func114, Tryz.ntmps114
 go_wp2
 go_loopw [9, 10, 11] (fun s9 s10 _ wr => ∃ i j : Nat, i ≤ lb l p ∧ lb l p ≤ j ∧ j ≤ l.length ∧ s9 = .int .i64 i ∧ s10 = .int .i64 j ∧ Below w.heap.size w wr) (fun s9 s10 _ _ => (intOf s10).toNat - (intOf s9).toNat)
 case atStart => exact ⟨0, l.length, Nat.zero_le _, hle, Nat.le_refl _, rfl, rfl, Below.refl _ _⟩
 case round =>
  obtain ⟨i, j, h1, h2, h3, rfl, rfl, hb3⟩ := hrel
  by_cases hlt : i < j
  ·have Le : (i + j) / 2 < l.length := by omega
   have hiff := gO (IW hrise (a := p) Le)
   obtain ⟨b, off, rfl, hb, hc⟩ := aN aI (by decide) (hr.below hb3) Le
   obtain ⟨hc0, hc1, hc2⟩ := bM hc
   have hal := ha _ (gL Le)
   clear hr hc
   generalize l[(i + j) / 2] = y at *
   go_wp2_with fail
   refine (CW y p _ hal hp).mono ?_
   rintro e w1 ⟨rfl, hb1⟩
   have hb4 := Below.step hb3 hb1
   clear hc0 hc1 hc2
   by_cases hlt2 : y.a < p
   ·have h4 := hiff.out.2 hlt2
    have h5 : (y.a : Int) - p < 0 := by omega
    go_wp2
    go_roundw
    case rel => exact ⟨(i + j) / 2 + 1, j, by omega, h2, h3, by go_num, rfl, hb4⟩
    case measure => simp [intOf]; omega
   ·have h4 : ¬ (i + j) / 2 < lb l p := fun h => hlt2 (hiff.out.1 h)
    have h5 : ¬ (y.a : Int) - p < 0 := by omega
    go_wp2
    go_roundw
    case rel => exact ⟨i, (i + j) / 2, h1, by omega, by omega, rfl, by go_num, hb4⟩
    case measure => simp [intOf]; omega
  ·obtain rfl : i = lb l p := by omega
   have hkk : (lb l p : Int) ≤ l.length := by omega
   by_cases hk : lb l p < l.length
   ·obtain ⟨b, off, rfl, hb, hc⟩ := aN aI (by decide) (hr.below hb3) hk
    obtain ⟨hc0, hc1, hc2⟩ := bM hc
    have hal := ha _ (gL hk)
    have hat := gO (uD hrise (a := p) hk)
    have hk2 : (lb l p : Int) < l.length := by omega
    clear hr hc
    generalize l[lb l p] = y at *
    generalize hK0 : lb l p = K at *
    have HK := gO hK0
    clear hK0
    go_wp2_with fail
    refine (CW y p _ hal hp).mono ?_
    rintro e w1 ⟨rfl, hb1⟩
    have hb4 := Below.step hb3 hb1
    clear hc0 hc1 hc2
    by_cases hy : y.a = p
    ·have h5 : ((y.a : Int) - p == 0) = true := by rw [beq_iff_eq]; omega
     go_wp2
     go_ret2
     refine ⟨?_, hb4⟩
     rw [hat.out, HK.out, decide_eq_true hy]; rfl
    ·have h5 : ((y.a : Int) - p == 0) = false := by rw [beq_eq_false_iff_ne]; omega
     go_wp2
     go_ret2
     refine ⟨?_, hb4⟩
     rw [hat.out, HK.out, decide_eq_false hy]; rfl
   ·have hat := gO (uF hrise (a := p) (by omega))
    have hk2 : ¬ (lb l p : Int) < l.length := by omega
    clear hr
    generalize hK0 : lb l p = K at *
    have HK := gO hK0
    clear hK0
    go_wp2
    go_ret2
    refine ⟨?_, hb3⟩
    rw [hat.out, HK.out]; rfl
end
section
theorem jE {α β : Type} {f : α → β} {l : List α} {i : Nat} {c c' : α} (h : l[i]? = some c) (he : f c' = f c) : (l.set i c').map f = l.map f := by
 obtain ⟨hi, hc⟩ := List.getElem?_eq_some_iff.1 h
 apply List.ext_getElem (by simp)
 intro j h1 h2
 simp only [List.getElem_map, List.getElem_set]
 split
 ·rename_i e
  subst e
  rw [he, hc]
 ·rfl
def Sy.sig (s : Sy) : List (List (List UInt8) × Nat) := s.cs.map fun c => (c.ns, c.z)
theorem Ig (s : Sy) (i cpu k : Nat) : (s.mine i cpu k).sig = s.sig := by
 unfold Sy.mine Sy.sig
 cases hc : s.cs[i]? with
 | none => rfl
 | some c =>
  simp only
  cases hx : c.sl[k]? with
  | none => rfl
  | some x => exact jE hc rfl
theorem Vz {s t : Sy} {i k : Nat} {a : Int} (h : s.pop i k = some (t, a)) : t.sig = s.sig := by
 unfold Sy.pop at h
 cases hc : s.cs[i]? with
 | none => rw [hc] at h; cases h
 | some c =>
  rw [hc] at h
  simp only at h
  cases hx : c.sl[k]? with
  | none => rw [hx] at h; cases h
  | some x =>
   rw [hx] at h
   have h1 := gP h
   rw [Prod.mk.injEq] at h1
   rw [← h1.1]
   exact jE hc rfl
theorem SN {s t : Sy} {i cpu k : Nat} {c : Ca} (hc : s.cs[i]? = some c) (h : s.grow i cpu c = some (t, k)) : t.sig = s.sig := by
 unfold Sy.grow at h
 split at h
 ·have h1 := gP h
  rw [Prod.mk.injEq] at h1
  rw [← h1.1]
  exact jE hc rfl
 ·cases h
theorem Kw {s t : Sy} {i cpu k : Nat} (h : s.choose i cpu = some (t, k)) : t.sig = s.sig := by
 unfold Sy.choose at h
 cases hc : s.cs[i]? with
 | none => rw [hc] at h; cases h
 | some c =>
  rw [hc] at h
  simp only at h
  split at h
  ·have h1 := gP h
   rw [Prod.mk.injEq] at h1
   rw [← h1.1]
  ·split at h
   ·have h1 := gP h
    rw [Prod.mk.injEq] at h1
    rw [← h1.1]
    exact Ig _ _ _ _
   ·split at h
    ·rename_i heq
     have h1 := gP h
     rw [Prod.mk.injEq] at h1
     rw [← h1.1, Ig]
     exact SN hc heq
    ·cases h
theorem VA {s t : Sy} {i cpu : Nat} {a : Int} (h : s.one i cpu = some (t, a)) : t.sig = s.sig := by
 unfold Sy.one at h
 cases hc : s.choose i cpu with
 | none => rw [hc] at h; cases h
 | some r =>
  obtain ⟨u, k⟩ := r
  rw [hc] at h
  exact (Vz h).trans (Kw hc)
theorem Ih {s : Sy} {i cpu : Nat} : ∀ {j : Nat} {t : Sy} {l : List Int}, s.bulk i cpu j = some (t, l) → t.sig = s.sig
 | 0, t, l, h => by
  have h1 := gP h
  rw [Prod.mk.injEq] at h1
  rw [← h1.1]
 | j + 1, t, l, h => by
  unfold Sy.bulk at h
  cases hb : s.bulk i cpu j with
  | none => rw [hb] at h; cases h
  | some r =>
   obtain ⟨u, l'⟩ := r
   rw [hb] at h
   simp only at h
   cases ho : u.one i cpu with
   | none => rw [ho] at h; cases h
   | some q =>
    obtain ⟨t', a⟩ := q
    rw [ho] at h
    have h1 := gP h
    rw [Prod.mk.injEq] at h1
    rw [← h1.1]
    exact (VA ho).trans (Ih hb)
def Sy.nss (s : Sy) : List (List (List UInt8)) := s.cs.map (·.ns)
theorem tK {s t : Sy} (h : t.sig = s.sig) : t.nss = s.nss := by
 have h1 := congrArg (List.map Prod.fst) h
 unfold Sy.sig at h1
 simp only [List.map_map] at h1
 exact h1
theorem SQ {s : Sy} {i cpu : Nat} {j : Nat} {t : Sy} {l : List Int} (h : s.bulk i cpu j = some (t, l)) : t.nss = s.nss := tK (Ih h)
theorem lW {s t : Sy} (h : t.nss = s.nss) {N : Nat} (hs : ∀ c ∈ s.cs, c.ns.length ≤ N) : ∀ c ∈ t.cs, c.ns.length ≤ N := fun c hc => by
 have h1 : c.ns ∈ t.nss := List.mem_map_of_mem hc
 rw [h] at h1
 obtain ⟨d, hd, e⟩ := List.mem_map.1 h1
 rw [← e]
 exact hs d hd
end
end Go.Proofs.YtcmpmobhongkiaaGreatDoor
