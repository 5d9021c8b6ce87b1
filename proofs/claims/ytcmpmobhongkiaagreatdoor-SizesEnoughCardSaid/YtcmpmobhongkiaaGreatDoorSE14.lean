/- texts of this claim, joined. -/
import Derived.Test.YtcmpmobhongkiaaGreatDoorSE0
import Derived.Test.YtcmpmobhongkiaaGreatDoorSE12
set_option linter.unusedVariables false
set_option linter.unusedSimpArgs false
namespace Go.Proofs.YtcmpmobhongkiaaGreatDoor
section
open Go.RowKit

theorem wL (t : Nat) : ∀ (l : List Bk) (k : Nat) (hk : k < l.length), (flat aN l).set (k * 3 + 2) (vI t) = flat aN (l.set k { l[k] with t := t })
 | x :: l, 0, _ => by rw [dB, gG, dB]; rfl
 | x :: l, k + 1, hk => by
  have hk' : k < l.length := by simpa using hk
  rw [dB, gH, dB, List.set_append_right _ _ (by rw [aI]; omega), aI, show (k + 1) * 3 + 2 - 3 = k * 3 + 2 by omega, wL t l k hk']
  rfl

theorem eU.UK {W : World} {bs : Nat} {a1 a2 : Option Addr} {n1 n2 c1 c2 : Nat} {z : Zn} (h : eU W bs a1 a2 n1 n2 c1 c2 z) {j g : Nat} (hj : j < n2) (hg : a2 = some ⟨g, 0, none⟩) (t : Nat) : eU (W.setCell ⟨g, j, none⟩ (.int .i64 (t : Int))) bs a1 a2 n1 n2 c1 c2 { z with y := z.y.set j t } := by
 subst hg
 have h1 := (World.ownsRow.stored h.o2 j (vI t)).1
 rw [Bf] at h1
 exact ⟨h.l1, by simp only [List.length_set]; exact h.l2, dG h.o1 (fun e => tK h.o1 h.o2 (by decide) g e rfl) _, h1⟩
theorem eU.QZ {W : World} {bs : Nat} {a1 a2 : Option Addr} {n1 n2 c1 c2 : Nat} {z : Zn} (h : eU W bs a1 a2 n1 n2 c1 c2 z) {k g : Nat} (hk : k < z.l.length) (hg : a1 = some ⟨g, 0, none⟩) (t : Nat) : eU (W.setCell ⟨g, k * 3 + 2, none⟩ (.int .i64 (t : Int))) bs a1 a2 n1 n2 c1 c2 { z with l := z.l.set k { z.l[k] with t := t } } := by
 subst hg
 have h1 := (World.ownsRow.stored h.o1 (k * 3 + 2) (vI t)).1
 rw [wL t z.l k hk] at h1
 exact ⟨by simp only [List.length_set]; exact h.l1, h.l2, h1, dG h.o2 (fun e => tK h.o1 h.o2 (by decide) g rfl e) _⟩

structure lN (w W : World) (bs : Nat) (a1 a2 : Option Addr) (n1 n2 c1 c2 f e : Nat) (b : Bk) (z : Zn) : Prop where
 k3 : ∀ i, W.cell? ⟨w.heap.size, i, none⟩ = (#[.int .i64 f, .int .i64 e, .slice a1 n1 c1, .slice a2 n2 c2] : Array Value)[i]?
 k6 : ∀ i, W.cell? ⟨w.heap.size + 1, i, none⟩ = (#[.int .i64 b.a, .int .i64 b.o, .int .i64 b.t] : Array Value)[i]?
 own : eU W bs a1 a2 n1 n2 c1 c2 z
 hi : w.heap.size + 2 ≤ W.heap.size
 bw : Below bs w W
 g1 : ∀ g, a1 = some ⟨g, 0, none⟩ → g < w.heap.size ∧ bs ≤ g
 g2 : ∀ g, a2 = some ⟨g, 0, none⟩ → g < w.heap.size ∧ bs ≤ g
section
variable {w W W' : World} {bs : Nat} {a1 a2 : Option Addr} {n1 n2 c1 c2 f e : Nat} {b : Bk} {z : Zn}
theorem lN.below (h : lN w W bs a1 a2 n1 n2 c1 c2 f e b z) (hb : Below W.heap.size W W') (hbs : bs ≤ w.heap.size) : lN w W' bs a1 a2 n1 n2 c1 c2 f e b z := by
 have h2 := h.hi
 exact ⟨aB h.k3 (by omega) hb, aB h.k6 (by omega) hb, h.own.below hb, gQ h2 hb.size, wH hb h.bw (by omega), h.g1, h.g2⟩
theorem lN.UK (h : lN w W bs a1 a2 n1 n2 c1 c2 f e b z) {j g : Nat} (hj : j < n2) (hg : a2 = some ⟨g, 0, none⟩) (t : Nat) : lN w (W.setCell ⟨g, j, none⟩ (.int .i64 (t : Int))) bs a1 a2 n1 n2 c1 c2 f e b { z with y := z.y.set j t } := by
 have h1 := h.g2 g hg
 exact ⟨aA h.k3 (by omega) _ _, aA h.k6 (by omega) _ _, h.own.UK hj hg t, by simpa using h.hi, h.bw.setCell h1.2 _, h.g1, h.g2⟩
theorem lN.QZ (h : lN w W bs a1 a2 n1 n2 c1 c2 f e b z) {k g : Nat} (hk : k < z.l.length) (hg : a1 = some ⟨g, 0, none⟩) (t : Nat) : lN w (W.setCell ⟨g, k * 3 + 2, none⟩ (.int .i64 (t : Int))) bs a1 a2 n1 n2 c1 c2 f e b { z with l := z.l.set k { z.l[k] with t := t } } := by
 have h1 := h.g1 g hg
 exact ⟨aA h.k3 (by omega) _ _, aA h.k6 (by omega) _ _, h.own.QZ hk hg t, by simpa using h.hi, h.bw.setCell h1.2 _, h.g1, h.g2⟩
end

def dY (fr tp t : Nat) (l : List Bk) (k : Nat) : List Bk := (l.take k).map (lG fr tp t) ++ l.drop k
theorem Bg (fr tp t : Nat) (l : List Bk) : dY fr tp t l l.length = l.map (lG fr tp t) := by simp [dY]
theorem nU (fr tp t : Nat) (l : List Bk) (k : Nat) : (dY fr tp t l k).length = l.length := by
 unfold dY
 rw [List.length_append, List.length_map, List.length_take, List.length_drop]; omega
theorem KU (fr tp t : Nat) (l : List Bk) (k : Nat) (hk : k < l.length) : (dY fr tp t l k)[k]? = some l[k] := by
 unfold dY
 rw [List.getElem?_append_right (by rw [List.length_map, List.length_take]; omega), List.length_map, List.length_take, List.getElem?_drop, show k + (k - min k l.length) = k by omega]
 exact gJ hk
theorem tN (fr tp t : Nat) (l : List Bk) (k : Nat) (hk : k < l.length) (hk2 : k < (dY fr tp t l k).length) : (dY fr tp t l k)[k] = l[k] := by
 have h := KU fr tp t l k hk
 rw [gJ hk2] at h
 exact gP h
theorem yG (fr tp t : Nat) (l : List Bk) (k : Nat) (hk : k < l.length) : dY fr tp t l (k + 1) = (dY fr tp t l k).set k (lG fr tp t l[k]) := by
 unfold dY
 rw [List.take_succ_eq_append_getElem hk, List.map_append, List.drop_eq_getElem_cons hk, List.set_append_right _ _ (by rw [List.length_map, List.length_take]; omega)]
 rw [show k - ((l.take k).map (lG fr tp t)).length = 0 by rw [List.length_map, List.length_take]; omega, gG, List.append_assoc]
 rfl
theorem yH (fr tp t : Nat) (l : List Bk) (k : Nat) (hk : k < l.length) (h : ¬ (fr ≤ l[k].a ∧ l[k].fin ≤ tp)) : dY fr tp t l (k + 1) = dY fr tp t l k := by
 have e : lG fr tp t l[k] = l[k] := by unfold lG; rw [if_neg h]
 rw [yG _ _ _ _ _ hk, e]
 have hk2 : k < (dY fr tp t l k).length := by rw [nU]; exact hk
 have h2 := List.set_getElem_self hk2
 rw [tN fr tp t l k hk hk2] at h2
 exact h2
theorem Bh (fr tp t : Nat) (l : List Bk) (k : Nat) (hk : k < l.length) (hk2 : k < (dY fr tp t l k).length) (h : fr ≤ l[k].a ∧ l[k].fin ≤ tp) : dY fr tp t l (k + 1) = (dY fr tp t l k).set k { (dY fr tp t l k)[k] with t := t } := by
 rw [yG _ _ _ _ _ hk, tN fr tp t l k hk hk2]
 unfold lG
 rw [if_pos h]

set_option maxHeartbeats 4000000 in
set_option maxRecDepth 100000 in
theorem lH (bs : Nat) (a1 a2 : Option Addr) (n1 n2 c1 c2 : Nat) (z : Zn) (i t : Nat) (hi : i < z.l.length) (w : World) (hown : eU w bs a1 a2 n1 n2 c1 c2 z) (hz : z.ok) (ht : t < 3) (hbs : bs ≤ w.heap.size) :
  Calls Tryz.prog 192 #[.agg #[.int .i64 z.f, .int .i64 z.e, .slice a1 n1 c1, .slice a2 n2 c2], .int .i64 i, .int .i64 t] w fun ev w' => ev = .returned (.tuple #[]) ∧ eU w' bs a1 a2 n1 n2 c1 c2 (z.steal z.l[i] t) ∧ Below bs w w' := by
 have hlen : z.l.length ≤ 256 := gQ (nM.length_le hz.2 (fun b hb => (hz.2.fit b hb).1.2.2.1)) hz.1.e2
 have hee := hz.1.e2
 have l1 := hown.l1
 have l2 := hown.l2
 have hfit := (hz.2.fit _ (gL hi)).1
 obtain ⟨K3, F3, hsz, hbw⟩ := boxes1 w #[.int .i64 (z.f : Int), .int .i64 (z.e : Int), .slice a1 n1 c1, .slice a2 n2 c2] 102
 have hown0 := hown.below hbw
 obtain ⟨bb, off, ha1, hbb, hc⟩ := aK aI (by decide) hown0.at.r1 hi
 obtain ⟨gg, vg, eg1, hg2, hg3, _⟩ := dW hown.o1 (i * 3) (by rw [flat_length aI]; omega)
 have hbg : bb = gg ∧ off = 0 := by rw [ha1] at eg1; simpa using eg1
 obtain ⟨rfl, rfl⟩ := hbg
 obtain rfl := ha1
 rw [Nat.zero_add] at hc
 obtain ⟨hc0, hc1, hc2⟩ := bD (o := i * 3) hc
 have hG2 : ∀ g, a2 = some ⟨g, 0, none⟩ → g < w.heap.size ∧ bs ≤ g := fun g hg => by have := hown.o2.lt g (by subst hg; rfl); omega
 have hin : i < n1 := by omega
 have hbt := (hz.2.fit _ (gL hi)).2
 generalize hb : z.l[i] = b at *
 have HB := gO hb
 clear hb hc
 have hae : b.a ≤ 256 := by have := hfit.2.2.1; omega
 have hfin := o8 hz.1.e16 hfit
 have hpw := rQ hfit.1
 have hbw2 := aC (w.alloc (.cells #[.int .i64 (z.f : Int), .int .i64 (z.e : Int), .slice (some ⟨bb, 0, none⟩) n1 c1, .slice a2 n2 c2] 102)) (.cells #[.int .i64 (b.a : Int), .int .i64 (b.o : Int), .int .i64 (b.t : Int)] 63)
 have UL := Below.step hbw hbw2
 have hG1 : ∀ g, some (⟨bb, 0, none⟩ : Addr) = some ⟨g, 0, none⟩ → g < w.heap.size ∧ bs ≤ g := fun g hg => by
  obtain rfl : bb = g := by simpa using hg
  exact ⟨hg3, hg2⟩
 have I0 : lN w ((w.alloc (.cells #[.int .i64 (z.f : Int), .int .i64 (z.e : Int), .slice (some ⟨bb, 0, none⟩) n1 c1, .slice a2 n2 c2] 102)).alloc (.cells #[.int .i64 (b.a : Int), .int .i64 (b.o : Int), .int .i64 (b.t : Int)] 63)) bs (some ⟨bb, 0, none⟩) a2 n1 n2 c1 c2 z.f z.e b z :=
  ⟨aB K3 (by omega) hbw2, fun i => by have := aY (w.alloc (.cells #[.int .i64 (z.f : Int), .int .i64 (z.e : Int), .slice (some ⟨bb, 0, none⟩) n1 c1, .slice a2 n2 c2] 102)) #[.int .i64 (b.a : Int), .int .i64 (b.o : Int), .int .i64 (b.t : Int)] 63 i; rwa [World.size_alloc] at this, hown.below UL, by simp, UL.mono hbs, hG1, hG2⟩
 have HI := gO I0
 clear I0 K3 F3 hbw2
 go_enter Tryz.func192, Tryz.ntmps192
 by_cases ho2 : b.o < 2
 ·go_wp2_with fail
  refine bodyPost_ret (v := .tuple #[]) (by simp [results, Tryz.results192, go_sem]) rfl ⟨rfl, ?_, ?_⟩
  ·unfold Zn.steal
   rw [if_pos ho2]
   exact HI.out.own
  ·exact HI.out.bw
 ·have aD0 : ¬ (b.o : Int) < 2 := by omega
  go_wp2_with fail
  clear hc0 hc1 hc2
  generalize (w.alloc (.cells #[.int .i64 (z.f : Int), .int .i64 (z.e : Int), .slice (some ⟨bb, 0, none⟩) n1 c1, .slice a2 n2 c2] 102)).alloc (.cells #[.int .i64 (b.a : Int), .int .i64 (b.o : Int), .int .i64 (b.t : Int)] 63) = w0 at *
  go_loopw [7] (fun s7 wr => ∃ j : Nat, j ≤ 2 ^ b.o ∧ s7 = .int .i64 ((b.a + j : Nat) : Int) ∧ Hid (lN w wr bs (some ⟨bb, 0, none⟩) a2 n1 n2 c1 c2 z.f z.e b { z with y := mV z.y z.f b.a t j })) (fun s7 _ => b.fin - (intOf s7).toNat)
  case atStart => exact ⟨0, Nat.zero_le _, by simp, HI⟩
  case round =>
   obtain ⟨j, hj, rfl, HK⟩ := hrel
   clear HI hown hown0
   have I := HK.out
   have hHi := I.hi
   have k60 := I.k6 0
   have k61 := I.k6 1
   have k62 := I.k6 2
   simp only [gB, gC, gD] at k60 k61 k62
   clear I
   have hwr : w.heap.size + 1 < wr.heap.size := by omega
   go_wp2_with fail
   refine (iD b _ hfit.1 (by omega)).mono ?_
   rintro ev w1 ⟨rfl, hb1⟩
   have HK1 := gO (HK.out.below hb1 hbs)
   clear hb1 k60 k61 k62 HK
   have I := HK1.out
   have aD1 := I.hi
   have k60 := I.k6 0
   have k61 := I.k6 1
   have k62 := I.k6 2
   have k30 := I.k3 0
   have k32 := I.k3 2
   have k33 := I.k3 3
   simp only [gB, gC, gD] at k60 k61 k62 k30 k32 k33
   clear hwr
   have hwr : w.heap.size + 1 < w1.heap.size := by omega
   by_cases hlt : j < 2 ^ b.o
   ·have hJ : (b.a + j - z.f) / 8 < z.y.length := by rw [hz.1.len]; have := hfit.2.1; have := hz.1.f16; have := hz.1.e16; omega
    have hjx : ((b.a : Int) + j - z.f) / 8 = (((b.a + j - z.f) / 8 : Nat) : Int) := by have := hfit.2.1; omega
    have hfa : (z.f : Int) ≤ b.a + j := by have := hfit.2.1; omega
    have dl : (b.a : Int) + j < b.fin := by unfold Bk.fin; omega
    have hset : Hid (mV z.y z.f b.a t (j + 1) = (mV z.y z.f b.a t j).set ((b.a + j - z.f) / 8) t) := rfl
    have hlen2 := lX z.y z.f b.a t j
    generalize (b.a + j - z.f) / 8 = J at *
    have hJn : (J : Int) < n2 := by omega
    have hJ2 : J < n2 := by omega
    obtain ⟨g, v, eg, hgb, hgs, hgc, hgf⟩ := dW I.own.o2 J (by rw [flat_length bU]; show J < (mV z.y z.f b.a t j).length * 1; omega)
    obtain rfl := eg
    have HK2 := gO (I.UK hJ2 rfl t)
    clear I HK1
    go_wp2
    go_roundw
    case rel => exact ⟨j + 1, by omega, by go_num, by rw [hset.out]; exact HK2⟩
    case measure => simp [intOf]; omega
   ·obtain rfl : j = 2 ^ b.o := by omega
    have dl : ¬ (b.a : Int) + 2 ^ b.o < b.fin := by unfold Bk.fin; push_cast; omega
    clear I
    go_wp2_with fail
    refine (iD b _ hfit.1 (by omega)).mono ?_
    rintro ev w2 ⟨rfl, hb2⟩
    have HK2 := gO (HK1.out.below hb2 hbs)
    clear hb2 k60 k61 k62 HK1 k30 k32 k33 hwr
    dsimp only
    have hdv : (b.a : Int) / 8 * 8 = ((b.a / 8 * 8 : Nat) : Int) := by omega
    simp only [hdv]
    clear hdv
    have hFR : b.a / 8 * 8 ≤ 256 := by omega
    obtain ⟨FR, UM⟩ : ∃ FR, b.a / 8 * 8 = FR := ⟨_, rfl⟩
    rw [UM] at hFR ⊢
    have MV := gO UM
    clear UM
    have hmz : dY FR (max b.fin (FR + 8)) t z.l 0 = z.l := rfl
    have k32 := HK2.out.k3 2
    simp only [gB, gC, gD] at k32
    by_cases hmx : FR + 8 ≤ b.fin
    ·have aAq : (FR : Int) + 8 ≤ (b.fin : Int) := by omega
     have UN : max b.fin (FR + 8) = b.fin := by omega
     go_wp2
     go_loopw [10, 11, 49] (fun _ _ s49 wr => ∃ k : Nat, k ≤ n1 ∧ s49 = .int .i64 (k : Int) ∧ Hid (lN w wr bs (some ⟨bb, 0, none⟩) a2 n1 n2 c1 c2 z.f z.e b { z with l := dY FR (b.fin) t z.l k, y := mV z.y z.f b.a t (2 ^ b.o) })) (fun _ _ s49 _ => n1 - (intOf s49).toNat)
     case atStart => exact ⟨0, Nat.zero_le _, rfl, HK2⟩
     case round =>
      obtain ⟨k, hk, rfl, HK3⟩ := hrel
      clear HK2 k32
      by_cases hlt : k < n1
      ·have hkl : k < z.l.length := by omega
       have hkm : k < (dY FR (b.fin) t z.l k).length := by rw [nU]; exact hkl
       have I := HK3.out
       have hHi := I.hi
       obtain ⟨bb', off', e', CJ, hc'⟩ := aK aI (by decide) I.own.at.r1 hkm
       obtain ⟨rfl, rfl⟩ : bb = bb' ∧ 0 = off' := by simpa using e'
       rw [Nat.zero_add, tN FR (b.fin) t z.l k hkl hkm] at hc'
       obtain ⟨hc0, hc1, hc2⟩ := bD (o := k * 3) hc'
       have hfx := (hz.2.fit _ (gL hkl)).1
       have HP : Hid (FR ≤ z.l[k].a ∧ z.l[k].fin ≤ b.fin → ∀ W, lN w W bs (some ⟨bb, 0, none⟩) a2 n1 n2 c1 c2 z.f z.e b { z with l := dY FR (b.fin) t z.l k, y := mV z.y z.f b.a t (2 ^ b.o) } → lN w (W.setCell ⟨bb, k * 3 + 2, none⟩ (.int .i64 (t : Int))) bs (some ⟨bb, 0, none⟩) a2 n1 n2 c1 c2 z.f z.e b { z with l := dY FR (b.fin) t z.l (k + 1), y := mV z.y z.f b.a t (2 ^ b.o) }) := by
        intro h W hW
        have h1 := hW.QZ hkm rfl t
        rw [Bh FR (b.fin) t z.l k hkl hkm h]
        exact h1
       have HS := gO (yH FR (b.fin) t z.l k hkl)
       obtain ⟨g5, v5, e5, _, _, hgc, hgf⟩ := dW I.own.o1 (k * 3 + 2) (by rw [flat_length aI]; show k * 3 + 2 < (dY FR (b.fin) t z.l k).length * 3; omega)
       obtain rfl : bb = g5 := by simpa using e5
       clear hc' I e' hkm e5
       generalize z.l[k] = x at *
       have hwr : w.heap.size + 1 < wr.heap.size := by omega
       have hbn := aC wr (.cells #[.int .i64 (x.a : Int), .int .i64 (x.o : Int), .int .i64 (x.t : Int)] 63)
       have HK4 := gO (HK3.out.below hbn hbs)
       have zY := (hbn.cell (p := ⟨bb, k * 3 + 2, none⟩) CJ).trans hgc
       have GZ := (hbn.frozen (p := ⟨bb, k * 3 + 2, none⟩) CJ).trans hgf
       have K11 := aY wr #[.int .i64 (x.a : Int), .int .i64 (x.o : Int), .int .i64 (x.t : Int)] 63
       have hkn : (k : Int) < n1 := by omega
       have h3a : x.a ≤ 1000 := by have := hfx.2.2.1; omega
       have hbx := gI CJ hbn.size
       clear hgc hgf CJ
       by_cases hge : FR ≤ x.a
       ·have UO : (FR : Int) ≤ x.a := by omega
        go_wp2_with fail
        clear hbn hc0 hc1 hc2 K11
        generalize wr.alloc (.cells #[.int .i64 (x.a : Int), .int .i64 (x.o : Int), .int .i64 (x.t : Int)] 63) = w4 at *
        refine (iD x _ hfx.1 h3a).mono ?_
        rintro ev w5 ⟨rfl, hb5⟩
        have HK5 := gO (HK4.out.below hb5 hbs)
        have aAs := (hb5.cell (p := ⟨bb, k * 3 + 2, none⟩) hbx).trans zY
        have aAt := (hb5.frozen (p := ⟨bb, k * 3 + 2, none⟩) hbx).trans GZ
        have k32 := HK5.out.k3 2
        simp only [gB, gC, gD] at k32
        clear hb5 HK4 HK3 zY GZ
        dsimp only
        by_cases hle : x.fin ≤ b.fin
        ·have hle2 : (x.fin : Int) ≤ ((b.fin : Nat) : Int) := by omega
         have HK6 := gO (HP.out ⟨hge, hle⟩ _ HK5.out)
         push_cast at hle2
         go_wp2
         go_roundw
         case rel => exact ⟨k + 1, by omega, by go_num, HK6⟩
         case measure => simp [intOf]; omega
        ·have hle2 : ¬ (x.fin : Int) ≤ ((b.fin : Nat) : Int) := by omega
         push_cast at hle2
         have HK6 : Hid (lN w w5 bs (some ⟨bb, 0, none⟩) a2 n1 n2 c1 c2 z.f z.e b { z with l := dY FR (b.fin) t z.l (k + 1), y := mV z.y z.f b.a t (2 ^ b.o) }) := by
          rw [HS.out (fun h => hle h.2)]
          exact HK5
         go_wp2
         go_roundw
         case rel => exact ⟨k + 1, by omega, by go_num, HK6⟩
         case measure => simp [intOf]; omega
       ·have UO : ¬ (FR : Int) ≤ x.a := by omega
        have HK6 : Hid (lN w (wr.alloc (.cells #[.int .i64 (x.a : Int), .int .i64 (x.o : Int), .int .i64 (x.t : Int)] 63)) bs (some ⟨bb, 0, none⟩) a2 n1 n2 c1 c2 z.f z.e b { z with l := dY FR (b.fin) t z.l (k + 1), y := mV z.y z.f b.a t (2 ^ b.o) }) := by
         rw [HS.out (fun h => hge h.1)]
         exact HK4
        clear zY GZ
        go_wp2
        go_roundw
        case rel => exact ⟨k + 1, by omega, by go_num, HK6⟩
        case measure => simp [intOf]; omega
      ·obtain rfl : k = n1 := by omega
       have HF : Hid (lN w wr bs (some ⟨bb, 0, none⟩) a2 k n2 c1 c2 z.f z.e b (z.steal z.l[i] t)) := by
        have hh := HB.out
        subst hh
        have hf := MV.out
        subst hf
        unfold Zn.steal
        rw [if_neg ho2, UN]
        have := HK3.out
        rw [show k = z.l.length by omega] at this
        rw [Bg] at this
        rw [show k = z.l.length by omega]
        exact this
       go_wp2
       refine bodyPost_end (v := .tuple #[]) (by simp [results, Tryz.results192, go_sem]) rfl ⟨rfl, ?_, ?_⟩
       ·have h7 := HF.out.own
        rw [HB.out] at h7
        exact h7
       ·exact HF.out.bw

    ·have aAq : ¬ (FR : Int) + 8 ≤ (b.fin : Int) := by omega
     have UN : max b.fin (FR + 8) = FR + 8 := by omega
     go_wp2
     go_loopw [10, 11, 49] (fun _ _ s49 wr => ∃ k : Nat, k ≤ n1 ∧ s49 = .int .i64 (k : Int) ∧ Hid (lN w wr bs (some ⟨bb, 0, none⟩) a2 n1 n2 c1 c2 z.f z.e b { z with l := dY FR (FR + 8) t z.l k, y := mV z.y z.f b.a t (2 ^ b.o) })) (fun _ _ s49 _ => n1 - (intOf s49).toNat)
     case atStart => exact ⟨0, Nat.zero_le _, rfl, HK2⟩
     case round =>
      obtain ⟨k, hk, rfl, HK3⟩ := hrel
      clear HK2 k32
      by_cases hlt : k < n1
      ·have hkl : k < z.l.length := by omega
       have hkm : k < (dY FR (FR + 8) t z.l k).length := by rw [nU]; exact hkl
       have I := HK3.out
       have hHi := I.hi
       obtain ⟨bb', off', e', CJ, hc'⟩ := aK aI (by decide) I.own.at.r1 hkm
       obtain ⟨rfl, rfl⟩ : bb = bb' ∧ 0 = off' := by simpa using e'
       rw [Nat.zero_add, tN FR (FR + 8) t z.l k hkl hkm] at hc'
       obtain ⟨hc0, hc1, hc2⟩ := bD (o := k * 3) hc'
       have hfx := (hz.2.fit _ (gL hkl)).1
       have HP : Hid (FR ≤ z.l[k].a ∧ z.l[k].fin ≤ FR + 8 → ∀ W, lN w W bs (some ⟨bb, 0, none⟩) a2 n1 n2 c1 c2 z.f z.e b { z with l := dY FR (FR + 8) t z.l k, y := mV z.y z.f b.a t (2 ^ b.o) } → lN w (W.setCell ⟨bb, k * 3 + 2, none⟩ (.int .i64 (t : Int))) bs (some ⟨bb, 0, none⟩) a2 n1 n2 c1 c2 z.f z.e b { z with l := dY FR (FR + 8) t z.l (k + 1), y := mV z.y z.f b.a t (2 ^ b.o) }) := by
        intro h W hW
        have h1 := hW.QZ hkm rfl t
        rw [Bh FR (FR + 8) t z.l k hkl hkm h]
        exact h1
       have HS := gO (yH FR (FR + 8) t z.l k hkl)
       obtain ⟨g5, v5, e5, _, _, hgc, hgf⟩ := dW I.own.o1 (k * 3 + 2) (by rw [flat_length aI]; show k * 3 + 2 < (dY FR (FR + 8) t z.l k).length * 3; omega)
       obtain rfl : bb = g5 := by simpa using e5
       clear hc' I e' hkm e5
       generalize z.l[k] = x at *
       have hwr : w.heap.size + 1 < wr.heap.size := by omega
       have hbn := aC wr (.cells #[.int .i64 (x.a : Int), .int .i64 (x.o : Int), .int .i64 (x.t : Int)] 63)
       have HK4 := gO (HK3.out.below hbn hbs)
       have zY := (hbn.cell (p := ⟨bb, k * 3 + 2, none⟩) CJ).trans hgc
       have GZ := (hbn.frozen (p := ⟨bb, k * 3 + 2, none⟩) CJ).trans hgf
       have K11 := aY wr #[.int .i64 (x.a : Int), .int .i64 (x.o : Int), .int .i64 (x.t : Int)] 63
       have hkn : (k : Int) < n1 := by omega
       have h3a : x.a ≤ 1000 := by have := hfx.2.2.1; omega
       have hbx := gI CJ hbn.size
       clear hgc hgf CJ
       by_cases hge : FR ≤ x.a
       ·have UO : (FR : Int) ≤ x.a := by omega
        go_wp2_with fail
        clear hbn hc0 hc1 hc2 K11
        generalize wr.alloc (.cells #[.int .i64 (x.a : Int), .int .i64 (x.o : Int), .int .i64 (x.t : Int)] 63) = w4 at *
        refine (iD x _ hfx.1 h3a).mono ?_
        rintro ev w5 ⟨rfl, hb5⟩
        have HK5 := gO (HK4.out.below hb5 hbs)
        have aAs := (hb5.cell (p := ⟨bb, k * 3 + 2, none⟩) hbx).trans zY
        have aAt := (hb5.frozen (p := ⟨bb, k * 3 + 2, none⟩) hbx).trans GZ
        have k32 := HK5.out.k3 2
        simp only [gB, gC, gD] at k32
        clear hb5 HK4 HK3 zY GZ
        dsimp only
        by_cases hle : x.fin ≤ FR + 8
        ·have hle2 : (x.fin : Int) ≤ ((FR + 8 : Nat) : Int) := by omega
         have HK6 := gO (HP.out ⟨hge, hle⟩ _ HK5.out)
         push_cast at hle2
         go_wp2
         go_roundw
         case rel => exact ⟨k + 1, by omega, by go_num, HK6⟩
         case measure => simp [intOf]; omega
        ·have hle2 : ¬ (x.fin : Int) ≤ ((FR + 8 : Nat) : Int) := by omega
         push_cast at hle2
         have HK6 : Hid (lN w w5 bs (some ⟨bb, 0, none⟩) a2 n1 n2 c1 c2 z.f z.e b { z with l := dY FR (FR + 8) t z.l (k + 1), y := mV z.y z.f b.a t (2 ^ b.o) }) := by
          rw [HS.out (fun h => hle h.2)]
          exact HK5
         go_wp2
         go_roundw
         case rel => exact ⟨k + 1, by omega, by go_num, HK6⟩
         case measure => simp [intOf]; omega
       ·have UO : ¬ (FR : Int) ≤ x.a := by omega
        have HK6 : Hid (lN w (wr.alloc (.cells #[.int .i64 (x.a : Int), .int .i64 (x.o : Int), .int .i64 (x.t : Int)] 63)) bs (some ⟨bb, 0, none⟩) a2 n1 n2 c1 c2 z.f z.e b { z with l := dY FR (FR + 8) t z.l (k + 1), y := mV z.y z.f b.a t (2 ^ b.o) }) := by
         rw [HS.out (fun h => hge h.1)]
         exact HK4
        clear zY GZ
        go_wp2
        go_roundw
        case rel => exact ⟨k + 1, by omega, by go_num, HK6⟩
        case measure => simp [intOf]; omega
      ·obtain rfl : k = n1 := by omega
       have HF : Hid (lN w wr bs (some ⟨bb, 0, none⟩) a2 k n2 c1 c2 z.f z.e b (z.steal z.l[i] t)) := by
        have hh := HB.out
        subst hh
        have hf := MV.out
        subst hf
        unfold Zn.steal
        rw [if_neg ho2, UN]
        have := HK3.out
        rw [show k = z.l.length by omega] at this
        rw [Bg] at this
        rw [show k = z.l.length by omega]
        exact this
       go_wp2
       refine bodyPost_end (v := .tuple #[]) (by simp [results, Tryz.results192, go_sem]) rfl ⟨rfl, ?_, ?_⟩
       ·have h7 := HF.out.own
        rw [HB.out] at h7
        exact h7
       ·exact HF.out.bw
end
end Go.Proofs.YtcmpmobhongkiaaGreatDoor
