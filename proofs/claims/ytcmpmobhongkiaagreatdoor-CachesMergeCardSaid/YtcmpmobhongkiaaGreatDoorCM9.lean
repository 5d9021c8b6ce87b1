/- texts of this claim, joined. -/
import Derived.Test.YtcmpmobhongkiaaGreatDoorCM0
import Derived.Test.YtcmpmobhongkiaaGreatDoorCM1
import Derived.Test.YtcmpmobhongkiaaGreatDoorCM2
import Derived.Test.YtcmpmobhongkiaaGreatDoorCM6
import Derived.Test.YtcmpmobhongkiaaGreatDoorCM7
import Derived.Test.YtcmpmobhongkiaaGreatDoorCM8
set_option linter.unusedVariables false
set_option linter.unusedSimpArgs false
namespace Go.Proofs.YtcmpmobhongkiaaGreatDoor
section
open Go.RowKit

theorem OD (k : Int) (w : World) (h1 : 1 ≤ k) (h2 : k ≤ 64) (h3 : 4 ≤ 16 / k) :
  Calls Tryz.prog 70 #[.int .i64 k] w fun e w' => e = .returned (.tuple #[.int .i64 0, .int .i64 (16 / k), .int .i64 0]) ∧ w = w' := by
 go_enter Tryz.func70, Tryz.ntmps70
 go_wp2
 refine wp_loop_rounds 1 ?_; rw [rounds_succ]
 go_wp2
 go_ret3
 exact ⟨rfl, rfl⟩

theorem OE (k : Int) (w : World) (h1 : 1 ≤ k) (h2 : k ≤ 64) (h3 : 16 / k < 4) (h4 : 4 ≤ 32 / k) :
  Calls Tryz.prog 70 #[.int .i64 k] w fun e w' => e = .returned (.tuple #[.int .i64 1, .int .i64 (32 / k), .int .i64 0]) ∧ w = w' := by
 go_enter Tryz.func70, Tryz.ntmps70
 go_wp2
 refine wp_loop_rounds 2 ?_; rw [rounds_succ]
 go_wp2
 rw [rounds_succ]
 go_wp2
 go_ret3
 exact ⟨rfl, rfl⟩

theorem OG (k : Int) (w : World) (h1 : 1 ≤ k) (h2 : k ≤ 64) (h3 : 16 / k < 4) (h4 : 32 / k < 4) :
  Calls Tryz.prog 70 #[.int .i64 k] w fun e w' => e = .returned (.tuple #[.int .i64 2, .int .i64 (64 / k), .int .i64 0]) ∧ w = w' := by
 go_enter Tryz.func70, Tryz.ntmps70
 go_wp2
 refine wp_loop_rounds 3 ?_; rw [rounds_succ]
 go_wp2
 rw [rounds_succ]
 go_wp2
 rw [rounds_succ]
 go_wp2
 all_goals (go_ret3; exact ⟨rfl, rfl⟩)
end
section
def rH (b : Bk) : Nat × Nat := (b.a, b.o)
end
section
open Go.RowKit

theorem xP (t : Nat) : ∀ (l : List Bk) (k : Nat) (hk : k < l.length), (flat aO l).set (k * 3 + 2) (vI t) = flat aO (l.set k { l[k] with t := t })
 | x :: l, 0, _ => by rw [dG, gG, dG]; rfl
 | x :: l, k + 1, hk => by
  have hk' : k < l.length := by simpa using hk
  rw [dG, gH, dG, List.set_append_right _ _ (by rw [aI]; omega), aI, show (k + 1) * 3 + 2 - 3 = k * 3 + 2 by omega, xP t l k hk']
  rfl

theorem fG.Wx {W : World} {bs : Nat} {a1 a2 : Option Addr} {n1 n2 c1 c2 : Nat} {z : Zn} (h : fG W bs a1 a2 n1 n2 c1 c2 z) {j g : Nat} (hj : j < n2) (hg : a2 = some ⟨g, 0, none⟩) (t : Nat) : fG (W.setCell ⟨g, j, none⟩ (.int .i64 (t : Int))) bs a1 a2 n1 n2 c1 c2 { z with y := z.y.set j t } := by
 subst hg
 have h1 := (World.ownsRow.stored h.o2 j (vI t)).1
 rw [BO] at h1
 exact ⟨h.l1, by simp only [List.length_set]; exact h.l2, dL h.o1 (fun e => uQ h.o1 h.o2 (by decide) g e rfl) _, h1⟩
theorem fG.Ti {W : World} {bs : Nat} {a1 a2 : Option Addr} {n1 n2 c1 c2 : Nat} {z : Zn} (h : fG W bs a1 a2 n1 n2 c1 c2 z) {k g : Nat} (hk : k < z.l.length) (hg : a1 = some ⟨g, 0, none⟩) (t : Nat) : fG (W.setCell ⟨g, k * 3 + 2, none⟩ (.int .i64 (t : Int))) bs a1 a2 n1 n2 c1 c2 { z with l := z.l.set k { z.l[k] with t := t } } := by
 subst hg
 have h1 := (World.ownsRow.stored h.o1 (k * 3 + 2) (vI t)).1
 rw [xP t z.l k hk] at h1
 exact ⟨by simp only [List.length_set]; exact h.l1, h.l2, h1, dL h.o2 (fun e => uQ h.o1 h.o2 (by decide) g rfl e) _⟩

structure mF (w W : World) (bs : Nat) (a1 a2 : Option Addr) (n1 n2 c1 c2 f e : Nat) (b : Bk) (z : Zn) : Prop where
 k3 : ∀ i, W.cell? ⟨w.heap.size, i, none⟩ = (#[.int .i64 f, .int .i64 e, .slice a1 n1 c1, .slice a2 n2 c2] : Array Value)[i]?
 k6 : ∀ i, W.cell? ⟨w.heap.size + 1, i, none⟩ = (#[.int .i64 b.a, .int .i64 b.o, .int .i64 b.t] : Array Value)[i]?
 own : fG W bs a1 a2 n1 n2 c1 c2 z
 hi : w.heap.size + 2 ≤ W.heap.size
 bw : Below bs w W
 g1 : ∀ g, a1 = some ⟨g, 0, none⟩ → g < w.heap.size ∧ bs ≤ g
 g2 : ∀ g, a2 = some ⟨g, 0, none⟩ → g < w.heap.size ∧ bs ≤ g
section
variable {w W W' : World} {bs : Nat} {a1 a2 : Option Addr} {n1 n2 c1 c2 f e : Nat} {b : Bk} {z : Zn}
theorem mF.below (h : mF w W bs a1 a2 n1 n2 c1 c2 f e b z) (hb : Below W.heap.size W W') (hbs : bs ≤ w.heap.size) : mF w W' bs a1 a2 n1 n2 c1 c2 f e b z := by
 have h2 := h.hi
 exact ⟨aC h.k3 (by omega) hb, aC h.k6 (by omega) hb, h.own.below hb, gQ h2 hb.size, xM hb h.bw (by omega), h.g1, h.g2⟩
theorem mF.Wx (h : mF w W bs a1 a2 n1 n2 c1 c2 f e b z) {j g : Nat} (hj : j < n2) (hg : a2 = some ⟨g, 0, none⟩) (t : Nat) : mF w (W.setCell ⟨g, j, none⟩ (.int .i64 (t : Int))) bs a1 a2 n1 n2 c1 c2 f e b { z with y := z.y.set j t } := by
 have h1 := h.g2 g hg
 exact ⟨aA h.k3 (by omega) _ _, aA h.k6 (by omega) _ _, h.own.Wx hj hg t, by simpa using h.hi, h.bw.setCell h1.2 _, h.g1, h.g2⟩
theorem mF.Ti (h : mF w W bs a1 a2 n1 n2 c1 c2 f e b z) {k g : Nat} (hk : k < z.l.length) (hg : a1 = some ⟨g, 0, none⟩) (t : Nat) : mF w (W.setCell ⟨g, k * 3 + 2, none⟩ (.int .i64 (t : Int))) bs a1 a2 n1 n2 c1 c2 f e b { z with l := z.l.set k { z.l[k] with t := t } } := by
 have h1 := h.g1 g hg
 exact ⟨aA h.k3 (by omega) _ _, aA h.k6 (by omega) _ _, h.own.Ti hk hg t, by simpa using h.hi, h.bw.setCell h1.2 _, h.g1, h.g2⟩
end

def eX (fr tp t : Nat) (l : List Bk) (k : Nat) : List Bk := (l.take k).map (lY fr tp t) ++ l.drop k
theorem BZ (fr tp t : Nat) (l : List Bk) : eX fr tp t l l.length = l.map (lY fr tp t) := by simp [eX]
theorem oP (fr tp t : Nat) (l : List Bk) (k : Nat) : (eX fr tp t l k).length = l.length := by
 unfold eX
 rw [List.length_append, List.length_map, List.length_take, List.length_drop]; omega
theorem MQ (fr tp t : Nat) (l : List Bk) (k : Nat) (hk : k < l.length) : (eX fr tp t l k)[k]? = some l[k] := by
 unfold eX
 rw [List.getElem?_append_right (by rw [List.length_map, List.length_take]; omega), List.length_map, List.length_take, List.getElem?_drop, show k + (k - min k l.length) = k by omega]
 exact gJ hk
theorem uT (fr tp t : Nat) (l : List Bk) (k : Nat) (hk : k < l.length) (hk2 : k < (eX fr tp t l k).length) : (eX fr tp t l k)[k] = l[k] := by
 have h := MQ fr tp t l k hk
 rw [gJ hk2] at h
 exact gP h
theorem y7 (fr tp t : Nat) (l : List Bk) (k : Nat) (hk : k < l.length) : eX fr tp t l (k + 1) = (eX fr tp t l k).set k (lY fr tp t l[k]) := by
 unfold eX
 rw [List.take_succ_eq_append_getElem hk, List.map_append, List.drop_eq_getElem_cons hk, List.set_append_right _ _ (by rw [List.length_map, List.length_take]; omega)]
 rw [show k - ((l.take k).map (lY fr tp t)).length = 0 by rw [List.length_map, List.length_take]; omega, gG, List.append_assoc]
 rfl
theorem zA (fr tp t : Nat) (l : List Bk) (k : Nat) (hk : k < l.length) (h : ¬ (fr ≤ l[k].a ∧ l[k].fin ≤ tp)) : eX fr tp t l (k + 1) = eX fr tp t l k := by
 have e : lY fr tp t l[k] = l[k] := by unfold lY; rw [if_neg h]
 rw [y7 _ _ _ _ _ hk, e]
 have hk2 : k < (eX fr tp t l k).length := by rw [oP]; exact hk
 have h2 := List.set_getElem_self hk2
 rw [uT fr tp t l k hk hk2] at h2
 exact h2
theorem Cb (fr tp t : Nat) (l : List Bk) (k : Nat) (hk : k < l.length) (hk2 : k < (eX fr tp t l k).length) (h : fr ≤ l[k].a ∧ l[k].fin ≤ tp) : eX fr tp t l (k + 1) = (eX fr tp t l k).set k { (eX fr tp t l k)[k] with t := t } := by
 rw [y7 _ _ _ _ _ hk, uT fr tp t l k hk hk2]
 unfold lY
 rw [if_pos h]

set_option maxHeartbeats 4000000 in
set_option maxRecDepth 100000 in
theorem lZ (bs : Nat) (a1 a2 : Option Addr) (n1 n2 c1 c2 : Nat) (z : Zn) (i t : Nat) (hi : i < z.l.length) (w : World) (hown : fG w bs a1 a2 n1 n2 c1 c2 z) (hz : z.ok) (ht : t < 3) (hbs : bs ≤ w.heap.size) :
  Calls Tryz.prog 192 #[.agg #[.int .i64 z.f, .int .i64 z.e, .slice a1 n1 c1, .slice a2 n2 c2], .int .i64 i, .int .i64 t] w fun ev w' => ev = .returned (.tuple #[]) ∧ fG w' bs a1 a2 n1 n2 c1 c2 (z.steal z.l[i] t) ∧ Below bs w w' := by
 have hlen : z.l.length ≤ 256 := gQ (oM.length_le hz.2 (fun b hb => (hz.2.fit b hb).1.2.2.1)) hz.1.e2
 have hee := hz.1.e2
 have l1 := hown.l1
 have l2 := hown.l2
 have hfit := (hz.2.fit _ (gL hi)).1
 obtain ⟨K3, F3, hsz, hbw⟩ := boxes1 w #[.int .i64 (z.f : Int), .int .i64 (z.e : Int), .slice a1 n1 c1, .slice a2 n2 c2] 102
 have hown0 := hown.below hbw
 obtain ⟨bb, off, ha1, hbb, hc⟩ := aN aI (by decide) hown0.at.r1 hi
 obtain ⟨gg, vg, eg1, hg2, hg3, _⟩ := eF hown.o1 (i * 3) (by rw [flat_length aI]; omega)
 have hbg : bb = gg ∧ off = 0 := by rw [ha1] at eg1; simpa using eg1
 obtain ⟨rfl, rfl⟩ := hbg
 obtain rfl := ha1
 rw [Nat.zero_add] at hc
 obtain ⟨hc0, hc1, hc2⟩ := bK (o := i * 3) hc
 have hG2 : ∀ g, a2 = some ⟨g, 0, none⟩ → g < w.heap.size ∧ bs ≤ g := fun g hg => by have := hown.o2.lt g (by subst hg; rfl); omega
 have hin : i < n1 := by omega
 have hbt := (hz.2.fit _ (gL hi)).2
 generalize hb : z.l[i] = b at *
 have HB := gO hb
 clear hb hc
 have hae : b.a ≤ 256 := by have := hfit.2.2.1; omega
 have hfin := pU hz.1.e16 hfit
 have hpw := sJ hfit.1
 have hbw2 := aB (w.alloc (.cells #[.int .i64 (z.f : Int), .int .i64 (z.e : Int), .slice (some ⟨bb, 0, none⟩) n1 c1, .slice a2 n2 c2] 102)) (.cells #[.int .i64 (b.a : Int), .int .i64 (b.o : Int), .int .i64 (b.t : Int)] 63)
 have Wy := Below.step hbw hbw2
 have hG1 : ∀ g, some (⟨bb, 0, none⟩ : Addr) = some ⟨g, 0, none⟩ → g < w.heap.size ∧ bs ≤ g := fun g hg => by
  obtain rfl : bb = g := by simpa using hg
  exact ⟨hg3, hg2⟩
 have I0 : mF w ((w.alloc (.cells #[.int .i64 (z.f : Int), .int .i64 (z.e : Int), .slice (some ⟨bb, 0, none⟩) n1 c1, .slice a2 n2 c2] 102)).alloc (.cells #[.int .i64 (b.a : Int), .int .i64 (b.o : Int), .int .i64 (b.t : Int)] 63)) bs (some ⟨bb, 0, none⟩) a2 n1 n2 c1 c2 z.f z.e b z :=
  ⟨aC K3 (by omega) hbw2, fun i => by have := bC (w.alloc (.cells #[.int .i64 (z.f : Int), .int .i64 (z.e : Int), .slice (some ⟨bb, 0, none⟩) n1 c1, .slice a2 n2 c2] 102)) #[.int .i64 (b.a : Int), .int .i64 (b.o : Int), .int .i64 (b.t : Int)] 63 i; rwa [World.size_alloc] at this, hown.below Wy, by simp, Wy.mono hbs, hG1, hG2⟩
 have HI := gO I0
 clear I0 K3 F3 hbw2
 go_enter Tryz.func192, Tryz.ntmps192
 by_cases ho2 : b.o < 2
 ·go_wp2_with fail
  refine bodyPost_ret (v := .tuple #[]) (by simp [results, Tryz.results192, go_sem]) rfl ⟨rfl, ?_, ?_⟩
  ·unfold Zn.steal
   rw [if_pos ho2]
   exact HI.out.own
  ·exact HI.out.bw
 ·have aGg : ¬ (b.o : Int) < 2 := by omega
  go_wp2_with fail
  clear hc0 hc1 hc2
  generalize (w.alloc (.cells #[.int .i64 (z.f : Int), .int .i64 (z.e : Int), .slice (some ⟨bb, 0, none⟩) n1 c1, .slice a2 n2 c2] 102)).alloc (.cells #[.int .i64 (b.a : Int), .int .i64 (b.o : Int), .int .i64 (b.t : Int)] 63) = w0 at *
  go_loopw [7] (fun s7 wr => ∃ j : Nat, j ≤ 2 ^ b.o ∧ s7 = .int .i64 ((b.a + j : Nat) : Int) ∧ Hid (mF w wr bs (some ⟨bb, 0, none⟩) a2 n1 n2 c1 c2 z.f z.e b { z with y := nT z.y z.f b.a t j })) (fun s7 _ => b.fin - (intOf s7).toNat)
  case atStart => exact ⟨0, Nat.zero_le _, by simp, HI⟩
  case round =>
   obtain ⟨j, hj, rfl, HK⟩ := hrel
   clear HI hown hown0
   have I := HK.out
   have hHi := I.hi
   have k60 := I.k6 0
   have k61 := I.k6 1
   have k62 := I.k6 2
   simp only [gB, gC, gD] at k60 k61 k62
   clear I
   have hwr : w.heap.size + 1 < wr.heap.size := by omega
   go_wp2_with fail
   refine (iV b _ hfit.1 (by omega)).mono ?_
   rintro ev w1 ⟨rfl, hb1⟩
   have HK1 := gO (HK.out.below hb1 hbs)
   clear hb1 k60 k61 k62 HK
   have I := HK1.out
   have aGh := I.hi
   have k60 := I.k6 0
   have k61 := I.k6 1
   have k62 := I.k6 2
   have k30 := I.k3 0
   have k32 := I.k3 2
   have k33 := I.k3 3
   simp only [gB, gC, gD] at k60 k61 k62 k30 k32 k33
   clear hwr
   have hwr : w.heap.size + 1 < w1.heap.size := by omega
   by_cases hlt : j < 2 ^ b.o
   ·have hJ : (b.a + j - z.f) / 8 < z.y.length := by rw [hz.1.len]; have := hfit.2.1; have := hz.1.f16; have := hz.1.e16; omega
    have Ve : ((b.a : Int) + j - z.f) / 8 = (((b.a + j - z.f) / 8 : Nat) : Int) := by have := hfit.2.1; omega
    have hfa : (z.f : Int) ≤ b.a + j := by have := hfit.2.1; omega
    have dl : (b.a : Int) + j < b.fin := by unfold Bk.fin; omega
    have hset : Hid (nT z.y z.f b.a t (j + 1) = (nT z.y z.f b.a t j).set ((b.a + j - z.f) / 8) t) := rfl
    have hlen2 := mX z.y z.f b.a t j
    generalize (b.a + j - z.f) / 8 = J at *
    have hJn : (J : Int) < n2 := by omega
    have hJ2 : J < n2 := by omega
    obtain ⟨g, v, eg, hgb, hgs, hgc, hgf⟩ := eF I.own.o2 J (by rw [flat_length bM]; show J < (nT z.y z.f b.a t j).length * 1; omega)
    obtain rfl := eg
    have HK2 := gO (I.Wx hJ2 rfl t)
    clear I HK1
    go_wp2
    go_roundw
    case rel => exact ⟨j + 1, by omega, by go_num, by rw [hset.out]; exact HK2⟩
    case measure => simp [intOf]; omega
   ·obtain rfl : j = 2 ^ b.o := by omega
    have dl : ¬ (b.a : Int) + 2 ^ b.o < b.fin := by unfold Bk.fin; push_cast; omega
    clear I
    go_wp2_with fail
    refine (iV b _ hfit.1 (by omega)).mono ?_
    rintro ev w2 ⟨rfl, hb2⟩
    have HK2 := gO (HK1.out.below hb2 hbs)
    clear hb2 k60 k61 k62 HK1 k30 k32 k33 hwr
    dsimp only
    have hdv : (b.a : Int) / 8 * 8 = ((b.a / 8 * 8 : Nat) : Int) := by omega
    simp only [hdv]
    clear hdv
    have hFR : b.a / 8 * 8 ≤ 256 := by omega
    obtain ⟨FR, WA⟩ : ∃ FR, b.a / 8 * 8 = FR := ⟨_, rfl⟩
    rw [WA] at hFR ⊢
    have vZ := gO WA
    clear WA
    have hmz : eX FR (max b.fin (FR + 8)) t z.l 0 = z.l := rfl
    have k32 := HK2.out.k3 2
    simp only [gB, gC, gD] at k32
    by_cases hmx : FR + 8 ≤ b.fin
    ·have aCg : (FR : Int) + 8 ≤ (b.fin : Int) := by omega
     have WB : max b.fin (FR + 8) = b.fin := by omega
     go_wp2
     go_loopw [10, 11, 49] (fun _ _ s49 wr => ∃ k : Nat, k ≤ n1 ∧ s49 = .int .i64 (k : Int) ∧ Hid (mF w wr bs (some ⟨bb, 0, none⟩) a2 n1 n2 c1 c2 z.f z.e b { z with l := eX FR (b.fin) t z.l k, y := nT z.y z.f b.a t (2 ^ b.o) })) (fun _ _ s49 _ => n1 - (intOf s49).toNat)
     case atStart => exact ⟨0, Nat.zero_le _, rfl, HK2⟩
     case round =>
      obtain ⟨k, hk, rfl, HK3⟩ := hrel
      clear HK2 k32
      by_cases hlt : k < n1
      ·have hkl : k < z.l.length := by omega
       have hkm : k < (eX FR (b.fin) t z.l k).length := by rw [oP]; exact hkl
       have I := HK3.out
       have hHi := I.hi
       obtain ⟨bb', off', e', DI, hc'⟩ := aN aI (by decide) I.own.at.r1 hkm
       obtain ⟨rfl, rfl⟩ : bb = bb' ∧ 0 = off' := by simpa using e'
       rw [Nat.zero_add, uT FR (b.fin) t z.l k hkl hkm] at hc'
       obtain ⟨hc0, hc1, hc2⟩ := bK (o := k * 3) hc'
       have hfx := (hz.2.fit _ (gL hkl)).1
       have HP : Hid (FR ≤ z.l[k].a ∧ z.l[k].fin ≤ b.fin → ∀ W, mF w W bs (some ⟨bb, 0, none⟩) a2 n1 n2 c1 c2 z.f z.e b { z with l := eX FR (b.fin) t z.l k, y := nT z.y z.f b.a t (2 ^ b.o) } → mF w (W.setCell ⟨bb, k * 3 + 2, none⟩ (.int .i64 (t : Int))) bs (some ⟨bb, 0, none⟩) a2 n1 n2 c1 c2 z.f z.e b { z with l := eX FR (b.fin) t z.l (k + 1), y := nT z.y z.f b.a t (2 ^ b.o) }) := by
        intro h W hW
        have h1 := hW.Ti hkm rfl t
        rw [Cb FR (b.fin) t z.l k hkl hkm h]
        exact h1
       have HS := gO (zA FR (b.fin) t z.l k hkl)
       obtain ⟨g5, v5, e5, _, _, hgc, hgf⟩ := eF I.own.o1 (k * 3 + 2) (by rw [flat_length aI]; show k * 3 + 2 < (eX FR (b.fin) t z.l k).length * 3; omega)
       obtain rfl : bb = g5 := by simpa using e5
       clear hc' I e' hkm e5
       generalize z.l[k] = x at *
       have hwr : w.heap.size + 1 < wr.heap.size := by omega
       have hbn := aB wr (.cells #[.int .i64 (x.a : Int), .int .i64 (x.o : Int), .int .i64 (x.t : Int)] 63)
       have HK4 := gO (HK3.out.below hbn hbs)
       have AX := (hbn.cell (p := ⟨bb, k * 3 + 2, none⟩) DI).trans hgc
       have IQ := (hbn.frozen (p := ⟨bb, k * 3 + 2, none⟩) DI).trans hgf
       have K11 := bC wr #[.int .i64 (x.a : Int), .int .i64 (x.o : Int), .int .i64 (x.t : Int)] 63
       have hkn : (k : Int) < n1 := by omega
       have h3a : x.a ≤ 1000 := by have := hfx.2.2.1; omega
       have hbx := gI DI hbn.size
       clear hgc hgf DI
       by_cases hge : FR ≤ x.a
       ·have WC : (FR : Int) ≤ x.a := by omega
        go_wp2_with fail
        clear hbn hc0 hc1 hc2 K11
        generalize wr.alloc (.cells #[.int .i64 (x.a : Int), .int .i64 (x.o : Int), .int .i64 (x.t : Int)] 63) = w4 at *
        refine (iV x _ hfx.1 h3a).mono ?_
        rintro ev w5 ⟨rfl, hb5⟩
        have HK5 := gO (HK4.out.below hb5 hbs)
        have Tj := (hb5.cell (p := ⟨bb, k * 3 + 2, none⟩) hbx).trans AX
        have aCi := (hb5.frozen (p := ⟨bb, k * 3 + 2, none⟩) hbx).trans IQ
        have k32 := HK5.out.k3 2
        simp only [gB, gC, gD] at k32
        clear hb5 HK4 HK3 AX IQ
        dsimp only
        by_cases hle : x.fin ≤ b.fin
        ·have hle2 : (x.fin : Int) ≤ ((b.fin : Nat) : Int) := by omega
         have HK6 := gO (HP.out ⟨hge, hle⟩ _ HK5.out)
         push_cast at hle2
         go_wp2
         go_roundw
         case rel => exact ⟨k + 1, by omega, by go_num, HK6⟩
         case measure => simp [intOf]; omega
        ·have hle2 : ¬ (x.fin : Int) ≤ ((b.fin : Nat) : Int) := by omega
         push_cast at hle2
         have HK6 : Hid (mF w w5 bs (some ⟨bb, 0, none⟩) a2 n1 n2 c1 c2 z.f z.e b { z with l := eX FR (b.fin) t z.l (k + 1), y := nT z.y z.f b.a t (2 ^ b.o) }) := by
          rw [HS.out (fun h => hle h.2)]
          exact HK5
         go_wp2
         go_roundw
         case rel => exact ⟨k + 1, by omega, by go_num, HK6⟩
         case measure => simp [intOf]; omega
       ·have WC : ¬ (FR : Int) ≤ x.a := by omega
        have HK6 : Hid (mF w (wr.alloc (.cells #[.int .i64 (x.a : Int), .int .i64 (x.o : Int), .int .i64 (x.t : Int)] 63)) bs (some ⟨bb, 0, none⟩) a2 n1 n2 c1 c2 z.f z.e b { z with l := eX FR (b.fin) t z.l (k + 1), y := nT z.y z.f b.a t (2 ^ b.o) }) := by
         rw [HS.out (fun h => hge h.1)]
         exact HK4
        clear AX IQ
        go_wp2
        go_roundw
        case rel => exact ⟨k + 1, by omega, by go_num, HK6⟩
        case measure => simp [intOf]; omega
      ·obtain rfl : k = n1 := by omega
       have HF : Hid (mF w wr bs (some ⟨bb, 0, none⟩) a2 k n2 c1 c2 z.f z.e b (z.steal z.l[i] t)) := by
        have hh := HB.out
        subst hh
        have hf := vZ.out
        subst hf
        unfold Zn.steal
        rw [if_neg ho2, WB]
        have := HK3.out
        rw [show k = z.l.length by omega] at this
        rw [BZ] at this
        rw [show k = z.l.length by omega]
        exact this
       go_wp2
       refine bodyPost_end (v := .tuple #[]) (by simp [results, Tryz.results192, go_sem]) rfl ⟨rfl, ?_, ?_⟩
       ·have h7 := HF.out.own
        rw [HB.out] at h7
        exact h7
       ·exact HF.out.bw

    ·have aCg : ¬ (FR : Int) + 8 ≤ (b.fin : Int) := by omega
     have WB : max b.fin (FR + 8) = FR + 8 := by omega
     go_wp2
     go_loopw [10, 11, 49] (fun _ _ s49 wr => ∃ k : Nat, k ≤ n1 ∧ s49 = .int .i64 (k : Int) ∧ Hid (mF w wr bs (some ⟨bb, 0, none⟩) a2 n1 n2 c1 c2 z.f z.e b { z with l := eX FR (FR + 8) t z.l k, y := nT z.y z.f b.a t (2 ^ b.o) })) (fun _ _ s49 _ => n1 - (intOf s49).toNat)
     case atStart => exact ⟨0, Nat.zero_le _, rfl, HK2⟩
     case round =>
      obtain ⟨k, hk, rfl, HK3⟩ := hrel
      clear HK2 k32
      by_cases hlt : k < n1
      ·have hkl : k < z.l.length := by omega
       have hkm : k < (eX FR (FR + 8) t z.l k).length := by rw [oP]; exact hkl
       have I := HK3.out
       have hHi := I.hi
       obtain ⟨bb', off', e', DI, hc'⟩ := aN aI (by decide) I.own.at.r1 hkm
       obtain ⟨rfl, rfl⟩ : bb = bb' ∧ 0 = off' := by simpa using e'
       rw [Nat.zero_add, uT FR (FR + 8) t z.l k hkl hkm] at hc'
       obtain ⟨hc0, hc1, hc2⟩ := bK (o := k * 3) hc'
       have hfx := (hz.2.fit _ (gL hkl)).1
       have HP : Hid (FR ≤ z.l[k].a ∧ z.l[k].fin ≤ FR + 8 → ∀ W, mF w W bs (some ⟨bb, 0, none⟩) a2 n1 n2 c1 c2 z.f z.e b { z with l := eX FR (FR + 8) t z.l k, y := nT z.y z.f b.a t (2 ^ b.o) } → mF w (W.setCell ⟨bb, k * 3 + 2, none⟩ (.int .i64 (t : Int))) bs (some ⟨bb, 0, none⟩) a2 n1 n2 c1 c2 z.f z.e b { z with l := eX FR (FR + 8) t z.l (k + 1), y := nT z.y z.f b.a t (2 ^ b.o) }) := by
        intro h W hW
        have h1 := hW.Ti hkm rfl t
        rw [Cb FR (FR + 8) t z.l k hkl hkm h]
        exact h1
       have HS := gO (zA FR (FR + 8) t z.l k hkl)
       obtain ⟨g5, v5, e5, _, _, hgc, hgf⟩ := eF I.own.o1 (k * 3 + 2) (by rw [flat_length aI]; show k * 3 + 2 < (eX FR (FR + 8) t z.l k).length * 3; omega)
       obtain rfl : bb = g5 := by simpa using e5
       clear hc' I e' hkm e5
       generalize z.l[k] = x at *
       have hwr : w.heap.size + 1 < wr.heap.size := by omega
       have hbn := aB wr (.cells #[.int .i64 (x.a : Int), .int .i64 (x.o : Int), .int .i64 (x.t : Int)] 63)
       have HK4 := gO (HK3.out.below hbn hbs)
       have AX := (hbn.cell (p := ⟨bb, k * 3 + 2, none⟩) DI).trans hgc
       have IQ := (hbn.frozen (p := ⟨bb, k * 3 + 2, none⟩) DI).trans hgf
       have K11 := bC wr #[.int .i64 (x.a : Int), .int .i64 (x.o : Int), .int .i64 (x.t : Int)] 63
       have hkn : (k : Int) < n1 := by omega
       have h3a : x.a ≤ 1000 := by have := hfx.2.2.1; omega
       have hbx := gI DI hbn.size
       clear hgc hgf DI
       by_cases hge : FR ≤ x.a
       ·have WC : (FR : Int) ≤ x.a := by omega
        go_wp2_with fail
        clear hbn hc0 hc1 hc2 K11
        generalize wr.alloc (.cells #[.int .i64 (x.a : Int), .int .i64 (x.o : Int), .int .i64 (x.t : Int)] 63) = w4 at *
        refine (iV x _ hfx.1 h3a).mono ?_
        rintro ev w5 ⟨rfl, hb5⟩
        have HK5 := gO (HK4.out.below hb5 hbs)
        have Tj := (hb5.cell (p := ⟨bb, k * 3 + 2, none⟩) hbx).trans AX
        have aCi := (hb5.frozen (p := ⟨bb, k * 3 + 2, none⟩) hbx).trans IQ
        have k32 := HK5.out.k3 2
        simp only [gB, gC, gD] at k32
        clear hb5 HK4 HK3 AX IQ
        dsimp only
        by_cases hle : x.fin ≤ FR + 8
        ·have hle2 : (x.fin : Int) ≤ ((FR + 8 : Nat) : Int) := by omega
         have HK6 := gO (HP.out ⟨hge, hle⟩ _ HK5.out)
         push_cast at hle2
         go_wp2
         go_roundw
         case rel => exact ⟨k + 1, by omega, by go_num, HK6⟩
         case measure => simp [intOf]; omega
        ·have hle2 : ¬ (x.fin : Int) ≤ ((FR + 8 : Nat) : Int) := by omega
         push_cast at hle2
         have HK6 : Hid (mF w w5 bs (some ⟨bb, 0, none⟩) a2 n1 n2 c1 c2 z.f z.e b { z with l := eX FR (FR + 8) t z.l (k + 1), y := nT z.y z.f b.a t (2 ^ b.o) }) := by
          rw [HS.out (fun h => hle h.2)]
          exact HK5
         go_wp2
         go_roundw
         case rel => exact ⟨k + 1, by omega, by go_num, HK6⟩
         case measure => simp [intOf]; omega
       ·have WC : ¬ (FR : Int) ≤ x.a := by omega
        have HK6 : Hid (mF w (wr.alloc (.cells #[.int .i64 (x.a : Int), .int .i64 (x.o : Int), .int .i64 (x.t : Int)] 63)) bs (some ⟨bb, 0, none⟩) a2 n1 n2 c1 c2 z.f z.e b { z with l := eX FR (FR + 8) t z.l (k + 1), y := nT z.y z.f b.a t (2 ^ b.o) }) := by
         rw [HS.out (fun h => hge h.1)]
         exact HK4
        clear AX IQ
        go_wp2
        go_roundw
        case rel => exact ⟨k + 1, by omega, by go_num, HK6⟩
        case measure => simp [intOf]; omega
      ·obtain rfl : k = n1 := by omega
       have HF : Hid (mF w wr bs (some ⟨bb, 0, none⟩) a2 k n2 c1 c2 z.f z.e b (z.steal z.l[i] t)) := by
        have hh := HB.out
        subst hh
        have hf := vZ.out
        subst hf
        unfold Zn.steal
        rw [if_neg ho2, WB]
        have := HK3.out
        rw [show k = z.l.length by omega] at this
        rw [BZ] at this
        rw [show k = z.l.length by omega]
        exact this
       go_wp2
       refine bodyPost_end (v := .tuple #[]) (by simp [results, Tryz.results192, go_sem]) rfl ⟨rfl, ?_, ?_⟩
       ·have h7 := HF.out.own
        rw [HB.out] at h7
        exact h7
       ·exact HF.out.bw
end
section
open Go.RowKit

def sU : List Bk → Nat
 | [] => 0
 | b :: l => 2 ^ b.o + sU l
theorem Nu (l : List Bk) (i : Nat) (hi : i < l.length) : sU (l.take (i + 1)) = sU (l.take i) + 2 ^ l[i].o := by
 induction l generalizing i with
 | nil => simp at hi
 | cons b l ih =>
  cases i with
  | zero => simp [sU]
  | succ i =>
   have hi' : i < l.length := by simpa using hi
   rw [List.take_succ_cons, List.take_succ_cons, sU, sU, ih i hi']
   simp only [List.getElem_cons_succ]
   omega
theorem TM (l : List Bk) (h : ∀ b ∈ l, b.o ≤ 4) : sU l ≤ l.length * 16 := by
 induction l with
 | nil => simp [sU]
 | cons b l ih =>
  have h1 := ih (fun b hb => h b (by simp [hb]))
  have h2 := sJ (h b (by simp))
  simp only [sU, List.length_cons]
  omega

set_option maxHeartbeats 4000000 in
set_option maxRecDepth 100000 in
theorem Qg (a1 a2 : Option Addr) (n1 n2 c1 c2 : Nat) (z : Zn) (w : World) (hat : Dw w a1 a2 n1 n2 z) (hz : z.ok) :
  Calls Tryz.prog 176 #[.agg #[.int .i64 z.f, .int .i64 z.e, .slice a1 n1 c1, .slice a2 n2 c2]] w fun ev w' => ev = .returned (.tuple #[.int .i64 (sU z.l : Nat), .int .i64 0]) ∧ Below w.heap.size w w' := by
 have hlen : z.l.length ≤ 256 := gQ (oM.length_le hz.2 (fun b hb => (hz.2.fit b hb).1.2.2.1)) hz.1.e2
 obtain ⟨K1, F1, hsz, hbw⟩ := boxes1 w #[.int .i64 (z.f : Int), .int .i64 (z.e : Int), .slice a1 n1 c1, .slice a2 n2 c2] 102
 have lQ := hat.below hbw
 have l1 := hat.l1
 clear hat
 go_enter Tryz.func176, Tryz.ntmps176
 go_wp2_with fail
 generalize w.alloc (.cells #[.int .i64 (z.f : Int), .int .i64 (z.e : Int), .slice a1 n1 c1, .slice a2 n2 c2] 102) = w0 at *
 refine (mD _ _ _ _ _ _ z _ lQ hz).mono ?_
 rintro ev w1 ⟨rfl, hb1⟩
 have BQ := aC K1 hsz hb1
 have AY := lQ.below hb1
 have sK := Below.step hbw hb1
 have hs1 := gI hsz hb1.size
 clear K1 F1 lQ hbw hb1
 dsimp only
 go_wp2
 go_loopw [5, 16] (fun s5 s16 wr => ∃ i : Nat, i ≤ n1 ∧ s16 = .int .i64 (i : Int) ∧ s5 = .int .i64 (sU (z.l.take i) : Nat) ∧ Hid (Below w1.heap.size w1 wr)) (fun _ s16 _ => n1 - (intOf s16).toNat)
 case atStart => exact ⟨0, Nat.zero_le _, rfl, rfl, Below.refl _ _⟩
 case round =>
  obtain ⟨i, hi, rfl, rfl, hb⟩ := hrel
  by_cases hlt : i < n1
  ·have hlt2 : i < z.l.length := by omega
   obtain ⟨bb, off, ha1, hbb, hc⟩ := aN aI (by decide) (AY.r1.below hb.out) hlt2
   obtain rfl := ha1
   obtain ⟨hc0, hc1, hc2⟩ := bK hc
   have hfit := (hz.2.fit _ (gL hlt2)).1
   have hsum := gO (Nu z.l i hlt2)
   have hle := TM (z.l.take i) (fun b hb => (hz.2.fit b (List.mem_of_mem_take hb)).1.1)
   rw [List.length_take] at hle
   have hle2 : sU (z.l.take i) ≤ 5000 := by omega
   clear hc hle
   generalize z.l[i] = x at *
   have hsh := pX hfit.1
   have hpw := sJ hfit.1
   have hNew := gO (Below.step hb.out (aB wr (.cells #[.int .i64 (x.a : Int), .int .i64 (x.o : Int), .int .i64 (x.t : Int)] 63)))
   obtain ⟨S, hS⟩ : ∃ S, sU (z.l.take i) = S := ⟨_, rfl⟩
   rw [hS] at hle2 hsum ⊢
   clear hS
   have Jc : (i : Int) < n1 := by omega
   have hw : wrap64 ((S : Int) + wrap64 (2 ^ min x.o 64)) = ((S + 2 ^ x.o : Nat) : Int) := by
    rw [show min x.o 64 = x.o by have := hfit.1; omega, hsh]
    generalize 2 ^ x.o = q at *
    have := IntWalk.wrap64_in ((S : Int) + q) (by omega)
    rw [Int.natCast_add]
    exact this
   go_wp2
   go_roundw
   case rel => exact ⟨i + 1, by omega, by go_num, by rw [hsum.out]; simp only [Value.int.injEq, true_and]; exact hw, hNew⟩
   case measure => simp [intOf]; omega
  ·obtain rfl : i = n1 := by omega
   have he : z.l.take i = z.l := by rw [← l1, List.take_length]
   rw [he]
   go_wp2
   go_ret2
   exact ⟨rfl, Below.step sK hb.out⟩
end
section
open Go.RowKit

theorem LK : (Tryz.prog.info? 55).map (fun i => (i.zero, i.size, i.bytes)) = some (some (.agg #[.int .i64 0, .int .i64 0]), 2, 16) := by kernel_rfl
theorem yO (w : World) (vs : List Value) (t : TypeId) : Row (w.alloc (.cells vs.toArray t)) (some ⟨w.heap.size, 0, none⟩) vs := by
 intro j u hj
 exact ⟨w.heap.size, 0, rfl, by simp, by rw [Nat.zero_add, bC]; simpa using hj⟩

theorem CW (f : Nat → Bool) : ∀ i, (fB f i).length ≤ i
 | 0 => by simp [fB]
 | i + 1 => by
  have ih := CW f i
  unfold fB
  split
  ·unfold jP
   split
   ·split
    ·have : 0 < i + 1 := by omega
     simp only [List.length_append, List.length_dropLast, List.length_cons, List.length_nil]; omega
    ·simp; omega
   ·simp
  ·omega

theorem Ey {w : World} {a : Option Addr} {f : Nat → Bool} (hr : Row w a ((bl f).map vB)) {k : Nat} (h : k < 256) :
  ∃ b off, a = some ⟨b, off, none⟩ ∧ b < w.heap.size ∧ w.cell? ⟨b, off + k, none⟩ = some (.bool (f k)) :=
 hr k (vB (f k)) (by rw [List.getElem?_map, JE f k h]; rfl)

set_option maxRecDepth 100000 in
theorem GZ (a : Option Addr) (cap : Nat) (f : Nat → Bool) (w : World) (hr : Row w a ((bl f).map vB)) :
  Calls Tryz.prog 102 #[.slice a 256 cap] w fun e w' => ∃ a' c', e = .returned (.slice a' (dD f).length c') ∧ w'.ownsRow w.heap.size 55 2 (.slice a' (dD f).length c') (dD f).length (flat fJ (dD f)) ∧ Below w.heap.size w w' := by
 go_enter Tryz.func102, Tryz.ntmps102
 go_wp2
 go_loopw [3, 4, 5, 6, 9] (fun s3 _ _ _ s9 wr => ∃ (i : Nat) (a3 : Option Addr) (c3 : Nat), i ≤ 256 ∧ s9 = .int .i64 i ∧ s3 = .slice a3 (fB f i).length c3 ∧ Hid (wr.ownsRow w.heap.size 55 2 (.slice a3 (fB f i).length c3) (fB f i).length (flat fJ (fB f i))) ∧ Below w.heap.size w wr) (fun _ _ _ _ s9 _ => 256 - (intOf s9).toNat)
 case atStart => exact ⟨0, none, 0, by omega, rfl, rfl, World.ownsRow_nil _ _ _ _, Below.refl _ _⟩
 case round =>
  obtain ⟨i, a3, c3, hi, rfl, rfl, hown, hbw⟩ := hrel
  by_cases hlt : i < 256
  ·obtain ⟨b, off, rfl, hb, hc⟩ := Ey (hr.below hbw) hlt
   have hlen := CW f i
   cases hf : f i with
   | false =>
    have hs : fB f (i + 1) = fB f i := by conv => lhs; unfold fB; rw [hf]; simp
    have HS := gO hs
    rw [hf] at hc
    clear hs hf
    go_wp2
    go_roundw
    case rel => exact ⟨i + 1, a3, c3, by omega, by go_num, by rw [HS.out], by rw [HS.out]; exact hown, hbw⟩
    case measure => simp [intOf]; omega
   | true =>
    have hs : fB f (i + 1) = jP (fB f i) i := by conv => lhs; unfold fB; rw [hf]; simp
    have HS := gO hs
    rw [hf] at hc
    clear hs hf
    generalize hL : fB f i = L at *
    have hinv : Es f i L := by rw [← hL]; exact kW f i
    clear hL
    rcases List.eq_nil_or_concat L with rfl | ⟨M, r, rfl⟩
    ·have HO := gO (own_below hown.out (aB wr (.cells #[.int .i64 (i : Int), .int .i64 1] 55)) (Nat.le_refl _))
     have HN := gO (yO wr (fJ ⟨i, 1⟩) 55)
     have hsz := hbw.size
     have hb1 : Below w.heap.size w (wr.alloc (.cells #[.int .i64 (i : Int), .int .i64 1] 55)) := Below.step hbw (aB _ _)
     go_wp2_with (at_builtin; refine gU rfl _ _ 25 rfl w.heap.size 55 (.agg #[.int .i64 0, .int .i64 0]) 2 16 Tryz.underlying25 LK rfl (by decide) (by decide) _ _ _ _ rfl HO.out (some ⟨wr.heap.size, 0, none⟩) 1 1 (fJ ⟨i, 1⟩) rfl rfl HN.out (by simp [fJ, vI, Value.oneCell']) (by simp) (by simp; omega) ?_)
     intro a' c' w2 hown2 hgrow
     have hb2 := below_grown hb1 HO.out hgrow (Nat.le_refl _) (by simp; omega)
     have HO2 := gO hown2
     clear hown2 HO HN hgrow
     go_wp2
     go_roundw
     case rel => exact ⟨i + 1, a', c', by omega, by go_num, by rw [HS.out]; rfl, by rw [HS.out]; exact HO2.out, hb2⟩
     case measure => simp [intOf]; omega
    ·simp only [List.concat_eq_append, List.length_append, List.length_cons, List.length_nil, Nat.zero_add] at hown hlen HS hinv ⊢
     have hlow := hinv.low r (by simp)
     have hsm : r.small := by unfold Rg.small; omega
     obtain ⟨g, rfl, hg, hgs, hcell, aAH⟩ := OV iR (by decide) hown.out (j := M.length) (by simp)
     have hmr : (M ++ [r])[M.length]'(by simp) = r := by simp
     rw [hmr] at hcell
     have hc0 := hcell 0 (vI r.f) rfl
     have hc1 := hcell 1 (vI r.s) rfl
     have hf1 := aAH (M.length * 2 + 1)
     simp only [vI, Nat.add_zero] at hc0 hc1
     have hlm : M.length ≤ 255 := by omega
     have hsz := hbw.size
     clear hcell aAH hmr hinv
     cases he : (r.f + r.s == (i : Int)) with
     | true =>
      have hp : jP (M ++ [r]) i = M ++ [⟨r.f, r.s + 1⟩] := by
       unfold jP
       rw [List.getLast?_concat]
       simp only [List.dropLast_concat]
       rw [if_pos (eq_of_beq he)]
      rw [hp] at HS
      clear hp
      go_wp2_with (go_at_call 148; refine (nG r _ hsm).mono ?_; rintro e w4 ⟨rfl, hb4⟩; have aHo := (hb4.cell (p := ⟨g, M.length * 2, none⟩) hgs).trans hc0; have aHp := (hb4.cell (p := ⟨g, M.length * 2 + 1, none⟩) hgs).trans hc1; have aHq := (hb4.frozen (p := ⟨g, M.length * 2 + 1, none⟩) hgs).trans hf1)
      have h := (World.ownsRow.stored (own_below hown.out hb4 (Nat.le_refl _)) (M.length * 2 + 1) (vI (r.s + 1))).1
      have hset : (flat fJ (M ++ [r])).set (M.length * 2 + 1) (vI (r.s + 1)) = flat fJ (M ++ [⟨r.f, r.s + 1⟩]) := by
       rw [aT, aT, List.set_append_right _ _ (by rw [flat_length iR]; omega), flat_length iR, Nat.add_sub_cancel_left]
       rfl
      rw [hset] at h
      have HH := gO h
      clear h hset
      go_roundw
      case rel =>
       refine ⟨i + 1, some ⟨g, 0, none⟩, c3, by omega, by go_num, by rw [HS.out]; simp, ?_, (Below.step hbw hb4).setCell hg _⟩
       rw [HS.out]
       have h2 := HH.out
       simp only [List.length_append, List.length_cons, List.length_nil, Nat.zero_add] at h2 ⊢
       exact h2
      case measure => simp [intOf]; omega
     | false =>
      have hp : jP (M ++ [r]) i = (M ++ [r]) ++ [⟨i, 1⟩] := by
       unfold jP
       rw [List.getLast?_concat]
       simp only
       rw [if_neg (by rw [beq_eq_false_iff_ne] at he; exact he)]
      rw [hp] at HS
      clear hp
      go_wp2_with fail
      refine (nG r _ hsm).mono ?_
      rintro e w4 ⟨rfl, hb4⟩
      have HO4 := gO (own_below (own_below hown.out hb4 (Nat.le_refl _)) (aB w4 (.cells #[.int .i64 (i : Int), .int .i64 1] 55)) (Nat.le_refl _))
      have HN4 := gO (yO w4 (fJ ⟨i, 1⟩) 55)
      have hb5 := Below.step hbw hb4
      have oH := hb5.size
      have hb6 : Below w.heap.size w (w4.alloc (.cells #[.int .i64 (i : Int), .int .i64 1] 55)) := Below.step hb5 (aB _ _)
      go_wp2_with (at_builtin; refine gU rfl _ _ 25 rfl w.heap.size 55 (.agg #[.int .i64 0, .int .i64 0]) 2 16 Tryz.underlying25 LK rfl (by decide) (by decide) _ _ _ _ rfl HO4.out (some ⟨w4.heap.size, 0, none⟩) 1 1 (fJ ⟨i, 1⟩) rfl rfl HN4.out (by simp [fJ, vI, Value.oneCell']) (by omega) (by simp; omega) ?_)
      intro a' c' w5 hown5 hgrow
      have hb7 := below_grown hb6 HO4.out hgrow (Nat.le_refl _) (by simp; omega)
      have HO5 := gO hown5
      clear hown5 HO4 HN4 hgrow
      go_wp2
      go_roundw
      case rel =>
       refine ⟨i + 1, a', c', by omega, by go_num, by rw [HS.out]; simp, ?_, hb7⟩
       rw [HS.out]
       have h2 := HO5.out
       rw [aT]
       simp only [List.length_append, List.length_cons, List.length_nil, Nat.zero_add] at h2 ⊢
       exact h2
      case measure => simp [intOf]; omega
  ·obtain rfl : i = 256 := by omega
   go_wp2
   go_ret
   exact ⟨a3, c3, rfl, hown.out, hbw⟩
end
end Go.Proofs.YtcmpmobhongkiaaGreatDoor
