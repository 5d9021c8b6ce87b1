/- Blk17: texts of this claim, joined. -/
import Derived.Test.YtkcaheebaicinaaGreatDoorSN13
/- Contract of package buddy: steal. -/
namespace Go.Proofs.YtkcaheebaicinaaGreatDoor
open Go.RowKit
set_option linter.unusedVariables false

theorem flatB_set_t (t : Nat) : ∀ (l : List Bk) (k : Nat) (hk : k < l.length), (flat encBk l).set (k * 3 + 2) (vI t) = flat encBk (l.set k { l[k] with t := t })
  | x :: l, 0, _ => by rw [flat_cons, List.set_cons_zero, flat_cons]; rfl
  | x :: l, k + 1, hk => by
    have hk' : k < l.length := by simpa using hk
    rw [flat_cons, List.set_cons_succ, flat_cons, List.set_append_right _ _ (by rw [encBk_length]; omega), encBk_length, show (k + 1) * 3 + 2 - 3 = k * 3 + 2 by omega, flatB_set_t t l k hk']
    rfl

theorem ZOwn.putY {W : World} {bs : Nat} {a1 a2 : Option Addr} {n1 n2 c1 c2 : Nat} {z : Zn} (h : ZOwn W bs a1 a2 n1 n2 c1 c2 z) {j g : Nat} (hj : j < n2) (hg : a2 = some ⟨g, 0, none⟩) (t : Nat) : ZOwn (W.setCell ⟨g, j, none⟩ (.int .i64 (t : Int))) bs a1 a2 n1 n2 c1 c2 { z with y := z.y.set j t } := by
  subst hg
  have h1 := (World.ownsRow.stored h.o2 j (vI t)).1
  rw [flatT_set] at h1
  exact ⟨h.l1, by simp only [List.length_set]; exact h.l2, own_set h.o1 (fun e => own_diff h.o1 h.o2 (by decide) g e rfl) _, h1⟩
theorem ZOwn.putT {W : World} {bs : Nat} {a1 a2 : Option Addr} {n1 n2 c1 c2 : Nat} {z : Zn} (h : ZOwn W bs a1 a2 n1 n2 c1 c2 z) {k g : Nat} (hk : k < z.l.length) (hg : a1 = some ⟨g, 0, none⟩) (t : Nat) : ZOwn (W.setCell ⟨g, k * 3 + 2, none⟩ (.int .i64 (t : Int))) bs a1 a2 n1 n2 c1 c2 { z with l := z.l.set k { z.l[k] with t := t } } := by
  subst hg
  have h1 := (World.ownsRow.stored h.o1 (k * 3 + 2) (vI t)).1
  rw [flatB_set_t t z.l k hk] at h1
  exact ⟨by simp only [List.length_set]; exact h.l1, h.l2, h1, own_set h.o2 (fun e => own_diff h.o1 h.o2 (by decide) g rfl e) _⟩

/-- the state of buddy.steal -/
structure SInv (w W : World) (bs : Nat) (a1 a2 : Option Addr) (n1 n2 c1 c2 f e : Nat) (b : Bk) (z : Zn) : Prop where
  k3 : ∀ i, W.cell? ⟨w.heap.size, i, none⟩ = (#[.int .i64 f, .int .i64 e, .slice a1 n1 c1, .slice a2 n2 c2] : Array Value)[i]?
  k6 : ∀ i, W.cell? ⟨w.heap.size + 1, i, none⟩ = (#[.int .i64 b.a, .int .i64 b.o, .int .i64 b.t] : Array Value)[i]?
  own : ZOwn W bs a1 a2 n1 n2 c1 c2 z
  hi : w.heap.size + 2 ≤ W.heap.size
  bw : Below bs w W
  g1 : ∀ g, a1 = some ⟨g, 0, none⟩ → g < w.heap.size ∧ bs ≤ g
  g2 : ∀ g, a2 = some ⟨g, 0, none⟩ → g < w.heap.size ∧ bs ≤ g
section
variable {w W W' : World} {bs : Nat} {a1 a2 : Option Addr} {n1 n2 c1 c2 f e : Nat} {b : Bk} {z : Zn}
theorem SInv.below (h : SInv w W bs a1 a2 n1 n2 c1 c2 f e b z) (hb : Below W.heap.size W W') (hbs : bs ≤ w.heap.size) : SInv w W' bs a1 a2 n1 n2 c1 c2 f e b z := by
  have h2 := h.hi
  exact ⟨box_step h.k3 (by omega) hb, box_step h.k6 (by omega) hb, h.own.below hb, Nat.le_trans h2 hb.size, keepB hb h.bw (by omega), h.g1, h.g2⟩
theorem SInv.putY (h : SInv w W bs a1 a2 n1 n2 c1 c2 f e b z) {j g : Nat} (hj : j < n2) (hg : a2 = some ⟨g, 0, none⟩) (t : Nat) : SInv w (W.setCell ⟨g, j, none⟩ (.int .i64 (t : Int))) bs a1 a2 n1 n2 c1 c2 f e b { z with y := z.y.set j t } := by
  have h1 := h.g2 g hg
  exact ⟨box_set_other h.k3 (by omega) _ _, box_set_other h.k6 (by omega) _ _, h.own.putY hj hg t, by simpa using h.hi, h.bw.setCell h1.2 _, h.g1, h.g2⟩
theorem SInv.putT (h : SInv w W bs a1 a2 n1 n2 c1 c2 f e b z) {k g : Nat} (hk : k < z.l.length) (hg : a1 = some ⟨g, 0, none⟩) (t : Nat) : SInv w (W.setCell ⟨g, k * 3 + 2, none⟩ (.int .i64 (t : Int))) bs a1 a2 n1 n2 c1 c2 f e b { z with l := z.l.set k { z.l[k] with t := t } } := by
  have h1 := h.g1 g hg
  exact ⟨box_set_other h.k3 (by omega) _ _, box_set_other h.k6 (by omega) _ _, h.own.putT hk hg t, by simpa using h.hi, h.bw.setCell h1.2 _, h.g1, h.g2⟩
end

def markK (fr tp t : Nat) (l : List Bk) (k : Nat) : List Bk := (l.take k).map (markB fr tp t) ++ l.drop k
theorem markK_zero (fr tp t : Nat) (l : List Bk) : markK fr tp t l 0 = l := rfl
theorem markK_all (fr tp t : Nat) (l : List Bk) : markK fr tp t l l.length = l.map (markB fr tp t) := by simp [markK]
theorem markK_length (fr tp t : Nat) (l : List Bk) (k : Nat) : (markK fr tp t l k).length = l.length := by
  unfold markK
  rw [List.length_append, List.length_map, List.length_take, List.length_drop]; omega
theorem markK_at? (fr tp t : Nat) (l : List Bk) (k : Nat) (hk : k < l.length) : (markK fr tp t l k)[k]? = some l[k] := by
  unfold markK
  rw [List.getElem?_append_right (by rw [List.length_map, List.length_take]; omega), List.length_map, List.length_take, List.getElem?_drop, show k + (k - min k l.length) = k by omega]
  exact List.getElem?_eq_getElem hk
theorem markK_at (fr tp t : Nat) (l : List Bk) (k : Nat) (hk : k < l.length) (hk2 : k < (markK fr tp t l k).length) : (markK fr tp t l k)[k] = l[k] := by
  have h := markK_at? fr tp t l k hk
  rw [List.getElem?_eq_getElem hk2] at h
  exact Option.some.inj h
theorem markK_step (fr tp t : Nat) (l : List Bk) (k : Nat) (hk : k < l.length) : markK fr tp t l (k + 1) = (markK fr tp t l k).set k (markB fr tp t l[k]) := by
  unfold markK
  rw [List.take_succ_eq_append_getElem hk, List.map_append, List.drop_eq_getElem_cons hk, List.set_append_right _ _ (by rw [List.length_map, List.length_take]; omega)]
  rw [show k - ((l.take k).map (markB fr tp t)).length = 0 by rw [List.length_map, List.length_take]; omega, List.set_cons_zero, List.append_assoc]
  rfl
theorem markK_skip (fr tp t : Nat) (l : List Bk) (k : Nat) (hk : k < l.length) (h : ¬ (fr ≤ l[k].a ∧ l[k].fin ≤ tp)) : markK fr tp t l (k + 1) = markK fr tp t l k := by
  have e : markB fr tp t l[k] = l[k] := by unfold markB; rw [if_neg h]
  rw [markK_step _ _ _ _ _ hk, e]
  have hk2 : k < (markK fr tp t l k).length := by rw [markK_length]; exact hk
  have h2 := List.set_getElem_self hk2
  rw [markK_at fr tp t l k hk hk2] at h2
  exact h2
theorem markK_put (fr tp t : Nat) (l : List Bk) (k : Nat) (hk : k < l.length) (hk2 : k < (markK fr tp t l k).length) (h : fr ≤ l[k].a ∧ l[k].fin ≤ tp) : markK fr tp t l (k + 1) = (markK fr tp t l k).set k { (markK fr tp t l k)[k] with t := t } := by
  rw [markK_step _ _ _ _ _ hk, markK_at fr tp t l k hk hk2]
  unfold markB
  rw [if_pos h]

set_option maxHeartbeats 4000000 in
set_option maxRecDepth 100000 in
theorem steal_ok (bs : Nat) (a1 a2 : Option Addr) (n1 n2 c1 c2 : Nat) (z : Zn) (i t : Nat) (hi : i < z.l.length) (w : World) (hown : ZOwn w bs a1 a2 n1 n2 c1 c2 z) (hz : z.ok) (ht : t < 3) (hbs : bs ≤ w.heap.size) :
    Calls Tryz.prog 146 #[.agg #[.int .i64 z.f, .int .i64 z.e, .slice a1 n1 c1, .slice a2 n2 c2], .int .i64 i, .int .i64 t] w fun ev w' => ev = .returned (.tuple #[]) ∧ ZOwn w' bs a1 a2 n1 n2 c1 c2 (z.steal z.l[i] t) ∧ Below bs w w' := by
  have hlen : z.l.length ≤ 256 := Nat.le_trans (OkL.length_le hz.2 (fun b hb => (hz.2.fit b hb).1.2.2.1)) hz.1.e2
  have hee := hz.1.e2
  have l1 := hown.l1
  have l2 := hown.l2
  have hfit := (hz.2.fit _ (List.getElem_mem hi)).1
  obtain ⟨K3, F3, hsz, hbw⟩ := boxes1 w #[.int .i64 (z.f : Int), .int .i64 (z.e : Int), .slice a1 n1 c1, .slice a2 n2 c2] 110
  have hown0 := hown.below hbw
  obtain ⟨bb, off, ha1, hbb, hc⟩ := row_elem encBk_length (by decide) hown0.at.r1 hi
  obtain ⟨gg, vg, eg1, hg2, hg3, _⟩ := own_cell hown.o1 (i * 3) (by rw [flat_length encBk_length]; omega)
  have hbg : bb = gg ∧ off = 0 := by rw [ha1] at eg1; simpa using eg1
  obtain ⟨rfl, rfl⟩ := hbg
  obtain rfl := ha1
  rw [Nat.zero_add] at hc
  obtain ⟨hc0, hc1, hc2⟩ := encBk_cells (o := i * 3) hc
  have hG2 : ∀ g, a2 = some ⟨g, 0, none⟩ → g < w.heap.size ∧ bs ≤ g := fun g hg => by have := hown.o2.lt g (by subst hg; rfl); omega
  have hin : i < n1 := by omega
  have hbt := (hz.2.fit _ (List.getElem_mem hi)).2
  generalize hb : z.l[i] = b at *
  have HB := Hid.mk hb
  clear hb hc
  have hae : b.a ≤ 256 := by have := hfit.2.2.1; omega
  have hfin := fits_end hz.1.e16 hfit
  have hpw := pow_bk hfit.1
  have hbw2 := below_alloc (w.alloc (.cells #[.int .i64 (z.f : Int), .int .i64 (z.e : Int), .slice (some ⟨bb, 0, none⟩) n1 c1, .slice a2 n2 c2] 110)) (.cells #[.int .i64 (b.a : Int), .int .i64 (b.o : Int), .int .i64 (b.t : Int)] 95)
  have hbb2 := Below.step hbw hbw2
  have hG1 : ∀ g, some (⟨bb, 0, none⟩ : Addr) = some ⟨g, 0, none⟩ → g < w.heap.size ∧ bs ≤ g := fun g hg => by
    obtain rfl : bb = g := by simpa using hg
    exact ⟨hg3, hg2⟩
  have I0 : SInv w ((w.alloc (.cells #[.int .i64 (z.f : Int), .int .i64 (z.e : Int), .slice (some ⟨bb, 0, none⟩) n1 c1, .slice a2 n2 c2] 110)).alloc (.cells #[.int .i64 (b.a : Int), .int .i64 (b.o : Int), .int .i64 (b.t : Int)] 95)) bs (some ⟨bb, 0, none⟩) a2 n1 n2 c1 c2 z.f z.e b z :=
    ⟨box_step K3 (by omega) hbw2, fun i => by have := box_new (w.alloc (.cells #[.int .i64 (z.f : Int), .int .i64 (z.e : Int), .slice (some ⟨bb, 0, none⟩) n1 c1, .slice a2 n2 c2] 110)) #[.int .i64 (b.a : Int), .int .i64 (b.o : Int), .int .i64 (b.t : Int)] 95 i; rwa [World.size_alloc] at this, hown.below hbb2, by simp, hbb2.mono hbs, hG1, hG2⟩
  have HI := Hid.mk I0
  clear I0 K3 F3 hbw2
  go_enter Tryz.func146, Tryz.ntmps146
  by_cases ho2 : b.o < 2
  · go_wp2_with fail
    refine bodyPost_ret (v := .tuple #[]) (by simp [results, Tryz.results146, go_sem]) rfl ⟨rfl, ?_, ?_⟩
    · unfold Zn.steal
      rw [if_pos ho2]
      exact HI.out.own
    · exact HI.out.bw
  · have ho2' : ¬ (b.o : Int) < 2 := by omega
    go_wp2_with fail
    clear hc0 hc1 hc2
    generalize (w.alloc (.cells #[.int .i64 (z.f : Int), .int .i64 (z.e : Int), .slice (some ⟨bb, 0, none⟩) n1 c1, .slice a2 n2 c2] 110)).alloc (.cells #[.int .i64 (b.a : Int), .int .i64 (b.o : Int), .int .i64 (b.t : Int)] 95) = w0 at *
    go_loopw [7] (fun s7 wr => ∃ j : Nat, j ≤ 2 ^ b.o ∧ s7 = .int .i64 ((b.a + j : Nat) : Int) ∧ Hid (SInv w wr bs (some ⟨bb, 0, none⟩) a2 n1 n2 c1 c2 z.f z.e b { z with y := setT z.y z.f b.a t j })) (fun s7 _ => b.fin - (intOf s7).toNat)
    case atStart => exact ⟨0, Nat.zero_le _, by simp, HI⟩
    case round =>
      obtain ⟨j, hj, rfl, HK⟩ := hrel
      clear HI hown hown0
      have I := HK.out
      have hHi := I.hi
      have k60 := I.k6 0
      have k61 := I.k6 1
      have k62 := I.k6 2
      simp only [List.getElem?_toArray, List.getElem?_cons_zero, List.getElem?_cons_succ] at k60 k61 k62
      clear I
      have hwr : w.heap.size + 1 < wr.heap.size := by omega
      go_wp2_with fail
      refine (end_bk b _ hfit.1 (by omega)).mono ?_
      rintro ev w1 ⟨rfl, hb1⟩
      have HK1 := Hid.mk (HK.out.below hb1 hbs)
      clear hb1 k60 k61 k62 HK
      have I := HK1.out
      have hHi1 := I.hi
      have k60 := I.k6 0
      have k61 := I.k6 1
      have k62 := I.k6 2
      have k30 := I.k3 0
      have k32 := I.k3 2
      have k33 := I.k3 3
      simp only [List.getElem?_toArray, List.getElem?_cons_zero, List.getElem?_cons_succ] at k60 k61 k62 k30 k32 k33
      clear hwr
      have hwr : w.heap.size + 1 < w1.heap.size := by omega
      by_cases hlt : j < 2 ^ b.o
      · have hJ : (b.a + j - z.f) / 8 < z.y.length := by rw [hz.1.len]; have := hfit.2.1; have := hz.1.f16; have := hz.1.e16; omega
        have hjx : ((b.a : Int) + j - z.f) / 8 = (((b.a + j - z.f) / 8 : Nat) : Int) := by have := hfit.2.1; omega
        have hfa : (z.f : Int) ≤ b.a + j := by have := hfit.2.1; omega
        have dl : (b.a : Int) + j < b.fin := by unfold Bk.fin; omega
        have hset : Hid (setT z.y z.f b.a t (j + 1) = (setT z.y z.f b.a t j).set ((b.a + j - z.f) / 8) t) := rfl
        have hlen2 := setT_length z.y z.f b.a t j
        generalize (b.a + j - z.f) / 8 = J at *
        have hJn : (J : Int) < n2 := by omega
        have hJ2 : J < n2 := by omega
        obtain ⟨g, v, eg, hgb, hgs, hgc, hgf⟩ := own_cell I.own.o2 J (by rw [flat_length encT_length]; show J < (setT z.y z.f b.a t j).length * 1; omega)
        obtain rfl := eg
        have HK2 := Hid.mk (I.putY hJ2 rfl t)
        clear I HK1
        go_wp2
        go_roundw
        case rel => exact ⟨j + 1, by omega, by go_num, by rw [hset.out]; exact HK2⟩
        case measure => simp [intOf]; omega
      · obtain rfl : j = 2 ^ b.o := by omega
        have dl : ¬ (b.a : Int) + 2 ^ b.o < b.fin := by unfold Bk.fin; push_cast; omega
        clear I
        go_wp2_with fail
        refine (end_bk b _ hfit.1 (by omega)).mono ?_
        rintro ev w2 ⟨rfl, hb2⟩
        have HK2 := Hid.mk (HK1.out.below hb2 hbs)
        clear hb2 k60 k61 k62 HK1 k30 k32 k33 hwr
        dsimp only
        have hdv : (b.a : Int) / 8 * 8 = ((b.a / 8 * 8 : Nat) : Int) := by omega
        simp only [hdv]
        clear hdv
        have hFR : b.a / 8 * 8 ≤ 256 := by omega
        obtain ⟨FR, hFRe⟩ : ∃ FR, b.a / 8 * 8 = FR := ⟨_, rfl⟩
        rw [hFRe] at hFR ⊢
        have HFR := Hid.mk hFRe
        clear hFRe
        have hmz : markK FR (max b.fin (FR + 8)) t z.l 0 = z.l := rfl
        have k32 := HK2.out.k3 2
        simp only [List.getElem?_toArray, List.getElem?_cons_zero, List.getElem?_cons_succ] at k32
        by_cases hmx : FR + 8 ≤ b.fin
        · have hmx3 : (FR : Int) + 8 ≤ (b.fin : Int) := by omega
          have hmx2 : max b.fin (FR + 8) = b.fin := by omega
          go_wp2
          go_loopw [10, 11, 49] (fun _ _ s49 wr => ∃ k : Nat, k ≤ n1 ∧ s49 = .int .i64 (k : Int) ∧ Hid (SInv w wr bs (some ⟨bb, 0, none⟩) a2 n1 n2 c1 c2 z.f z.e b { z with l := markK FR (b.fin) t z.l k, y := setT z.y z.f b.a t (2 ^ b.o) })) (fun _ _ s49 _ => n1 - (intOf s49).toNat)
          case atStart => exact ⟨0, Nat.zero_le _, rfl, HK2⟩
          case round =>
            obtain ⟨k, hk, rfl, HK3⟩ := hrel
            clear HK2 k32
            by_cases hlt : k < n1
            · have hkl : k < z.l.length := by omega
              have hkm : k < (markK FR (b.fin) t z.l k).length := by rw [markK_length]; exact hkl
              have I := HK3.out
              have hHi := I.hi
              obtain ⟨bb', off', e', hbb', hc'⟩ := row_elem encBk_length (by decide) I.own.at.r1 hkm
              obtain ⟨rfl, rfl⟩ : bb = bb' ∧ 0 = off' := by simpa using e'
              rw [Nat.zero_add, markK_at FR (b.fin) t z.l k hkl hkm] at hc'
              obtain ⟨hc0, hc1, hc2⟩ := encBk_cells (o := k * 3) hc'
              have hfx := (hz.2.fit _ (List.getElem_mem hkl)).1
              have HP : Hid (FR ≤ z.l[k].a ∧ z.l[k].fin ≤ b.fin → ∀ W, SInv w W bs (some ⟨bb, 0, none⟩) a2 n1 n2 c1 c2 z.f z.e b { z with l := markK FR (b.fin) t z.l k, y := setT z.y z.f b.a t (2 ^ b.o) } → SInv w (W.setCell ⟨bb, k * 3 + 2, none⟩ (.int .i64 (t : Int))) bs (some ⟨bb, 0, none⟩) a2 n1 n2 c1 c2 z.f z.e b { z with l := markK FR (b.fin) t z.l (k + 1), y := setT z.y z.f b.a t (2 ^ b.o) }) := by
                intro h W hW
                have h1 := hW.putT hkm rfl t
                rw [markK_put FR (b.fin) t z.l k hkl hkm h]
                exact h1
              have HS := Hid.mk (markK_skip FR (b.fin) t z.l k hkl)
              obtain ⟨g5, v5, e5, _, _, hgc, hgf⟩ := own_cell I.own.o1 (k * 3 + 2) (by rw [flat_length encBk_length]; show k * 3 + 2 < (markK FR (b.fin) t z.l k).length * 3; omega)
              obtain rfl : bb = g5 := by simpa using e5
              clear hc' I e' hkm e5
              generalize z.l[k] = x at *
              have hwr : w.heap.size + 1 < wr.heap.size := by omega
              have hbn := below_alloc wr (.cells #[.int .i64 (x.a : Int), .int .i64 (x.o : Int), .int .i64 (x.t : Int)] 95)
              have HK4 := Hid.mk (HK3.out.below hbn hbs)
              have hgc4 := (hbn.cell (p := ⟨bb, k * 3 + 2, none⟩) hbb').trans hgc
              have hgf4 := (hbn.frozen (p := ⟨bb, k * 3 + 2, none⟩) hbb').trans hgf
              have K11 := box_new wr #[.int .i64 (x.a : Int), .int .i64 (x.o : Int), .int .i64 (x.t : Int)] 95
              have hkn : (k : Int) < n1 := by omega
              have h3a : x.a ≤ 1000 := by have := hfx.2.2.1; omega
              have hbx := Nat.lt_of_lt_of_le hbb' hbn.size
              clear hgc hgf hbb'
              by_cases hge : FR ≤ x.a
              · have hge2 : (FR : Int) ≤ x.a := by omega
                go_wp2_with fail
                clear hbn hc0 hc1 hc2 K11
                generalize wr.alloc (.cells #[.int .i64 (x.a : Int), .int .i64 (x.o : Int), .int .i64 (x.t : Int)] 95) = w4 at *
                refine (end_bk x _ hfx.1 h3a).mono ?_
                rintro ev w5 ⟨rfl, hb5⟩
                have HK5 := Hid.mk (HK4.out.below hb5 hbs)
                have hgc5 := (hb5.cell (p := ⟨bb, k * 3 + 2, none⟩) hbx).trans hgc4
                have hgf5 := (hb5.frozen (p := ⟨bb, k * 3 + 2, none⟩) hbx).trans hgf4
                have k32 := HK5.out.k3 2
                simp only [List.getElem?_toArray, List.getElem?_cons_zero, List.getElem?_cons_succ] at k32
                clear hb5 HK4 HK3 hgc4 hgf4
                dsimp only
                by_cases hle : x.fin ≤ b.fin
                · have hle2 : (x.fin : Int) ≤ ((b.fin : Nat) : Int) := by omega
                  have HK6 := Hid.mk (HP.out ⟨hge, hle⟩ _ HK5.out)
                  push_cast at hle2
                  go_wp2
                  go_roundw
                  case rel => exact ⟨k + 1, by omega, by go_num, HK6⟩
                  case measure => simp [intOf]; omega
                · have hle2 : ¬ (x.fin : Int) ≤ ((b.fin : Nat) : Int) := by omega
                  push_cast at hle2
                  have HK6 : Hid (SInv w w5 bs (some ⟨bb, 0, none⟩) a2 n1 n2 c1 c2 z.f z.e b { z with l := markK FR (b.fin) t z.l (k + 1), y := setT z.y z.f b.a t (2 ^ b.o) }) := by
                    rw [HS.out (fun h => hle h.2)]
                    exact HK5
                  go_wp2
                  go_roundw
                  case rel => exact ⟨k + 1, by omega, by go_num, HK6⟩
                  case measure => simp [intOf]; omega
              · have hge2 : ¬ (FR : Int) ≤ x.a := by omega
                have HK6 : Hid (SInv w (wr.alloc (.cells #[.int .i64 (x.a : Int), .int .i64 (x.o : Int), .int .i64 (x.t : Int)] 95)) bs (some ⟨bb, 0, none⟩) a2 n1 n2 c1 c2 z.f z.e b { z with l := markK FR (b.fin) t z.l (k + 1), y := setT z.y z.f b.a t (2 ^ b.o) }) := by
                  rw [HS.out (fun h => hge h.1)]
                  exact HK4
                clear hgc4 hgf4
                go_wp2
                go_roundw
                case rel => exact ⟨k + 1, by omega, by go_num, HK6⟩
                case measure => simp [intOf]; omega
            · obtain rfl : k = n1 := by omega
              have HF : Hid (SInv w wr bs (some ⟨bb, 0, none⟩) a2 k n2 c1 c2 z.f z.e b (z.steal z.l[i] t)) := by
                have hh := HB.out
                subst hh
                have hf := HFR.out
                subst hf
                unfold Zn.steal
                rw [if_neg ho2, hmx2]
                have := HK3.out
                rw [show k = z.l.length by omega] at this
                rw [markK_all] at this
                rw [show k = z.l.length by omega]
                exact this
              go_wp2
              refine bodyPost_end (v := .tuple #[]) (by simp [results, Tryz.results146, go_sem]) rfl ⟨rfl, ?_, ?_⟩
              · have h7 := HF.out.own
                rw [HB.out] at h7
                exact h7
              · exact HF.out.bw

        · have hmx3 : ¬ (FR : Int) + 8 ≤ (b.fin : Int) := by omega
          have hmx2 : max b.fin (FR + 8) = FR + 8 := by omega
          go_wp2
          go_loopw [10, 11, 49] (fun _ _ s49 wr => ∃ k : Nat, k ≤ n1 ∧ s49 = .int .i64 (k : Int) ∧ Hid (SInv w wr bs (some ⟨bb, 0, none⟩) a2 n1 n2 c1 c2 z.f z.e b { z with l := markK FR (FR + 8) t z.l k, y := setT z.y z.f b.a t (2 ^ b.o) })) (fun _ _ s49 _ => n1 - (intOf s49).toNat)
          case atStart => exact ⟨0, Nat.zero_le _, rfl, HK2⟩
          case round =>
            obtain ⟨k, hk, rfl, HK3⟩ := hrel
            clear HK2 k32
            by_cases hlt : k < n1
            · have hkl : k < z.l.length := by omega
              have hkm : k < (markK FR (FR + 8) t z.l k).length := by rw [markK_length]; exact hkl
              have I := HK3.out
              have hHi := I.hi
              obtain ⟨bb', off', e', hbb', hc'⟩ := row_elem encBk_length (by decide) I.own.at.r1 hkm
              obtain ⟨rfl, rfl⟩ : bb = bb' ∧ 0 = off' := by simpa using e'
              rw [Nat.zero_add, markK_at FR (FR + 8) t z.l k hkl hkm] at hc'
              obtain ⟨hc0, hc1, hc2⟩ := encBk_cells (o := k * 3) hc'
              have hfx := (hz.2.fit _ (List.getElem_mem hkl)).1
              have HP : Hid (FR ≤ z.l[k].a ∧ z.l[k].fin ≤ FR + 8 → ∀ W, SInv w W bs (some ⟨bb, 0, none⟩) a2 n1 n2 c1 c2 z.f z.e b { z with l := markK FR (FR + 8) t z.l k, y := setT z.y z.f b.a t (2 ^ b.o) } → SInv w (W.setCell ⟨bb, k * 3 + 2, none⟩ (.int .i64 (t : Int))) bs (some ⟨bb, 0, none⟩) a2 n1 n2 c1 c2 z.f z.e b { z with l := markK FR (FR + 8) t z.l (k + 1), y := setT z.y z.f b.a t (2 ^ b.o) }) := by
                intro h W hW
                have h1 := hW.putT hkm rfl t
                rw [markK_put FR (FR + 8) t z.l k hkl hkm h]
                exact h1
              have HS := Hid.mk (markK_skip FR (FR + 8) t z.l k hkl)
              obtain ⟨g5, v5, e5, _, _, hgc, hgf⟩ := own_cell I.own.o1 (k * 3 + 2) (by rw [flat_length encBk_length]; show k * 3 + 2 < (markK FR (FR + 8) t z.l k).length * 3; omega)
              obtain rfl : bb = g5 := by simpa using e5
              clear hc' I e' hkm e5
              generalize z.l[k] = x at *
              have hwr : w.heap.size + 1 < wr.heap.size := by omega
              have hbn := below_alloc wr (.cells #[.int .i64 (x.a : Int), .int .i64 (x.o : Int), .int .i64 (x.t : Int)] 95)
              have HK4 := Hid.mk (HK3.out.below hbn hbs)
              have hgc4 := (hbn.cell (p := ⟨bb, k * 3 + 2, none⟩) hbb').trans hgc
              have hgf4 := (hbn.frozen (p := ⟨bb, k * 3 + 2, none⟩) hbb').trans hgf
              have K11 := box_new wr #[.int .i64 (x.a : Int), .int .i64 (x.o : Int), .int .i64 (x.t : Int)] 95
              have hkn : (k : Int) < n1 := by omega
              have h3a : x.a ≤ 1000 := by have := hfx.2.2.1; omega
              have hbx := Nat.lt_of_lt_of_le hbb' hbn.size
              clear hgc hgf hbb'
              by_cases hge : FR ≤ x.a
              · have hge2 : (FR : Int) ≤ x.a := by omega
                go_wp2_with fail
                clear hbn hc0 hc1 hc2 K11
                generalize wr.alloc (.cells #[.int .i64 (x.a : Int), .int .i64 (x.o : Int), .int .i64 (x.t : Int)] 95) = w4 at *
                refine (end_bk x _ hfx.1 h3a).mono ?_
                rintro ev w5 ⟨rfl, hb5⟩
                have HK5 := Hid.mk (HK4.out.below hb5 hbs)
                have hgc5 := (hb5.cell (p := ⟨bb, k * 3 + 2, none⟩) hbx).trans hgc4
                have hgf5 := (hb5.frozen (p := ⟨bb, k * 3 + 2, none⟩) hbx).trans hgf4
                have k32 := HK5.out.k3 2
                simp only [List.getElem?_toArray, List.getElem?_cons_zero, List.getElem?_cons_succ] at k32
                clear hb5 HK4 HK3 hgc4 hgf4
                dsimp only
                by_cases hle : x.fin ≤ FR + 8
                · have hle2 : (x.fin : Int) ≤ ((FR + 8 : Nat) : Int) := by omega
                  have HK6 := Hid.mk (HP.out ⟨hge, hle⟩ _ HK5.out)
                  push_cast at hle2
                  go_wp2
                  go_roundw
                  case rel => exact ⟨k + 1, by omega, by go_num, HK6⟩
                  case measure => simp [intOf]; omega
                · have hle2 : ¬ (x.fin : Int) ≤ ((FR + 8 : Nat) : Int) := by omega
                  push_cast at hle2
                  have HK6 : Hid (SInv w w5 bs (some ⟨bb, 0, none⟩) a2 n1 n2 c1 c2 z.f z.e b { z with l := markK FR (FR + 8) t z.l (k + 1), y := setT z.y z.f b.a t (2 ^ b.o) }) := by
                    rw [HS.out (fun h => hle h.2)]
                    exact HK5
                  go_wp2
                  go_roundw
                  case rel => exact ⟨k + 1, by omega, by go_num, HK6⟩
                  case measure => simp [intOf]; omega
              · have hge2 : ¬ (FR : Int) ≤ x.a := by omega
                have HK6 : Hid (SInv w (wr.alloc (.cells #[.int .i64 (x.a : Int), .int .i64 (x.o : Int), .int .i64 (x.t : Int)] 95)) bs (some ⟨bb, 0, none⟩) a2 n1 n2 c1 c2 z.f z.e b { z with l := markK FR (FR + 8) t z.l (k + 1), y := setT z.y z.f b.a t (2 ^ b.o) }) := by
                  rw [HS.out (fun h => hge h.1)]
                  exact HK4
                clear hgc4 hgf4
                go_wp2
                go_roundw
                case rel => exact ⟨k + 1, by omega, by go_num, HK6⟩
                case measure => simp [intOf]; omega
            · obtain rfl : k = n1 := by omega
              have HF : Hid (SInv w wr bs (some ⟨bb, 0, none⟩) a2 k n2 c1 c2 z.f z.e b (z.steal z.l[i] t)) := by
                have hh := HB.out
                subst hh
                have hf := HFR.out
                subst hf
                unfold Zn.steal
                rw [if_neg ho2, hmx2]
                have := HK3.out
                rw [show k = z.l.length by omega] at this
                rw [markK_all] at this
                rw [show k = z.l.length by omega]
                exact this
              go_wp2
              refine bodyPost_end (v := .tuple #[]) (by simp [results, Tryz.results146, go_sem]) rfl ⟨rfl, ?_, ?_⟩
              · have h7 := HF.out.own
                rw [HB.out] at h7
                exact h7
              · exact HF.out.bw

end Go.Proofs.YtkcaheebaicinaaGreatDoor
