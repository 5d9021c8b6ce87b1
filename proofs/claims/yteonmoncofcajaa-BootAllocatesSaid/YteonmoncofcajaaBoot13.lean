/- Contracts: booted: regions that were added, removed, reserved and freed. -/
import Derived.Test.YteonmoncofcajaaBoot12
namespace Go.Proofs.Yteonmoncofcajaa
open Go.RowKit
set_option linter.unusedVariables false

theorem picked_is (j n many : Int) (w : World) (hn1 : -9223372036854775808 ≤ n) (hn2 : n ≤ 9223372036854775807) (h1 : 1 ≤ many) (h2 : many ≤ 1000000) (h : pk n many = j) :
    Calls Try.prog 11 #[.int .i64 n, .int .i64 many] w fun e w' => e = .returned (.int .i64 j) ∧ w = w' := by
  subst h; exact picked_any n many w hn1 hn2 h1 h2

/-- the Boot of two sets of pages -/
def btOf (f g : Nat → Bool) : Bt := ⟨regionsOf f, regionsOf g⟩
theorem btOf_change (f g : Nat → Bool) (a s : Nat) (res v : Bool) : (btOf f g).change a s res v = btOf (if res then f else upd f a (a + s) v) (if res then upd g a (a + s) v else g) := by
  have hup : ∀ h : Nat → Bool, regionsOf (upd (inRg (regionsOf h)) a (a + s) v) = regionsOf (upd h a (a + s) v) := fun h => regionsOf_congr fun p hp => by unfold upd; rw [regionsOf_mem h p hp]
  cases res with
  | true => simp only [Bt.change, btOf, if_true, hup]
  | false => simp only [Bt.change, btOf, Bool.false_eq_true, if_false, hup]

/-- the boxes of booted: two for what it hands back, the Boot, the marks -/
structure BInv (w W : World) (a1 a2 : Option Addr) (n1 n2 c1 c2 : Nat) (b : Bt) (f g : Nat → Bool) : Prop where
  k4 : ∀ o, W.cell? ⟨w.heap.size, o, none⟩ = (#[.slice none 0 0, .slice none 0 0] : Array Value)[o]?
  f4 : ∀ o, W.frozen? ⟨w.heap.size, o, none⟩ = false
  k5 : ∀ o, W.cell? ⟨w.heap.size + 1, o, none⟩ = (arr (fun _ => false) (fun _ => false))[o]?
  f5 : ∀ o, W.frozen? ⟨w.heap.size + 1, o, none⟩ = false
  k7 : ∀ o, W.cell? ⟨w.heap.size + 1 + 1, o, none⟩ = (#[.slice a1 n1 c1, .slice a2 n2 c2] : Array Value)[o]?
  f7 : ∀ o, W.frozen? ⟨w.heap.size + 1 + 1, o, none⟩ = false
  k8 : ∀ o, W.cell? ⟨w.heap.size + 1 + 1 + 1, o, none⟩ = (arr f g)[o]?
  f8 : ∀ o, W.frozen? ⟨w.heap.size + 1 + 1 + 1, o, none⟩ = false
  own : BtOwn W (w.heap.size + 4) a1 a2 n1 n2 c1 c2 b
  sz : w.heap.size + 4 ≤ W.heap.size
  bw : Below w.heap.size w W

section
variable {w W : World} {a1 a2 : Option Addr} {n1 n2 c1 c2 : Nat} {b : Bt} {f g : Nat → Bool}
theorem BInv.below {W' : World} (h : BInv w W a1 a2 n1 n2 c1 c2 b f g) (hb : Below W.heap.size W W') : BInv w W' a1 a2 n1 n2 c1 c2 b f g := by
  have hs := h.sz
  exact ⟨box_step h.k4 (by omega) hb, frz_step h.f4 (by omega) hb, box_step h.k5 (by omega) hb, frz_step h.f5 (by omega) hb, box_step h.k7 (by omega) hb, frz_step h.f7 (by omega) hb, box_step h.k8 (by omega) hb, frz_step h.f8 (by omega) hb, h.own.below hb, Nat.le_trans hs hb.size, Below.step h.bw hb⟩
/-- a mark is written -/
theorem BInv.mark (h : BInv w W a1 a2 n1 n2 c1 c2 b f g) (p : Nat) (v : Bool) {f' g' : Nat → Bool} (he : (arr f g).setIfInBounds p (.bool v) = arr f' g') : BInv w (W.setCell ⟨w.heap.size + 1 + 1 + 1, p, none⟩ (.bool v)) a1 a2 n1 n2 c1 c2 b f' g' := by
  have hs := h.sz
  exact ⟨box_set_other h.k4 (by omega) _ _, frz_set h.f4 _ _, box_set_other h.k5 (by omega) _ _, frz_set h.f5 _ _, box_set_other h.k7 (by omega) _ _, frz_set h.f7 _ _, he ▸ box_set h.k8 p _, frz_set h.f8 _ _, h.own.set (h.own.ne (.inl (by omega))) _ _, by simpa using hs, h.bw.setCell (by simp only; omega) _⟩
/-- the Boot is another -/
theorem BInv.boot (h : BInv w W a1 a2 n1 n2 c1 c2 b f g) {a1' a2' : Option Addr} {n1' n2' c1' c2' : Nat} {b' : Bt} (ho : BtOwn W (w.heap.size + 4) a1' a2' n1' n2' c1' c2' b') : BInv w ((W.setCell ⟨w.heap.size + 1 + 1, 0, none⟩ (.slice a1' n1' c1')).setCell ⟨w.heap.size + 1 + 1, 1, none⟩ (.slice a2' n2' c2')) a1' a2' n1' n2' c1' c2' b' f g := by
  have hs := h.sz
  have hn := ho.ne (g := w.heap.size + 1 + 1) (.inl (by omega))
  exact ⟨box_set_other (box_set_other h.k4 (by omega) _ _) (by omega) _ _, frz_set (frz_set h.f4 _ _) _ _, box_set_other (box_set_other h.k5 (by omega) _ _) (by omega) _ _, frz_set (frz_set h.f5 _ _) _ _, box_set (box_set h.k7 0 _) 1 _, frz_set (frz_set h.f7 _ _) _ _, box_set_other (box_set_other h.k8 (by omega) _ _) (by omega) _ _, frz_set (frz_set h.f8 _ _) _ _, (ho.set hn _ _).set hn _ _, by simpa using hs, Below.setCell (h.bw.setCell (by simp only; omega) _) (by simp only; omega) _⟩
end

theorem upd_nil (f : Nat → Bool) (a : Nat) (v : Bool) : arr (upd f a a v) = arr f := by
  funext g; exact arr_congr (fun p _ => by unfold upd; rw [if_neg (by omega)]) (fun _ _ => rfl)
theorem upd_succ (f : Nat → Bool) (a p : Nat) (v : Bool) (h : a ≤ p) (q : Nat) : (if q = p then v else upd f a p v q) = upd f a (p + 1) v q := by
  unfold upd
  by_cases e : q = p
  · subst e; rw [if_pos rfl, if_pos (by omega)]
  · rw [if_neg e]
    by_cases h1 : a ≤ q ∧ q < p
    · rw [if_pos h1, if_pos (by omega)]
    · rw [if_neg h1, if_neg (by omega)]

theorem regTo_false : ∀ i, regTo (fun _ => false) i = []
  | 0 => rfl
  | i + 1 => by unfold regTo; rw [if_neg (by simp), regTo_false i]
theorem btOf_nil : btOf (fun _ => false) (fun _ => false) = ⟨[], []⟩ := by unfold btOf regionsOf; rw [regTo_false]
theorem btOf_m {f g : Nat → Bool} (h : (regionsOf f).length ≤ 40) : listOk (btOf f g).m = true := regionsOf_ok f h
theorem btOf_r {f g : Nat → Bool} (h : (regionsOf g).length ≤ 40) : listOk (btOf f g).r = true := regionsOf_ok g h

theorem binv_new (w : World) : BInv w ((((w.alloc (.cells #[.slice none 0 0, .slice none 0 0] 42)).alloc (.cells (arr (fun _ => false) (fun _ => false)) 44)).alloc (.cells #[.slice none 0 0, .slice none 0 0] 42)).alloc (.cells (arr (fun _ => false) (fun _ => false)) 44)) none none 0 0 0 0 (btOf (fun _ => false) (fun _ => false)) (fun _ => false) (fun _ => false) := by
  obtain ⟨K0, K1, K2, F0, F1, F2, hsz, hbw⟩ := boxes3 w #[.slice none 0 0, .slice none 0 0] 42 (arr (fun _ => false) (fun _ => false)) 44 #[.slice none 0 0, .slice none 0 0] 42
  have he : (((w.alloc (.cells #[.slice none 0 0, .slice none 0 0] 42)).alloc (.cells (arr (fun _ => false) (fun _ => false)) 44)).alloc (.cells #[.slice none 0 0, .slice none 0 0] 42)).heap.size = w.heap.size + 1 + 1 + 1 := by simp
  generalize ((w.alloc (.cells #[.slice none 0 0, .slice none 0 0] 42)).alloc (.cells (arr (fun _ => false) (fun _ => false)) 44)).alloc (.cells #[.slice none 0 0, .slice none 0 0] 42) = W at *
  have hb := below_alloc W (.cells (arr (fun _ => false) (fun _ => false)) 44)
  have K3 := box_new W (arr (fun _ => false) (fun _ => false)) 44
  have F3 := box_frz W (arr (fun _ => false) (fun _ => false)) 44
  rw [he] at K3 F3
  refine ⟨box_step K0 (by omega) hb, frz_step F0 (by omega) hb, box_step K1 (by omega) hb, frz_step F1 (by omega) hb, box_step K2 (by omega) hb, frz_step F2 (by omega) hb, K3, F3, ?_, by have := he; simp; omega, Below.step hbw hb⟩
  rw [btOf_nil]
  exact ⟨rfl, rfl, World.ownsRow_nil _ _ _ _, World.ownsRow_nil _ _ _ _⟩

theorem box_drew {W : World} {b : Nat} {A : Array Value} (h : ∀ o, W.cell? ⟨b, o, none⟩ = A[o]?) (o : Nat) : W.drew.cell? ⟨b, o, none⟩ = A[o]? := h o
theorem BtOwn.drew {w : World} {base : Nat} {a1 a2 : Option Addr} {n1 n2 c1 c2 : Nat} {b : Bt} (h : BtOwn w base a1 a2 n1 n2 c1 c2 b) : BtOwn w.drew base a1 a2 n1 n2 c1 c2 b := h.below ((Below.refl _ _).drew)

theorem box_pair {W : World} {b : Nat} {u0 u1 v0 v1 : Value} (h : ∀ o, W.cell? ⟨b, o, none⟩ = (#[u0, u1] : Array Value)[o]?) : ∀ o, ((W.setCell ⟨b, 0, none⟩ v0).setCell ⟨b, 1, none⟩ v1).cell? ⟨b, o, none⟩ = (#[v0, v1] : Array Value)[o]? := box_set (box_set h 0 v0) 1 v1

/-- the end of booted -/
theorem booted_ret {w F : World} {act : Act} {a1 a2 : Option Addr} {n1 n2 c1 c2 k : Nat} {f g : Nat → Bool}
    (k4 : ∀ o, F.cell? ⟨w.heap.size, o, none⟩ = (#[.slice a1 n1 c1, .slice a2 n2 c2] : Array Value)[o]?) (k5 : ∀ o, F.cell? ⟨w.heap.size + 1, o, none⟩ = (arr f g)[o]?) (ho : BtOwn F w.heap.size a1 a2 n1 n2 c1 c2 (btOf f g)) (hf : (regionsOf f).length ≤ k) (hg : (regionsOf g).length ≤ k) (hb : Below w.heap.size w F)
    (h4 : act.tmps[4]? = some (.pointer (some ⟨w.heap.size, 0, none⟩))) (h5 : act.tmps[5]? = some (.pointer (some ⟨w.heap.size + 1, 0, none⟩))) (h6 : act.tmps[6]? = some (.bool true)) (hd : act.defers = []) :
    bodyPost Try.prog Try.f21 (fun e w' => ∃ a1 a2 n1 n2 c1 c2 f g, e = .returned (.tuple #[.agg #[.slice a1 n1 c1, .slice a2 n2 c2], .agg (arr f g), .bool true]) ∧ BtOwn w' w.heap.size a1 a2 n1 n2 c1 c2 (btOf f g) ∧ (regionsOf f).length ≤ k ∧ (regionsOf g).length ≤ k ∧ Below w.heap.size w w') .ret act F := by
  have hA1 := size_arr
  have hA2 := isAgg_arr
  have hl := load_box (P := Try.prog) k5
  rw [arr_size] at hl
  generalize hA : arr f g = A at *
  generalize 512 = N at *
  refine bodyPost_ret (v := .tuple #[.agg #[.slice a1 n1 c1, .slice a2 n2 c2], .agg A, .bool true]) ?_ hd ⟨a1, a2, n1, n2, c1, c2, f, g, by rw [hA], ho, hf, hg, hb⟩
  simp [results, Try.results21, go_sem, h4, h5, h6, k4, hl, hA1, hA2]

set_option maxHeartbeats 4000000 in
set_option maxRecDepth 100000 in
theorem booted_any (a : Option Addr) (n c k : Nat) (l : List Rw) (w : World) (hn : l.length = n) (hl : n ≤ 9223372036854775807) (hk : k ≤ 30) (hr : Row w a (flat encRw l)) (hwf : ∀ r ∈ l, r.wf) :
    Calls Try.prog 21 #[.slice a n c, .int .i64 k] w fun e w' => ∃ a1 a2 n1 n2 c1 c2 f g, e = .returned (.tuple #[.agg #[.slice a1 n1 c1, .slice a2 n2 c2], .agg (arr f g), .bool true]) ∧ BtOwn w' w.heap.size a1 a2 n1 n2 c1 c2 (btOf f g) ∧ (regionsOf f).length ≤ k ∧ (regionsOf g).length ≤ k ∧ Below w.heap.size w w' := by
  subst hn
  have hz := zero_arr
  go_enter Try.func21, Try.ntmps21
  go_wp2
  have I0 := Hid.mk (binv_new w)
  generalize (((w.alloc (.cells #[.slice none 0 0, .slice none 0 0] 42)).alloc (.cells (arr (fun _ => false) (fun _ => false)) 44)).alloc (.cells #[.slice none 0 0, .slice none 0 0] 42)).alloc (.cells (arr (fun _ => false) (fun _ => false)) 44) = w0 at *
  go_loopw [9, 10, 11, 12, 13, 14] (fun s9 _ _ _ _ _ wr => ∃ (i : Nat) (a1 a2 : Option Addr) (n1 n2 c1 c2 : Nat) (f g : Nat → Bool), i ≤ l.length ∧ i ≤ k ∧ s9 = .int .i64 i ∧ Hid (BInv w wr a1 a2 n1 n2 c1 c2 (btOf f g) f g) ∧ (regionsOf f).length ≤ i ∧ (regionsOf g).length ≤ i) (fun s9 _ _ _ _ _ _ => l.length - (intOf s9).toNat)
  case atStart => exact ⟨0, none, none, 0, 0, 0, 0, fun _ => false, fun _ => false, Nat.zero_le _, Nat.zero_le _, rfl, I0, by simp [regionsOf, regTo_false], by simp [regionsOf, regTo_false]⟩
  case round =>
    obtain ⟨i, a1, a2, n1, n2, c1, c2, f, g, hi, hik, rfl, HI, hlf, hlg⟩ := hrel
    clear I0
    by_cases hlt : i < l.length
    · by_cases hltk : i < k
      · have I := HI.out
        obtain ⟨bb, off, rfl, hb, hc⟩ := row_elem encRw_length (by decide) hr hlt
        obtain ⟨hc0, hc1, hc2, hc3⟩ := encRw_cells hc
        have hwfi := hwf _ (List.getElem_mem hlt)
        generalize l[i] = r at *
        obtain ⟨hw1, hw2⟩ := hwfi.1
        have hrl := r.rf_lt
        have hrs := r.rs_lt
        have d0 := (I.bw.cell (p := ⟨bb, off + i * 4, none⟩) hb).trans hc0
        have d1 := (I.bw.cell (p := ⟨bb, off + i * 4 + 1, none⟩) hb).trans hc1
        have d2 := (I.bw.cell (p := ⟨bb, off + i * 4 + 2, none⟩) hb).trans hc2
        have d3 := (I.bw.cell (p := ⟨bb, off + i * 4 + 3, none⟩) hb).trans hc3
        clear hc hc1 hc2 hc3 hr hwf
        have HIC := Hid.mk I
        clear I HI
        go_wp2_with fail
        refine (region_any r _ hwfi).mono ?_
        rintro e w1 ⟨rfl, hb1⟩
        have I1 := HIC.out.below hb1
        clear HIC d0 d1 d2 d3
        generalize r.rf = rf at *
        generalize r.rs = rs at *
        obtain ⟨R2, T2, _, _, hr2', hb12⟩ := boxes2 w1 #[.int .i64 (rf : Int), .int .i64 (rs : Int)] 51 #[.func (.func 35) #[] #[], .func (.func 35) #[] #[], .func (.func 36) #[] #[], .func (.func 37) #[] #[], .func (.func 28) #[] #[]] 59
        have I2 := I1.below hb12
        have e2 := (I2.bw.cell (p := ⟨bb, off + i * 4, none⟩) hb).trans hc0
        have hbw2 : bb < _ := Nat.lt_of_lt_of_le hb I2.bw.size
        have hz1 := I1.sz
        have HI2 := Hid.mk I2
        clear I1 I2 hb12
        go_wp2_with fail
        have I2 := HI2.out
        clear HI2
        generalize (w1.alloc (.cells #[.int .i64 (rf : Int), .int .i64 (rs : Int)] 51)).alloc (.cells #[.func (.func 35) #[] #[], .func (.func 35) #[] #[], .func (.func 36) #[] #[], .func (.func 37) #[] #[], .func (.func 28) #[] #[]] 59) = w2 at *
        have hr2 : w1.heap.size < w2.heap.size := by omega
        generalize w1.heap.size = bR at *
        have hop5 : pk r.k 5 = 0 ∨ pk r.k 5 = 1 ∨ pk r.k 5 = 2 ∨ pk r.k 5 = 3 ∨ pk r.k 5 = 4 := by have := pk_nonneg r.k 5 (by omega); have := pk_lt r.k 5 (by omega); omega
        rcases hop5 with hop | hop | hop | hop | hop
        · -- the act 0: Add
          have hch : (btOf f g).change rf rs false true = btOf (upd f rf (rf + rs) true) g := btOf_change f g rf rs false true
          have hl1 := regionsOf_upd_len f rf (rf + rs) true (by omega)
          have hl2 := regionsOf_upd_len g rf (rf + rs) true (by omega)
          refine (picked_is (0 : Int) _ _ _ hw1 hw2 (by omega) (by omega) hop).mono ?_
          rintro e w3 ⟨rfl, rfl⟩
          have hk7 := I2.k7
          have hbt := Hid.mk I2.own.at
          have hT := T2 0
          change _ = some (Value.func (.func 35) #[] #[]) at hT
          clear T2
          go_wp2_with fail
          refine (bootAdd_ok _ _ _ _ _ _ (btOf f g) rf rs _ hbt.out (btOf_m (by omega)) (btOf_r (by omega)) (by omega) (by omega) (by rw [hch]; simp only [btOf]; omega) (by rw [hch]; simp only [btOf]; omega)).mono ?_
          rw [hch]
          rintro e w4 ⟨a1', n1', c1', a2', n2', c2', rfl, hat4, hb4⟩
          have hz2 := I2.sz
          have hb5 := below_alloc w4 (.cells #[.slice a1' n1' c1', .slice a2' n2' c2'] 42)
          have I5 := (I2.below hb4).below hb5
          have R5 := box_step (box_step R2 hr2 hb4) (Nat.lt_of_lt_of_le hr2 hb4.size) hb5
          have hr5 : bR < (w4.alloc (.cells #[.slice a1' n1' c1', .slice a2' n2' c2'] 42)).heap.size := Nat.lt_of_lt_of_le (Nat.lt_of_lt_of_le hr2 hb4.size) hb5.size
          have N5 := box_new w4 #[.slice a1' n1' c1', .slice a2' n2' c2'] 42
          have I6 := I5.boot ((hat4.base (show w.heap.size + 4 ≤ _ from hz2)).below hb5)
          have R6 := box_set_other (box_set_other R5 (c := w.heap.size + 1 + 1) (by omega) 0 (.slice a1' n1' c1')) (c := w.heap.size + 1 + 1) (by omega) 1 (.slice a2' n2' c2')
          have hk7' := I5.k7
          have hf7' := I5.f7
          have hsz4 := hb4.size
          clear hat4 hbt hk7 R2 I2 hT hb4 hb5
          have HI6 := Hid.mk I6
          have HI5 := Hid.mk I5
          clear I6 I5 e2
          go_wp2
          have hr6 : bR < (((w4.alloc (.cells #[.slice a1' n1' c1', .slice a2' n2' c2'] 42)).setCell ⟨w.heap.size + 1 + 1, 0, none⟩ (.slice a1' n1' c1')).setCell ⟨w.heap.size + 1 + 1, 1, none⟩ (.slice a2' n2' c2')).heap.size := by simpa using hr5
          clear HI5 R5 hr5 N5 hk7' hf7'
          generalize ((w4.alloc (.cells #[.slice a1' n1' c1', .slice a2' n2' c2'] 42)).setCell ⟨w.heap.size + 1 + 1, 0, none⟩ (.slice a1' n1' c1')).setCell ⟨w.heap.size + 1 + 1, 1, none⟩ (.slice a2' n2' c2') = w6 at *
          have HR6 := Hid.mk R6
          clear R6
          go_loopw [14] (fun s14 wq => ∃ p : Nat, rf ≤ p ∧ p ≤ rf + rs ∧ s14 = .int .i64 p ∧ Hid (BInv w wq a1' a2' n1' n2' c1' c2' (btOf (upd f rf (rf + rs) true) g) (upd f rf p true) g) ∧ Hid (∀ o, wq.cell? ⟨bR, o, none⟩ = (#[.int .i64 (rf : Int), .int .i64 (rs : Int)] : Array Value)[o]?) ∧ bR < wq.heap.size) (fun s14 _ => 256 - (intOf s14).toNat)
          case atStart =>
            refine ⟨rf, Nat.le_refl _, by omega, rfl, ?_, HR6, hr6⟩
            have h := HI6.out
            exact ⟨h.k4, h.f4, h.k5, h.f5, h.k7, h.f7, by rw [show arr (upd f rf rf true) g = arr f g from arr_congr (fun q _ => by first | rfl | (unfold upd; rw [if_neg (by omega)])) (fun q _ => by first | rfl | (unfold upd; rw [if_neg (by omega)]))]; exact h.k8, h.f8, h.own, h.sz, h.bw⟩
          case round =>
            obtain ⟨p, hp1, hp2, rfl, HQ, HR, hrq⟩ := hrel
            have IQ := HQ.out
            have RQ := HR.out
            clear HI6 HR6
            have eq := (IQ.bw.cell (p := ⟨bb, off + i * 4, none⟩) hb).trans hc0
            have hbq : bb < _ := Nat.lt_of_lt_of_le hb IQ.bw.size
            have f8 := IQ.f8
            have hzq := IQ.sz
            by_cases hltp : p < rf + rs
            · have k8 := (IQ.k8 p).trans (arr_0 _ _ p (by omega))
              have I7 := IQ.mark p true (f' := upd f rf (p + 1) true) (g' := g) (by rw [arr_set0 _ _ p (by omega)]; exact arr_congr (fun q _ => by first | rfl | exact upd_succ _ _ _ _ hp1 q) (fun q _ => by first | rfl | exact upd_succ _ _ _ _ hp1 q))
              have R7 := box_set_other RQ (c := w.heap.size + 1 + 1 + 1) (by omega) p (.bool true)
              have HI7 := Hid.mk I7
              have HR7 := Hid.mk R7
              clear I7 R7 IQ
              go_wp2_with fail
              refine (picked_is (0 : Int) _ _ _ hw1 hw2 (by omega) (by omega) hop).mono ?_
              rintro e w3 ⟨rfl, rfl⟩
              go_wp2
              go_roundw
              case rel => exact ⟨p + 1, by omega, by omega, by go_num, HI7.out, HR7.out, by simpa using hrq⟩
              case measure => simp [intOf]; omega
            · obtain rfl : p = rf + rs := by omega
              have HIQ := Hid.mk IQ
              clear IQ
              go_wp2
              go_roundw
              case rel => exact ⟨i + 1, a1', a2', n1', n2', c1', c2', _, _, by omega, by omega, by go_num, HIQ.out, by omega, by omega⟩
              case measure => simp [intOf]; omega

        · -- the act 1: Add
          have hch : (btOf f g).change rf rs false true = btOf (upd f rf (rf + rs) true) g := btOf_change f g rf rs false true
          have hl1 := regionsOf_upd_len f rf (rf + rs) true (by omega)
          have hl2 := regionsOf_upd_len g rf (rf + rs) true (by omega)
          refine (picked_is (1 : Int) _ _ _ hw1 hw2 (by omega) (by omega) hop).mono ?_
          rintro e w3 ⟨rfl, rfl⟩
          have hk7 := I2.k7
          have hbt := Hid.mk I2.own.at
          have hT := T2 1
          change _ = some (Value.func (.func 35) #[] #[]) at hT
          clear T2
          go_wp2_with fail
          refine (bootAdd_ok _ _ _ _ _ _ (btOf f g) rf rs _ hbt.out (btOf_m (by omega)) (btOf_r (by omega)) (by omega) (by omega) (by rw [hch]; simp only [btOf]; omega) (by rw [hch]; simp only [btOf]; omega)).mono ?_
          rw [hch]
          rintro e w4 ⟨a1', n1', c1', a2', n2', c2', rfl, hat4, hb4⟩
          have hz2 := I2.sz
          have hb5 := below_alloc w4 (.cells #[.slice a1' n1' c1', .slice a2' n2' c2'] 42)
          have I5 := (I2.below hb4).below hb5
          have R5 := box_step (box_step R2 hr2 hb4) (Nat.lt_of_lt_of_le hr2 hb4.size) hb5
          have hr5 : bR < (w4.alloc (.cells #[.slice a1' n1' c1', .slice a2' n2' c2'] 42)).heap.size := Nat.lt_of_lt_of_le (Nat.lt_of_lt_of_le hr2 hb4.size) hb5.size
          have N5 := box_new w4 #[.slice a1' n1' c1', .slice a2' n2' c2'] 42
          have I6 := I5.boot ((hat4.base (show w.heap.size + 4 ≤ _ from hz2)).below hb5)
          have R6 := box_set_other (box_set_other R5 (c := w.heap.size + 1 + 1) (by omega) 0 (.slice a1' n1' c1')) (c := w.heap.size + 1 + 1) (by omega) 1 (.slice a2' n2' c2')
          have hk7' := I5.k7
          have hf7' := I5.f7
          have hsz4 := hb4.size
          clear hat4 hbt hk7 R2 I2 hT hb4 hb5
          have HI6 := Hid.mk I6
          have HI5 := Hid.mk I5
          clear I6 I5 e2
          go_wp2
          have hr6 : bR < (((w4.alloc (.cells #[.slice a1' n1' c1', .slice a2' n2' c2'] 42)).setCell ⟨w.heap.size + 1 + 1, 0, none⟩ (.slice a1' n1' c1')).setCell ⟨w.heap.size + 1 + 1, 1, none⟩ (.slice a2' n2' c2')).heap.size := by simpa using hr5
          clear HI5 R5 hr5 N5 hk7' hf7'
          generalize ((w4.alloc (.cells #[.slice a1' n1' c1', .slice a2' n2' c2'] 42)).setCell ⟨w.heap.size + 1 + 1, 0, none⟩ (.slice a1' n1' c1')).setCell ⟨w.heap.size + 1 + 1, 1, none⟩ (.slice a2' n2' c2') = w6 at *
          have HR6 := Hid.mk R6
          clear R6
          go_loopw [14] (fun s14 wq => ∃ p : Nat, rf ≤ p ∧ p ≤ rf + rs ∧ s14 = .int .i64 p ∧ Hid (BInv w wq a1' a2' n1' n2' c1' c2' (btOf (upd f rf (rf + rs) true) g) (upd f rf p true) g) ∧ Hid (∀ o, wq.cell? ⟨bR, o, none⟩ = (#[.int .i64 (rf : Int), .int .i64 (rs : Int)] : Array Value)[o]?) ∧ bR < wq.heap.size) (fun s14 _ => 256 - (intOf s14).toNat)
          case atStart =>
            refine ⟨rf, Nat.le_refl _, by omega, rfl, ?_, HR6, hr6⟩
            have h := HI6.out
            exact ⟨h.k4, h.f4, h.k5, h.f5, h.k7, h.f7, by rw [show arr (upd f rf rf true) g = arr f g from arr_congr (fun q _ => by first | rfl | (unfold upd; rw [if_neg (by omega)])) (fun q _ => by first | rfl | (unfold upd; rw [if_neg (by omega)]))]; exact h.k8, h.f8, h.own, h.sz, h.bw⟩
          case round =>
            obtain ⟨p, hp1, hp2, rfl, HQ, HR, hrq⟩ := hrel
            have IQ := HQ.out
            have RQ := HR.out
            clear HI6 HR6
            have eq := (IQ.bw.cell (p := ⟨bb, off + i * 4, none⟩) hb).trans hc0
            have hbq : bb < _ := Nat.lt_of_lt_of_le hb IQ.bw.size
            have f8 := IQ.f8
            have hzq := IQ.sz
            by_cases hltp : p < rf + rs
            · have k8 := (IQ.k8 p).trans (arr_0 _ _ p (by omega))
              have I7 := IQ.mark p true (f' := upd f rf (p + 1) true) (g' := g) (by rw [arr_set0 _ _ p (by omega)]; exact arr_congr (fun q _ => by first | rfl | exact upd_succ _ _ _ _ hp1 q) (fun q _ => by first | rfl | exact upd_succ _ _ _ _ hp1 q))
              have R7 := box_set_other RQ (c := w.heap.size + 1 + 1 + 1) (by omega) p (.bool true)
              have HI7 := Hid.mk I7
              have HR7 := Hid.mk R7
              clear I7 R7 IQ
              go_wp2_with fail
              refine (picked_is (1 : Int) _ _ _ hw1 hw2 (by omega) (by omega) hop).mono ?_
              rintro e w3 ⟨rfl, rfl⟩
              go_wp2
              go_roundw
              case rel => exact ⟨p + 1, by omega, by omega, by go_num, HI7.out, HR7.out, by simpa using hrq⟩
              case measure => simp [intOf]; omega
            · obtain rfl : p = rf + rs := by omega
              have HIQ := Hid.mk IQ
              clear IQ
              go_wp2
              go_roundw
              case rel => exact ⟨i + 1, a1', a2', n1', n2', c1', c2', _, _, by omega, by omega, by go_num, HIQ.out, by omega, by omega⟩
              case measure => simp [intOf]; omega

        · -- the act 2: Remove
          have hch : (btOf f g).change rf rs false false = btOf (upd f rf (rf + rs) false) g := btOf_change f g rf rs false false
          have hl1 := regionsOf_upd_len f rf (rf + rs) false (by omega)
          have hl2 := regionsOf_upd_len g rf (rf + rs) false (by omega)
          refine (picked_is (2 : Int) _ _ _ hw1 hw2 (by omega) (by omega) hop).mono ?_
          rintro e w3 ⟨rfl, rfl⟩
          have hk7 := I2.k7
          have hbt := Hid.mk I2.own.at
          have hT := T2 2
          change _ = some (Value.func (.func 36) #[] #[]) at hT
          clear T2
          go_wp2_with fail
          refine (bootRemove_ok _ _ _ _ _ _ (btOf f g) rf rs _ hbt.out (btOf_m (by omega)) (btOf_r (by omega)) (by omega) (by omega) (by rw [hch]; simp only [btOf]; omega) (by rw [hch]; simp only [btOf]; omega)).mono ?_
          rw [hch]
          rintro e w4 ⟨a1', n1', c1', a2', n2', c2', rfl, hat4, hb4⟩
          have hz2 := I2.sz
          have hb5 := below_alloc w4 (.cells #[.slice a1' n1' c1', .slice a2' n2' c2'] 42)
          have I5 := (I2.below hb4).below hb5
          have R5 := box_step (box_step R2 hr2 hb4) (Nat.lt_of_lt_of_le hr2 hb4.size) hb5
          have hr5 : bR < (w4.alloc (.cells #[.slice a1' n1' c1', .slice a2' n2' c2'] 42)).heap.size := Nat.lt_of_lt_of_le (Nat.lt_of_lt_of_le hr2 hb4.size) hb5.size
          have N5 := box_new w4 #[.slice a1' n1' c1', .slice a2' n2' c2'] 42
          have I6 := I5.boot ((hat4.base (show w.heap.size + 4 ≤ _ from hz2)).below hb5)
          have R6 := box_set_other (box_set_other R5 (c := w.heap.size + 1 + 1) (by omega) 0 (.slice a1' n1' c1')) (c := w.heap.size + 1 + 1) (by omega) 1 (.slice a2' n2' c2')
          have hk7' := I5.k7
          have hf7' := I5.f7
          have hsz4 := hb4.size
          clear hat4 hbt hk7 R2 I2 hT hb4 hb5
          have HI6 := Hid.mk I6
          have HI5 := Hid.mk I5
          clear I6 I5 e2
          go_wp2
          have hr6 : bR < (((w4.alloc (.cells #[.slice a1' n1' c1', .slice a2' n2' c2'] 42)).setCell ⟨w.heap.size + 1 + 1, 0, none⟩ (.slice a1' n1' c1')).setCell ⟨w.heap.size + 1 + 1, 1, none⟩ (.slice a2' n2' c2')).heap.size := by simpa using hr5
          clear HI5 R5 hr5 N5 hk7' hf7'
          generalize ((w4.alloc (.cells #[.slice a1' n1' c1', .slice a2' n2' c2'] 42)).setCell ⟨w.heap.size + 1 + 1, 0, none⟩ (.slice a1' n1' c1')).setCell ⟨w.heap.size + 1 + 1, 1, none⟩ (.slice a2' n2' c2') = w6 at *
          have HR6 := Hid.mk R6
          clear R6
          go_loopw [14] (fun s14 wq => ∃ p : Nat, rf ≤ p ∧ p ≤ rf + rs ∧ s14 = .int .i64 p ∧ Hid (BInv w wq a1' a2' n1' n2' c1' c2' (btOf (upd f rf (rf + rs) false) g) (upd f rf p false) g) ∧ Hid (∀ o, wq.cell? ⟨bR, o, none⟩ = (#[.int .i64 (rf : Int), .int .i64 (rs : Int)] : Array Value)[o]?) ∧ bR < wq.heap.size) (fun s14 _ => 256 - (intOf s14).toNat)
          case atStart =>
            refine ⟨rf, Nat.le_refl _, by omega, rfl, ?_, HR6, hr6⟩
            have h := HI6.out
            exact ⟨h.k4, h.f4, h.k5, h.f5, h.k7, h.f7, by rw [show arr (upd f rf rf false) g = arr f g from arr_congr (fun q _ => by first | rfl | (unfold upd; rw [if_neg (by omega)])) (fun q _ => by first | rfl | (unfold upd; rw [if_neg (by omega)]))]; exact h.k8, h.f8, h.own, h.sz, h.bw⟩
          case round =>
            obtain ⟨p, hp1, hp2, rfl, HQ, HR, hrq⟩ := hrel
            have IQ := HQ.out
            have RQ := HR.out
            clear HI6 HR6
            have eq := (IQ.bw.cell (p := ⟨bb, off + i * 4, none⟩) hb).trans hc0
            have hbq : bb < _ := Nat.lt_of_lt_of_le hb IQ.bw.size
            have f8 := IQ.f8
            have hzq := IQ.sz
            by_cases hltp : p < rf + rs
            · have k8 := (IQ.k8 p).trans (arr_0 _ _ p (by omega))
              have I7 := IQ.mark p false (f' := upd f rf (p + 1) false) (g' := g) (by rw [arr_set0 _ _ p (by omega)]; exact arr_congr (fun q _ => by first | rfl | exact upd_succ _ _ _ _ hp1 q) (fun q _ => by first | rfl | exact upd_succ _ _ _ _ hp1 q))
              have R7 := box_set_other RQ (c := w.heap.size + 1 + 1 + 1) (by omega) p (.bool false)
              have HI7 := Hid.mk I7
              have HR7 := Hid.mk R7
              clear I7 R7 IQ
              go_wp2_with fail
              refine (picked_is (2 : Int) _ _ _ hw1 hw2 (by omega) (by omega) hop).mono ?_
              rintro e w3 ⟨rfl, rfl⟩
              go_wp2
              go_roundw
              case rel => exact ⟨p + 1, by omega, by omega, by go_num, HI7.out, HR7.out, by simpa using hrq⟩
              case measure => simp [intOf]; omega
            · obtain rfl : p = rf + rs := by omega
              have HIQ := Hid.mk IQ
              clear IQ
              go_wp2
              go_roundw
              case rel => exact ⟨i + 1, a1', a2', n1', n2', c1', c2', _, _, by omega, by omega, by go_num, HIQ.out, by omega, by omega⟩
              case measure => simp [intOf]; omega

        · -- the act 3: Reserve
          have hch : (btOf f g).change rf rs true true = btOf f (upd g rf (rf + rs) true) := btOf_change f g rf rs true true
          have hl1 := regionsOf_upd_len f rf (rf + rs) true (by omega)
          have hl2 := regionsOf_upd_len g rf (rf + rs) true (by omega)
          refine (picked_is (3 : Int) _ _ _ hw1 hw2 (by omega) (by omega) hop).mono ?_
          rintro e w3 ⟨rfl, rfl⟩
          have hk7 := I2.k7
          have hbt := Hid.mk I2.own.at
          have hT := T2 3
          change _ = some (Value.func (.func 37) #[] #[]) at hT
          clear T2
          go_wp2_with fail
          refine (bootReserve_ok _ _ _ _ _ _ (btOf f g) rf rs _ hbt.out (btOf_m (by omega)) (btOf_r (by omega)) (by omega) (by omega) (by rw [hch]; simp only [btOf]; omega) (by rw [hch]; simp only [btOf]; omega)).mono ?_
          rw [hch]
          rintro e w4 ⟨a1', n1', c1', a2', n2', c2', rfl, hat4, hb4⟩
          have hz2 := I2.sz
          have hb5 := below_alloc w4 (.cells #[.slice a1' n1' c1', .slice a2' n2' c2'] 42)
          have I5 := (I2.below hb4).below hb5
          have R5 := box_step (box_step R2 hr2 hb4) (Nat.lt_of_lt_of_le hr2 hb4.size) hb5
          have hr5 : bR < (w4.alloc (.cells #[.slice a1' n1' c1', .slice a2' n2' c2'] 42)).heap.size := Nat.lt_of_lt_of_le (Nat.lt_of_lt_of_le hr2 hb4.size) hb5.size
          have N5 := box_new w4 #[.slice a1' n1' c1', .slice a2' n2' c2'] 42
          have I6 := I5.boot ((hat4.base (show w.heap.size + 4 ≤ _ from hz2)).below hb5)
          have R6 := box_set_other (box_set_other R5 (c := w.heap.size + 1 + 1) (by omega) 0 (.slice a1' n1' c1')) (c := w.heap.size + 1 + 1) (by omega) 1 (.slice a2' n2' c2')
          have hk7' := I5.k7
          have hf7' := I5.f7
          have hsz4 := hb4.size
          clear hat4 hbt hk7 R2 I2 hT hb4 hb5
          have HI6 := Hid.mk I6
          have HI5 := Hid.mk I5
          clear I6 I5 e2
          go_wp2
          have hr6 : bR < (((w4.alloc (.cells #[.slice a1' n1' c1', .slice a2' n2' c2'] 42)).setCell ⟨w.heap.size + 1 + 1, 0, none⟩ (.slice a1' n1' c1')).setCell ⟨w.heap.size + 1 + 1, 1, none⟩ (.slice a2' n2' c2')).heap.size := by simpa using hr5
          clear HI5 R5 hr5 N5 hk7' hf7'
          generalize ((w4.alloc (.cells #[.slice a1' n1' c1', .slice a2' n2' c2'] 42)).setCell ⟨w.heap.size + 1 + 1, 0, none⟩ (.slice a1' n1' c1')).setCell ⟨w.heap.size + 1 + 1, 1, none⟩ (.slice a2' n2' c2') = w6 at *
          have HR6 := Hid.mk R6
          clear R6
          go_loopw [14] (fun s14 wq => ∃ p : Nat, rf ≤ p ∧ p ≤ rf + rs ∧ s14 = .int .i64 p ∧ Hid (BInv w wq a1' a2' n1' n2' c1' c2' (btOf f (upd g rf (rf + rs) true)) f (upd g rf p true)) ∧ Hid (∀ o, wq.cell? ⟨bR, o, none⟩ = (#[.int .i64 (rf : Int), .int .i64 (rs : Int)] : Array Value)[o]?) ∧ bR < wq.heap.size) (fun s14 _ => 256 - (intOf s14).toNat)
          case atStart =>
            refine ⟨rf, Nat.le_refl _, by omega, rfl, ?_, HR6, hr6⟩
            have h := HI6.out
            exact ⟨h.k4, h.f4, h.k5, h.f5, h.k7, h.f7, by rw [show arr f (upd g rf rf true) = arr f g from arr_congr (fun q _ => by first | rfl | (unfold upd; rw [if_neg (by omega)])) (fun q _ => by first | rfl | (unfold upd; rw [if_neg (by omega)]))]; exact h.k8, h.f8, h.own, h.sz, h.bw⟩
          case round =>
            obtain ⟨p, hp1, hp2, rfl, HQ, HR, hrq⟩ := hrel
            have IQ := HQ.out
            have RQ := HR.out
            clear HI6 HR6
            have eq := (IQ.bw.cell (p := ⟨bb, off + i * 4, none⟩) hb).trans hc0
            have hbq : bb < _ := Nat.lt_of_lt_of_le hb IQ.bw.size
            have f8 := IQ.f8
            have hzq := IQ.sz
            by_cases hltp : p < rf + rs
            · have k8 := (IQ.k8 (256 + p)).trans (arr_1 _ _ p (by omega))
              have I7 := IQ.mark (256 + p) true (f' := f) (g' := upd g rf (p + 1) true) (by rw [arr_set1 _ _ p (by omega)]; exact arr_congr (fun q _ => by first | rfl | exact upd_succ _ _ _ _ hp1 q) (fun q _ => by first | rfl | exact upd_succ _ _ _ _ hp1 q))
              have R7 := box_set_other RQ (c := w.heap.size + 1 + 1 + 1) (by omega) (256 + p) (.bool true)
              have HI7 := Hid.mk I7
              have HR7 := Hid.mk R7
              clear I7 R7 IQ
              go_wp2_with fail
              refine (picked_is (3 : Int) _ _ _ hw1 hw2 (by omega) (by omega) hop).mono ?_
              rintro e w3 ⟨rfl, rfl⟩
              go_wp2
              go_roundw
              case rel => exact ⟨p + 1, by omega, by omega, by go_num, HI7.out, HR7.out, by simpa using hrq⟩
              case measure => simp [intOf]; omega
            · obtain rfl : p = rf + rs := by omega
              have HIQ := Hid.mk IQ
              clear IQ
              go_wp2
              go_roundw
              case rel => exact ⟨i + 1, a1', a2', n1', n2', c1', c2', _, _, by omega, by omega, by go_num, HIQ.out, by omega, by omega⟩
              case measure => simp [intOf]; omega

        · -- the act 4: Free
          have hch : (btOf f g).change rf rs true false = btOf f (upd g rf (rf + rs) false) := btOf_change f g rf rs true false
          have hl1 := regionsOf_upd_len f rf (rf + rs) false (by omega)
          have hl2 := regionsOf_upd_len g rf (rf + rs) false (by omega)
          refine (picked_is (4 : Int) _ _ _ hw1 hw2 (by omega) (by omega) hop).mono ?_
          rintro e w3 ⟨rfl, rfl⟩
          have hk7 := I2.k7
          have hbt := Hid.mk I2.own.at
          have hT := T2 4
          change _ = some (Value.func (.func 28) #[] #[]) at hT
          clear T2
          go_wp2_with fail
          refine (bootFree_ok _ _ _ _ _ _ (btOf f g) rf rs _ hbt.out (btOf_m (by omega)) (btOf_r (by omega)) (by omega) (by omega) (by rw [hch]; simp only [btOf]; omega) (by rw [hch]; simp only [btOf]; omega)).mono ?_
          rw [hch]
          rintro e w4 ⟨a1', n1', c1', a2', n2', c2', rfl, hat4, hb4⟩
          have hz2 := I2.sz
          have hb5 := below_alloc w4 (.cells #[.slice a1' n1' c1', .slice a2' n2' c2'] 42)
          have I5 := (I2.below hb4).below hb5
          have R5 := box_step (box_step R2 hr2 hb4) (Nat.lt_of_lt_of_le hr2 hb4.size) hb5
          have hr5 : bR < (w4.alloc (.cells #[.slice a1' n1' c1', .slice a2' n2' c2'] 42)).heap.size := Nat.lt_of_lt_of_le (Nat.lt_of_lt_of_le hr2 hb4.size) hb5.size
          have N5 := box_new w4 #[.slice a1' n1' c1', .slice a2' n2' c2'] 42
          have I6 := I5.boot ((hat4.base (show w.heap.size + 4 ≤ _ from hz2)).below hb5)
          have R6 := box_set_other (box_set_other R5 (c := w.heap.size + 1 + 1) (by omega) 0 (.slice a1' n1' c1')) (c := w.heap.size + 1 + 1) (by omega) 1 (.slice a2' n2' c2')
          have hk7' := I5.k7
          have hf7' := I5.f7
          have hsz4 := hb4.size
          clear hat4 hbt hk7 R2 I2 hT hb4 hb5
          have HI6 := Hid.mk I6
          have HI5 := Hid.mk I5
          clear I6 I5 e2
          go_wp2
          have hr6 : bR < (((w4.alloc (.cells #[.slice a1' n1' c1', .slice a2' n2' c2'] 42)).setCell ⟨w.heap.size + 1 + 1, 0, none⟩ (.slice a1' n1' c1')).setCell ⟨w.heap.size + 1 + 1, 1, none⟩ (.slice a2' n2' c2')).heap.size := by simpa using hr5
          clear HI5 R5 hr5 N5 hk7' hf7'
          generalize ((w4.alloc (.cells #[.slice a1' n1' c1', .slice a2' n2' c2'] 42)).setCell ⟨w.heap.size + 1 + 1, 0, none⟩ (.slice a1' n1' c1')).setCell ⟨w.heap.size + 1 + 1, 1, none⟩ (.slice a2' n2' c2') = w6 at *
          have HR6 := Hid.mk R6
          clear R6
          go_loopw [14] (fun s14 wq => ∃ p : Nat, rf ≤ p ∧ p ≤ rf + rs ∧ s14 = .int .i64 p ∧ Hid (BInv w wq a1' a2' n1' n2' c1' c2' (btOf f (upd g rf (rf + rs) false)) f (upd g rf p false)) ∧ Hid (∀ o, wq.cell? ⟨bR, o, none⟩ = (#[.int .i64 (rf : Int), .int .i64 (rs : Int)] : Array Value)[o]?) ∧ bR < wq.heap.size) (fun s14 _ => 256 - (intOf s14).toNat)
          case atStart =>
            refine ⟨rf, Nat.le_refl _, by omega, rfl, ?_, HR6, hr6⟩
            have h := HI6.out
            exact ⟨h.k4, h.f4, h.k5, h.f5, h.k7, h.f7, by rw [show arr f (upd g rf rf false) = arr f g from arr_congr (fun q _ => by first | rfl | (unfold upd; rw [if_neg (by omega)])) (fun q _ => by first | rfl | (unfold upd; rw [if_neg (by omega)]))]; exact h.k8, h.f8, h.own, h.sz, h.bw⟩
          case round =>
            obtain ⟨p, hp1, hp2, rfl, HQ, HR, hrq⟩ := hrel
            have IQ := HQ.out
            have RQ := HR.out
            clear HI6 HR6
            have eq := (IQ.bw.cell (p := ⟨bb, off + i * 4, none⟩) hb).trans hc0
            have hbq : bb < _ := Nat.lt_of_lt_of_le hb IQ.bw.size
            have f8 := IQ.f8
            have hzq := IQ.sz
            by_cases hltp : p < rf + rs
            · have k8 := (IQ.k8 (256 + p)).trans (arr_1 _ _ p (by omega))
              have I7 := IQ.mark (256 + p) false (f' := f) (g' := upd g rf (p + 1) false) (by rw [arr_set1 _ _ p (by omega)]; exact arr_congr (fun q _ => by first | rfl | exact upd_succ _ _ _ _ hp1 q) (fun q _ => by first | rfl | exact upd_succ _ _ _ _ hp1 q))
              have R7 := box_set_other RQ (c := w.heap.size + 1 + 1 + 1) (by omega) (256 + p) (.bool false)
              have HI7 := Hid.mk I7
              have HR7 := Hid.mk R7
              clear I7 R7 IQ
              go_wp2_with fail
              refine (picked_is (4 : Int) _ _ _ hw1 hw2 (by omega) (by omega) hop).mono ?_
              rintro e w3 ⟨rfl, rfl⟩
              go_wp2
              go_roundw
              case rel => exact ⟨p + 1, by omega, by omega, by go_num, HI7.out, HR7.out, by simpa using hrq⟩
              case measure => simp [intOf]; omega
            · obtain rfl : p = rf + rs := by omega
              have HIQ := Hid.mk IQ
              clear IQ
              go_wp2
              go_roundw
              case rel => exact ⟨i + 1, a1', a2', n1', n2', c1', c2', _, _, by omega, by omega, by go_num, HIQ.out, by omega, by omega⟩
              case measure => simp [intOf]; omega

      · obtain rfl : i = k := by omega
        have I := HI.out
        clear hr HI hwf
        have hk4 := I.k4
        have hf4 := I.f4
        have hk7 := I.k7
        have hszI := I.sz
        have hA1 := size_arr
        have hA2 := isAgg_arr
        have hldr : ∀ W : World, (∀ o, W.cell? ⟨w.heap.size + 1 + 1 + 1, o, none⟩ = (arr f g)[o]?) → Sem.run Try.prog (loadCellsFrom ⟨w.heap.size + 1 + 1 + 1, 0, none⟩ 0 512 #[]) W = .ok (arr f g) W := fun W h => by
          have := load_box (P := Try.prog) h
          rwa [arr_size] at this
        have hst : ∀ W : World, (∀ o, W.cell? ⟨w.heap.size + 1, o, none⟩ = (arr (fun _ => false) (fun _ => false))[o]?) → (∀ o, W.frozen? ⟨w.heap.size + 1, o, none⟩ = false) → Sem.run Try.prog (storeCells ⟨w.heap.size + 1, 0, none⟩ (arr f g).toList 0) W = .ok () (W.setCells (w.heap.size + 1) 0 (arr f g).toList) := fun W h hf => store_box h hf (by rw [arr_size, arr_size]) (arr_one f g)
        have hk5 := I.k5
        have hf5 := I.f5
        have hk8 := I.k8
        have hss := arr_size f g
        have hsz5 : (arr (fun _ => false) (fun _ => false)).size = (arr f g).size := by rw [arr_size, arr_size]
        have HI := Hid.mk I
        clear I
        generalize hAA : arr f g = A at *
        generalize arr (fun _ => false) (fun _ => false) = Z at *
        have HAA := Hid.mk hAA
        clear hAA
        generalize 512 = N at *
        go_wp2_with fail
        have nn4 := HI.out.own.ne (g := w.heap.size) (.inl (by omega))
        have nn5 := HI.out.own.ne (g := w.heap.size + 1) (.inl (by omega))
        go_region_with (fail)
        all_goals go_wp2
        all_goals
          refine booted_ret (a1 := a1) (a2 := a2) (n1 := n1) (n2 := n2) (c1 := c1) (c2 := c2) (f := f) (g := g) ?_ ?_ ?_ ?_ ?_ ?_ rfl rfl rfl rfl
          · repeat (first | with_reducible exact hk4 | with_reducible apply box_drew | with_reducible refine box_setCells_other ?_ (by omega) _ | exact box_pair hk4 | exact box_pair (box_drew hk4))
          · rw [HAA.out]
            repeat (first | with_reducible exact hk5 | with_reducible apply box_drew | with_reducible refine box_setCells ?_ (by assumption) | with_reducible refine box_set_other ?_ (by omega) _ _)
          · repeat (first | with_reducible exact HI.out.own.base (by omega) | with_reducible apply BtOwn.drew | with_reducible refine BtOwn.setCells ?_ nn5 _ _ | with_reducible refine BtOwn.set ?_ nn4 _ _)
          · omega
          · omega
          · repeat (first | with_reducible exact HI.out.bw | with_reducible apply Below.drew | with_reducible refine Below.setCells _ (by omega) _ _ ?_ | with_reducible refine Below.setCell ?_ (by simp only; omega) _)

    · obtain rfl : i = l.length := by omega
      have I := HI.out
      clear hr HI hwf
      have hk4 := I.k4
      have hf4 := I.f4
      have hk7 := I.k7
      have hszI := I.sz
      have hA1 := size_arr
      have hA2 := isAgg_arr
      have hldr : ∀ W : World, (∀ o, W.cell? ⟨w.heap.size + 1 + 1 + 1, o, none⟩ = (arr f g)[o]?) → Sem.run Try.prog (loadCellsFrom ⟨w.heap.size + 1 + 1 + 1, 0, none⟩ 0 512 #[]) W = .ok (arr f g) W := fun W h => by
        have := load_box (P := Try.prog) h
        rwa [arr_size] at this
      have hst : ∀ W : World, (∀ o, W.cell? ⟨w.heap.size + 1, o, none⟩ = (arr (fun _ => false) (fun _ => false))[o]?) → (∀ o, W.frozen? ⟨w.heap.size + 1, o, none⟩ = false) → Sem.run Try.prog (storeCells ⟨w.heap.size + 1, 0, none⟩ (arr f g).toList 0) W = .ok () (W.setCells (w.heap.size + 1) 0 (arr f g).toList) := fun W h hf => store_box h hf (by rw [arr_size, arr_size]) (arr_one f g)
      have hk5 := I.k5
      have hf5 := I.f5
      have hk8 := I.k8
      have hss := arr_size f g
      have hsz5 : (arr (fun _ => false) (fun _ => false)).size = (arr f g).size := by rw [arr_size, arr_size]
      have HI := Hid.mk I
      clear I
      generalize hAA : arr f g = A at *
      generalize arr (fun _ => false) (fun _ => false) = Z at *
      have HAA := Hid.mk hAA
      clear hAA
      generalize 512 = N at *
      go_wp2_with fail
      have nn4 := HI.out.own.ne (g := w.heap.size) (.inl (by omega))
      have nn5 := HI.out.own.ne (g := w.heap.size + 1) (.inl (by omega))
      go_region_with (fail)
      all_goals go_wp2
      all_goals
        refine booted_ret (a1 := a1) (a2 := a2) (n1 := n1) (n2 := n2) (c1 := c1) (c2 := c2) (f := f) (g := g) ?_ ?_ ?_ ?_ ?_ ?_ rfl rfl rfl rfl
        · repeat (first | with_reducible exact hk4 | with_reducible apply box_drew | with_reducible refine box_setCells_other ?_ (by omega) _ | exact box_pair hk4 | exact box_pair (box_drew hk4))
        · rw [HAA.out]
          repeat (first | with_reducible exact hk5 | with_reducible apply box_drew | with_reducible refine box_setCells ?_ (by assumption) | with_reducible refine box_set_other ?_ (by omega) _ _)
        · repeat (first | with_reducible exact HI.out.own.base (by omega) | with_reducible apply BtOwn.drew | with_reducible refine BtOwn.setCells ?_ nn5 _ _ | with_reducible refine BtOwn.set ?_ nn4 _ _)
        · omega
        · omega
        · repeat (first | with_reducible exact HI.out.bw | with_reducible apply Below.drew | with_reducible refine Below.setCells _ (by omega) _ _ ?_ | with_reducible refine Below.setCell ?_ (by simp only; omega) _)

end Go.Proofs.Yteonmoncofcajaa
