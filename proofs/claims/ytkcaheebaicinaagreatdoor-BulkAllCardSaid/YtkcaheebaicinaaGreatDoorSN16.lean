/- Blk16, Blk18: texts of this claim, joined. -/
import Derived.Test.YtkcaheebaicinaaGreatDoorSN14
import Derived.Test.YtkcaheebaicinaaGreatDoorSN15
/- Contract of package buddy: Give. -/
namespace Go.Proofs.YtkcaheebaicinaaGreatDoor
open Go.RowKit
set_option linter.unusedVariables false

/-- the state of buddy.Give -/
structure GInv (w W : World) (a1 a2 : Option Addr) (n1 n2 c1 c2 : Nat) (z : Zn) : Prop where
  k3 : ∀ i, W.cell? ⟨w.heap.size, i, none⟩ = (#[.int .i64 z.f, .int .i64 z.e, .slice a1 n1 c1, .slice a2 n2 c2] : Array Value)[i]?
  f3 : ∀ i, W.frozen? ⟨w.heap.size, i, none⟩ = false
  k6 : ∀ i, W.cell? ⟨w.heap.size + 1, i, none⟩ = (#[.int .i64 0, .int .i64 0, .slice none 0 0, .slice none 0 0] : Array Value)[i]?
  f6 : ∀ i, W.frozen? ⟨w.heap.size + 1, i, none⟩ = false
  own : ZOwn W (w.heap.size + 2) a1 a2 n1 n2 c1 c2 z
  hi : w.heap.size + 2 ≤ W.heap.size
  bw : Below w.heap.size w W
theorem GInv.below {w W W' : World} {a1 a2 : Option Addr} {n1 n2 c1 c2 : Nat} {z : Zn} (h : GInv w W a1 a2 n1 n2 c1 c2 z) (hb : Below W.heap.size W W') : GInv w W' a1 a2 n1 n2 c1 c2 z := by
  have h2 := h.hi
  exact ⟨box_step h.k3 (by omega) hb, frz_step h.f3 (by omega) hb, box_step h.k6 (by omega) hb, frz_step h.f6 (by omega) hb, h.own.below hb, Nat.le_trans h2 hb.size, Below.step h.bw hb⟩
/-- another zone is stored into the box -/
theorem GInv.put {w W : World} {a1 a2 : Option Addr} {n1 n2 c1 c2 : Nat} {z : Zn} (h : GInv w W a1 a2 n1 n2 c1 c2 z) {b1 b2 : Option Addr} {m1 m2 d1 d2 : Nat} {y : Zn} (ho : ZOwn W (w.heap.size + 2) b1 b2 m1 m2 d1 d2 y) :
    GInv w ((((W.setCell ⟨w.heap.size, 0, none⟩ (.int .i64 y.f)).setCell ⟨w.heap.size, 1, none⟩ (.int .i64 y.e)).setCell ⟨w.heap.size, 2, none⟩ (.slice b1 m1 d1)).setCell ⟨w.heap.size, 3, none⟩ (.slice b2 m2 d2)) b1 b2 m1 m2 d1 d2 y := by
  have h2 := h.hi
  have nn := ho.ne (g := w.heap.size) (.inl (by omega))
  exact ⟨box_set (box_set (box_set (box_set h.k3 0 _) 1 _) 2 _) 3 _, frz_set (frz_set (frz_set (frz_set h.f3 _ _) _ _) _ _) _ _, box_set_other (box_set_other (box_set_other (box_set_other h.k6 (by omega) _ _) (by omega) _ _) (by omega) _ _) (by omega) _ _, frz_set (frz_set (frz_set (frz_set h.f6 _ _) _ _) _ _) _ _, ((((ho.set nn _ _).set nn _ _).set nn _ _).set nn _ _), by simpa using h2, Below.setCell (Below.setCell (Below.setCell (Below.setCell h.bw (by simp only; omega) _) (by simp only; omega) _) (by simp only; omega) _) (by simp only; omega) _⟩

set_option maxHeartbeats 4000000 in
set_option maxRecDepth 100000 in
theorem give_ok (a1 a2 : Option Addr) (n1 n2 c1 c2 : Nat) (z : Zn) (p n : Nat) (w : World) (hat : ZAt w a1 a2 n1 n2 z) (hz : z.ok) (hl : z.l = []) (hp : z.f ≤ p) (hn : p + n ≤ z.e) :
    Calls Tryz.prog 54 #[.agg #[.int .i64 z.f, .int .i64 z.e, .slice a1 n1 c1, .slice a2 n2 c2], .int .i64 p, .int .i64 n] w fun ev w' => ∃ a1' a2' n1' c1' c2', ev = .returned (.tuple #[.agg #[.int .i64 z.f, .int .i64 z.e, .slice a1' n1' c1', .slice a2' n2 c2'], .int .i64 0]) ∧ ZOwn w' w.heap.size a1' a2' n1' n2 c1' c2' (giveTo z p n) ∧ Below w.heap.size w w' := by
  have hee := hz.1.e2
  have l1 := hat.l1
  have l2 := hat.l2
  have hl0 : z.l.length = 0 := by rw [hl]; rfl
  have hy32 : z.y.length ≤ 32 := by rw [hz.1.len]; omega
  obtain ⟨K3, K6, F3, F6, hsz, hbw⟩ := boxes2 w #[.int .i64 (z.f : Int), .int .i64 (z.e : Int), .slice a1 n1 c1, .slice a2 n2 c2] 110 #[.int .i64 0, .int .i64 0, .slice none 0 0, .slice none 0 0] 110
  have hat0 := hat.below hbw
  have d1 : decide (p < z.f) = false := decide_eq_false (by omega)
  have d2 : decide ((z.e : Int) < p) = false := decide_eq_false (by omega)
  have d3 : decide ((z.e : Int) - p < n) = false := decide_eq_false (by omega)
  have d4 : decide (z.e < p) = false := decide_eq_false (by omega)
  have d5 : (p : Int) ≤ z.e := by omega
  clear hat
  go_enter Tryz.func54, Tryz.ntmps54
  go_wp2_with fail
  generalize (w.alloc (.cells #[.int .i64 (z.f : Int), .int .i64 (z.e : Int), .slice a1 n1 c1, .slice a2 n2 c2] 110)).alloc (.cells #[.int .i64 0, .int .i64 0, .slice none 0 0, .slice none 0 0] 110) = w0 at *
  refine (check_ok _ _ _ _ _ _ z _ hat0 hz).mono ?_
  rintro ev w1 ⟨rfl, hb1⟩
  have K3b := box_step K3 (by omega) hb1
  have K6b := box_step K6 (by omega) hb1
  have F3b := frz_step F3 (by omega) hb1
  have F6b := frz_step F6 (by omega) hb1
  have hat1 := hat0.below hb1
  have hbw1 := Below.step hbw hb1
  have hB : w.heap.size + 2 ≤ w1.heap.size := by have := hb1.size; omega
  clear K3 K6 F3 F6 hb1 hat0 hbw hsz
  go_wp2_with fail
  refine (copy_ok _ _ _ _ _ _ z.f z.e z _ hat1 (by omega) (by omega)).mono ?_
  rintro ev w5 ⟨a3, a4, c3, c4, rfl, hown, hb5⟩
  have K3e := box_step K3b (by omega) hb5
  have K6e := box_step K6b (by omega) hb5
  have F3e := frz_step F3b (by omega) hb5
  have F6e := frz_step F6b (by omega) hb5
  have hbw5 := Below.step hbw1 hb5
  have hnn := (hown.ne (g := w.heap.size) (.inl (by omega)))
  have I1 : GInv w ((((w5.setCell ⟨w.heap.size, 0, none⟩ (.int .i64 z.f)).setCell ⟨w.heap.size, 1, none⟩ (.int .i64 z.e)).setCell ⟨w.heap.size, 2, none⟩ (.slice a3 n1 c3)).setCell ⟨w.heap.size, 3, none⟩ (.slice a4 n2 c4)) a3 a4 n1 n2 c3 c4 z := by
    have h5 := hb5.size
    exact ⟨box_set (box_set (box_set (box_set K3e 0 _) 1 _) 2 _) 3 _, frz_set (frz_set (frz_set (frz_set F3e _ _) _ _) _ _) _ _, box_set_other (box_set_other (box_set_other (box_set_other K6e (by omega) _ _) (by omega) _ _) (by omega) _ _) (by omega) _ _, frz_set (frz_set (frz_set (frz_set F6e _ _) _ _) _ _) _ _, (((((hown.base hB).set hnn _ _).set hnn _ _).set hnn _ _).set hnn _ _), by simp only [World.size_setCell]; omega, Below.setCell (Below.setCell (Below.setCell (Below.setCell hbw5 (by simp only; omega) _) (by simp only; omega) _) (by simp only; omega) _) (by simp only; omega) _⟩
  have HI := Hid.mk I1
  clear I1 K6e F6e hown hbw5 K3b K6b F3b F6b hat1 hbw1 hb5 hnn d1 d2 d3 d4 d5
  go_wp2
  clear K3e F3e
  generalize (((w5.setCell ⟨w.heap.size, 0, none⟩ (.int .i64 z.f)).setCell ⟨w.heap.size, 1, none⟩ (.int .i64 z.e)).setCell ⟨w.heap.size, 2, none⟩ (.slice a3 n1 c3)).setCell ⟨w.heap.size, 3, none⟩ (.slice a4 n2 c4) = w6 at *
  go_loopw [9] (fun s9 wr => ∃ (i : Nat) (b1 b2 : Option Addr) (m1 e1 e2 : Nat), i ≤ n ∧ s9 = .int .i64 ((p + i : Nat) : Int) ∧ Hid (GInv w wr b1 b2 m1 n2 e1 e2 (giveTo z p i))) (fun s9 _ => p + n - (intOf s9).toNat)
  case atStart => exact ⟨0, a3, a4, n1, c3, c4, Nat.zero_le _, by simp, HI⟩
  case round =>
    obtain ⟨i, b1, b2, m1, e1, e2, hin, rfl, HK⟩ := hrel
    clear HI
    by_cases hlt : i < n
    · obtain ⟨g1, g2, g3, g4⟩ := giveTo_ok (p := p) hz hl hp i (by omega)
      obtain ⟨s1, s2⟩ := giveTo_step (p := p) hz hl hp (n := i) (by omega)
      have I := HK.out
      have hHi := I.hi
      have k0 := I.k3 0
      have k1 := I.k3 1
      have k2 := I.k3 2
      have k3 := I.k3 3
      simp only [List.getElem?_toArray, List.getElem?_cons_zero, List.getElem?_cons_succ] at k0 k1 k2 k3
      have hwr : w.heap.size < wr.heap.size := by omega
      have dl : decide ((p : Int) + i < p + n) = true := decide_eq_true (by omega)
      have dl2 : decide (p + i < p + n) = true := decide_eq_true (by omega)
      have HGE : Hid (giveTo z p (i + 1) = (giveTo z p i).back (p + i) 0) := rfl
      have HS1 := Hid.mk s1
      have HS2 := Hid.mk s2
      have HG1 := Hid.mk g1
      have HG2 := Hid.mk g2
      have HG3 := Hid.mk g3
      clear g4 s1 s2 g1 g2 g3
      generalize giveTo z p i = y at *
      have HK2 := Hid.mk I
      clear I HK
      go_wp2_with fail
      refine (back_ok _ _ _ _ _ _ y (p + i) 0 _ HK2.out.own.at HG1.out HS1.out HS2.out).mono ?_
      rintro ev w7 ⟨b3, b4, m3, e3, e4, rfl, hown, hb7⟩
      have hHi7 := hb7.size
      have HK4 := Hid.mk (HK2.out.below hb7)
      have hown8 : ZOwn w7 (w.heap.size + 2) b3 b4 m3 n2 e3 e4 (y.back (p + i) 0) := hown.base hHi
      have HK5 : Hid (GInv w ((((w7.setCell ⟨w.heap.size, 0, none⟩ (.int .i64 y.f)).setCell ⟨w.heap.size, 1, none⟩ (.int .i64 y.e)).setCell ⟨w.heap.size, 2, none⟩ (.slice b3 m3 e3)).setCell ⟨w.heap.size, 3, none⟩ (.slice b4 n2 e4)) b3 b4 m3 n2 e3 e4 (y.back (p + i) 0)) := HK4.out.put hown8
      have HK6 := Hid.mk (HK5.out.below (below_alloc _ (.cells #[.int .i64 (y.f : Int), .int .i64 (y.e : Int), .slice b3 m3 e3, .slice b4 n2 e4] 110)))
      have ff3 := HK4.out.f3
      have k30 := HK4.out.k3 0
      have k31 := HK4.out.k3 1
      have k32 := HK4.out.k3 2
      have k33 := HK4.out.k3 3
      simp only [List.getElem?_toArray, List.getElem?_cons_zero, List.getElem?_cons_succ] at k30 k31 k32 k33
      have hwr7 : w.heap.size < w7.heap.size := by omega
      clear hown hown8 k0 k1 k2 k3 HK2 HK4 HK5 hb7
      go_wp2
      go_roundw
      case rel => exact ⟨i + 1, b3, b4, m3, e3, e4, by omega, by go_num, by rw [HGE.out]; exact HK6⟩
      case measure => simp [intOf]; omega
    · obtain rfl : i = n := by omega
      have HG := giveTo_ok (p := p) hz hl hp i (by omega)
      have I := HK.out
      have hHi := I.hi
      have k0 := I.k3 0
      have k1 := I.k3 1
      have k2 := I.k3 2
      have k3 := I.k3 3
      rw [HG.2.1, HG.2.2.1] at *
      simp only [List.getElem?_toArray, List.getElem?_cons_zero, List.getElem?_cons_succ] at k0 k1 k2 k3
      have x6 := I.k6
      have xf6 := I.f6
      have hwr : w.heap.size < wr.heap.size := by omega
      have HK2 := Hid.mk I
      clear I HK
      go_wp2
      refine bodyPost_ret (v := .tuple #[.agg #[.int .i64 z.f, .int .i64 z.e, .slice b1 m1 e1, .slice b2 n2 e2], .int .i64 0]) (by simp [results, Tryz.results54, go_sem, x6]) rfl ⟨b1, b2, m1, e1, e2, rfl, ?_, ?_⟩
      · have no := HK2.out.own.ne (g := w.heap.size + 1) (.inl (by omega))
        exact ((((HK2.out.own.set no _ _).set no _ _).set no _ _).set no _ _).base (base' := w.heap.size) (by omega)
      · have hbb := HK2.out.bw
        exact Below.setCell (Below.setCell (Below.setCell (Below.setCell hbb (by simp only; omega) _) (by simp only; omega) _) (by simp only; omega) _) (by simp only; omega) _
end Go.Proofs.YtkcaheebaicinaaGreatDoor
/- The state of buddy.Take; what the search answers; one step of splitting. -/
namespace Go.Proofs.YtkcaheebaicinaaGreatDoor
open Go.RowKit
set_option linter.unusedVariables false

theorem split_step {f e a t o : Nat} {l : List Bk} (he : e % 16 = 0) (ht : t < 3) (hl : OkL f e l) (hb : fitsB f e a (o + 1)) (hd : ∀ x ∈ l, apartB a (o + 1) x) :
    OkL f e (putIn l ⟨a + 2 ^ o, o, t⟩) ∧ fitsB f e a o ∧ ∀ x ∈ putIn l ⟨a + 2 ^ o, o, t⟩, apartB a o x := by
  obtain ⟨h1, h2, h3⟩ := fits_half he hb
  have hp := pow_pos' o
  have hps : 2 ^ (o + 1) = 2 ^ o + 2 ^ o := by rw [Nat.pow_succ]; omega
  refine ⟨hl.put h2 ht (fun x hx => ?_) (fun _ x hx hxo => ?_), h1, fun x hx => ?_⟩
  · have := hd x hx
    unfold apartB Bk.fin at *
    rw [hps] at this
    simp only
    omega
  · simp only at hxo ⊢
    rw [h3]
    have := hd x hx
    have hpx := pow_pos' x.o
    unfold apartB Bk.fin at this
    omega
  · unfold putIn at hx
    rw [List.mem_append, List.mem_cons] at hx
    rcases hx with hx | rfl | hx
    · have := hd x (List.mem_of_mem_take hx)
      unfold apartB at *
      omega
    · unfold apartB; simp only; omega
    · have := hd x (List.mem_of_mem_drop hx)
      unfold apartB at *
      omega
theorem apart_ne {a o : Nat} {x : Bk} (h : apartB a o x) : x.a ≠ a := by
  unfold apartB Bk.fin at h
  have := pow_pos' o
  have := pow_pos' x.o
  omega

/-- an index, or -1 -/
def encO : Option Nat → Int
  | none => -1
  | some i => i
theorem findI_low (l : List Bk) (o t : Nat) : findI (fun b => decide (b.o = o ∧ b.t = t)) l = encO (lowI l o t) := by
  unfold findI lowI encO
  cases l.findIdx? fun b => decide (b.o = o ∧ b.t = t) <;> rfl

/-- the table of the other types -/
structure Oth (w : World) : Prop where
  sz : 1 < w.heap.size
  c : ∀ i v, (#[.int .i64 2, .int .i64 1, .int .i64 2, .int .i64 0, .int .i64 0, .int .i64 1] : Array Value)[i]? = some v → w.cell? ⟨1, i, none⟩ = some v
theorem Oth.mono {w w' : World} (h : Oth w) {B : Nat} (hb : Below B w w') (hB : w.heap.size ≤ B) : Oth w' :=
  ⟨Nat.lt_of_lt_of_le h.sz hb.size, fun i v hv => ((hb.mono hB).cell (p := ⟨1, i, none⟩) h.sz).trans (h.c i v hv)⟩
theorem Oth.at {w : World} (h : Oth w) {t : Nat} (ht : t < 3) : w.cell? ⟨1, t * 2, none⟩ = some (.int .i64 (oth1 t : Int)) ∧ w.cell? ⟨1, t * 2 + 1, none⟩ = some (.int .i64 (oth2 t : Int)) := by
  obtain rfl | rfl | rfl : t = 0 ∨ t = 1 ∨ t = 2 := by omega
  · exact ⟨h.c 0 _ rfl, h.c 1 _ rfl⟩
  · exact ⟨h.c 2 _ rfl, h.c 3 _ rfl⟩
  · exact ⟨h.c 4 _ rfl, h.c 5 _ rfl⟩

/-- a row of blocks is not the box of a block that lies apart from all of them -/
theorem row_not_box {w : World} {B base n c : Nat} {a : Option Addr} {l : List Bk} {x y u : Value} (hK : ∀ i, w.cell? ⟨B, i, none⟩ = (#[x, y, u] : Array Value)[i]?) (hown : w.ownsRow base 95 3 (.slice a n c) n (flat encBk l)) (hl : 0 < l.length) (hx : ∀ b ∈ l, x ≠ .int .i64 (b.a : Int)) : (Value.slice a n c).ownBlock ≠ some B := by
  intro e
  have hfl := flat_length encBk_length l
  obtain ⟨g, ha, _, _, hc, _⟩ := own_at hown 0 (by omega)
  subst ha
  obtain rfl : g = B := by simpa [Value.ownBlock] using e
  cases l with
  | nil => simp at hl
  | cons b l =>
    have h0 := hK 0
    rw [h0] at hc
    have h1 : x = (flat encBk (b :: l))[0] := by simpa using hc
    exact hx b (by simp) h1

theorem GInv.stolen {w W W' : World} {a1 a2 : Option Addr} {n1 n2 c1 c2 : Nat} {z y : Zn} (h : GInv w W a1 a2 n1 n2 c1 c2 z) (ho : ZOwn W' (w.heap.size + 2) a1 a2 n1 n2 c1 c2 y) (hb : Below (w.heap.size + 2) W W') (hf : y.f = z.f) (he : y.e = z.e) : GInv w W' a1 a2 n1 n2 c1 c2 y := by
  have h2 := h.hi
  refine ⟨fun i => ?_, fun i => (hb.frozen (p := ⟨w.heap.size, i, none⟩) (by show w.heap.size < _; omega)).trans (h.f3 i), fun i => (hb.cell (p := ⟨w.heap.size + 1, i, none⟩) (by show w.heap.size + 1 < _; omega)).trans (h.k6 i), fun i => (hb.frozen (p := ⟨w.heap.size + 1, i, none⟩) (by show w.heap.size + 1 < _; omega)).trans (h.f6 i), ho, Nat.le_trans h2 hb.size, h.bw.trans (hb.mono (by omega))⟩
  rw [hf, he]
  exact (hb.cell (p := ⟨w.heap.size, i, none⟩) (by show w.heap.size < _; omega)).trans (h.k3 i)

/-- the state of buddy.Take behind the search: a zone and the block that was found -/
structure QInv (w W : World) (B : Nat) (a1 a2 : Option Addr) (n1 n2 c1 c2 : Nat) (z : Zn) (a o t : Nat) : Prop where
  g : GInv w W a1 a2 n1 n2 c1 c2 z
  k15 : ∀ i, W.cell? ⟨B, i, none⟩ = (#[.int .i64 a, .int .i64 o, .int .i64 t] : Array Value)[i]?
  f15 : ∀ i, W.frozen? ⟨B, i, none⟩ = false
  lo : w.heap.size + 2 ≤ B
  hB : B < W.heap.size
  nb : (Value.slice a1 n1 c1).ownBlock ≠ some B ∧ (Value.slice a2 n2 c2).ownBlock ≠ some B
section
variable {w W W' : World} {B : Nat} {a1 a2 : Option Addr} {n1 n2 c1 c2 : Nat} {z : Zn} {a o t : Nat}
theorem QInv.below (h : QInv w W B a1 a2 n1 n2 c1 c2 z a o t) (hb : Below W.heap.size W W') : QInv w W' B a1 a2 n1 n2 c1 c2 z a o t :=
  ⟨h.g.below hb, box_step h.k15 h.hB hb, frz_step h.f15 h.hB hb, h.lo, Nat.lt_of_lt_of_le h.hB hb.size, h.nb⟩
theorem QInv.put15 (h : QInv w W B a1 a2 n1 n2 c1 c2 z a o t) (i : Nat) (u : Int) {a' o' t' : Nat} (he : (#[.int .i64 a, .int .i64 o, .int .i64 t] : Array Value).setIfInBounds i (.int .i64 u) = #[.int .i64 a', .int .i64 o', .int .i64 t']) : QInv w (W.setCell ⟨B, i, none⟩ (.int .i64 u)) B a1 a2 n1 n2 c1 c2 z a' o' t' := by
  have h1 := h.lo
  have h2 := h.hB
  exact ⟨⟨box_set_other h.g.k3 (by omega) _ _, frz_set h.g.f3 _ _, box_set_other h.g.k6 (by omega) _ _, frz_set h.g.f6 _ _, h.g.own.set h.nb _ _, by simpa using h.g.hi, h.g.bw.setCell (by simp only; omega) _⟩, he ▸ box_set h.k15 i _, frz_set h.f15 _ _, h1, by simpa using h2, h.nb⟩
theorem QInv.putFar (h : QInv w W B a1 a2 n1 n2 c1 c2 z a o t) {G : Nat} (h1 : w.heap.size + 2 ≤ G) (h2 : G ≠ B) (h3 : (Value.slice a1 n1 c1).ownBlock ≠ some G ∧ (Value.slice a2 n2 c2).ownBlock ≠ some G) (i : Nat) (u : Value) : QInv w (W.setCell ⟨G, i, none⟩ u) B a1 a2 n1 n2 c1 c2 z a o t :=
  ⟨⟨box_set_other h.g.k3 (by omega) _ _, frz_set h.g.f3 _ _, box_set_other h.g.k6 (by omega) _ _, frz_set h.g.f6 _ _, h.g.own.set h3 _ _, by simpa using h.g.hi, h.g.bw.setCell (by simp only; omega) _⟩, box_set_other h.k15 (Ne.symm h2) _ _, frz_set h.f15 _ _, h.lo, by simpa using h.hB, h.nb⟩
/-- the list of free blocks is another; the zone's box does not know yet -/
structure QMid (w W : World) (B : Nat) (a1 a2 : Option Addr) (n1 n2 c1 c2 : Nat) (z : Zn) (a o t : Nat) (a1' : Option Addr) (n1' c1' : Nat) (l' : List Bk) : Prop where
  k3 : ∀ i, W.cell? ⟨w.heap.size, i, none⟩ = (#[.int .i64 z.f, .int .i64 z.e, .slice a1 n1 c1, .slice a2 n2 c2] : Array Value)[i]?
  f3 : ∀ i, W.frozen? ⟨w.heap.size, i, none⟩ = false
  k6 : ∀ i, W.cell? ⟨w.heap.size + 1, i, none⟩ = (#[.int .i64 0, .int .i64 0, .slice none 0 0, .slice none 0 0] : Array Value)[i]?
  f6 : ∀ i, W.frozen? ⟨w.heap.size + 1, i, none⟩ = false
  own : ZOwn W (w.heap.size + 2) a1' a2 n1' n2 c1' c2 { z with l := l' }
  hi : w.heap.size + 2 ≤ W.heap.size
  bw : Below w.heap.size w W
  k15 : ∀ i, W.cell? ⟨B, i, none⟩ = (#[.int .i64 a, .int .i64 o, .int .i64 t] : Array Value)[i]?
  f15 : ∀ i, W.frozen? ⟨B, i, none⟩ = false
  lo : w.heap.size + 2 ≤ B
  hB : B < W.heap.size
  nb : (Value.slice a1' n1' c1').ownBlock ≠ some B ∧ (Value.slice a2 n2 c2).ownBlock ≠ some B
theorem QInv.grown (h : QInv w W B a1 a2 n1 n2 c1 c2 z a o t) (hg : W.grownBy W' (Value.ownBlock (.slice a1 n1 c1))) {a1' : Option Addr} {n1' c1' : Nat} {l' : List Bk} (hl : l'.length = n1') (ho : W'.ownsRow (w.heap.size + 2) 95 3 (.slice a1' n1' c1') n1' (flat encBk l')) (hn : a1' = a1 ∨ (0 < l'.length ∧ ∀ b ∈ l', b.a ≠ a)) : QMid w W' B a1 a2 n1 n2 c1 c2 z a o t a1' n1' c1' l' := by
  have h1 := h.lo
  have h2 := h.hB
  have h3 := h.g.hi
  have m3 := (h.g.own.ne (g := w.heap.size) (.inl (by omega))).1
  have m6 := (h.g.own.ne (g := w.heap.size + 1) (.inl (by omega))).1
  have k15' : ∀ i, W'.cell? ⟨B, i, none⟩ = (#[.int .i64 a, .int .i64 o, .int .i64 t] : Array Value)[i]? := box_grown h.k15 h2 hg (fun e => h.nb.1 e.symm)
  refine ⟨box_grown h.g.k3 (by omega) hg (fun e => m3 e.symm), frz_grown h.g.f3 (by omega) hg (fun e => m3 e.symm), box_grown h.g.k6 (by omega) hg (fun e => m6 e.symm), frz_grown h.g.f6 (by omega) hg (fun e => m6 e.symm), ⟨hl, h.g.own.l2, ho, own_grown h.g.own.o2 hg (fun k hk e => own_diff h.g.own.o2 h.g.own.o1 (by decide) k hk e)⟩, Nat.le_trans h3 hg.size, ?_, k15', frz_grown h.f15 h2 hg (fun e => h.nb.1 e.symm), h1, Nat.lt_of_lt_of_le h2 hg.size, ?_, h.nb.2⟩
  · exact h.g.bw.grown hg h.g.bw.size (fun k hk => by have := (h.g.own.o1.lt k hk).1; omega)
  · rcases hn with rfl | ⟨hn1, hn2⟩
    · have := h.nb.1
      cases a1' with
      | none => simp [Value.ownBlock]
      | some x => simpa [Value.ownBlock] using this
    · exact row_not_box k15' ho hn1 (fun b hb e => hn2 b hb (by simp only [Value.int.injEq] at e; omega))
theorem QMid.put3 {a1' : Option Addr} {n1' c1' : Nat} {l' : List Bk} (h : QMid w W B a1 a2 n1 n2 c1 c2 z a o t a1' n1' c1' l') : QInv w (W.setCell ⟨w.heap.size, 2, none⟩ (.slice a1' n1' c1')) B a1' a2 n1' n2 c1' c2 { z with l := l' } a o t := by
  have h1 := h.lo
  have h2 := h.hB
  have h3 := h.hi
  exact ⟨⟨box_set h.k3 2 _, frz_set h.f3 _ _, box_set_other h.k6 (by omega) _ _, frz_set h.f6 _ _, h.own.set (h.own.ne (.inl (by omega))) _ _, by simpa using h3, h.bw.setCell (Nat.le_refl _) _⟩, box_set_other h.k15 (by omega) _ _, frz_set h.f15 _ _, h1, by simpa using h2, h.nb⟩
end
end Go.Proofs.YtkcaheebaicinaaGreatDoor
