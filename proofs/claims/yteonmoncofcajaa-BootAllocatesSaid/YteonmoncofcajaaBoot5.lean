/- Contracts of package boot: change, Add, Remove, Reserve, Free. -/
import Derived.Test.YteonmoncofcajaaBoot4
import Derived.Deep.RegionHeld3
import Derived.Deep.DeepCutAuto
namespace Go.Proofs.Yteonmoncofcajaa
open Go.RowKit
set_option linter.unusedVariables false

structure Bt where
  m : List Rg
  r : List Rg
def Bt.ok (b : Bt) : Bool := listOk b.m && listOk b.r
/-- a Boot in memory -/
structure BtAt (w : World) (a1 a2 : Option Addr) (n1 n2 : Nat) (b : Bt) : Prop where
  l1 : b.m.length = n1
  l2 : b.r.length = n2
  r1 : Row w a1 (flat encRg b.m)
  r2 : Row w a2 (flat encRg b.r)
theorem BtAt.below {w w' : World} {a1 a2 : Option Addr} {n1 n2 : Nat} {b : Bt} (h : BtAt w a1 a2 n1 n2 b) (hb : Below w.heap.size w w') : BtAt w' a1 a2 n1 n2 b := ⟨h.l1, h.l2, h.r1.below hb, h.r2.below hb⟩

/-- a Boot with two fresh lists -/
structure BtOwn (w : World) (base : Nat) (a1 a2 : Option Addr) (n1 n2 c1 c2 : Nat) (b : Bt) : Prop where
  l1 : b.m.length = n1
  l2 : b.r.length = n2
  o1 : w.ownsRow base 51 2 (.slice a1 n1 c1) n1 (flat encRg b.m)
  o2 : w.ownsRow base 51 2 (.slice a2 n2 c2) n2 (flat encRg b.r)
theorem BtOwn.at {w : World} {base : Nat} {a1 a2 : Option Addr} {n1 n2 c1 c2 : Nat} {b : Bt} (h : BtOwn w base a1 a2 n1 n2 c1 c2 b) : BtAt w a1 a2 n1 n2 b := ⟨h.l1, h.l2, own_row h.o1, own_row h.o2⟩
theorem BtOwn.below {w w' : World} {base : Nat} {a1 a2 : Option Addr} {n1 n2 c1 c2 : Nat} {b : Bt} (h : BtOwn w base a1 a2 n1 n2 c1 c2 b) (hb : Below w.heap.size w w') : BtOwn w' base a1 a2 n1 n2 c1 c2 b := ⟨h.l1, h.l2, own_below h.o1 hb (Nat.le_refl _), own_below h.o2 hb (Nat.le_refl _)⟩
theorem BtOwn.base {w : World} {base base' : Nat} {a1 a2 : Option Addr} {n1 n2 c1 c2 : Nat} {b : Bt} (h : BtOwn w base a1 a2 n1 n2 c1 c2 b) (hb : base' ≤ base) : BtOwn w base' a1 a2 n1 n2 c1 c2 b := ⟨h.l1, h.l2, own_base h.o1 hb, own_base h.o2 hb⟩
theorem BtOwn.set {w : World} {base : Nat} {a1 a2 : Option Addr} {n1 n2 c1 c2 : Nat} {b : Bt} (h : BtOwn w base a1 a2 n1 n2 c1 c2 b) {g : Nat} (hg : (Value.slice a1 n1 c1).ownBlock ≠ some g ∧ (Value.slice a2 n2 c2).ownBlock ≠ some g) (i : Nat) (u : Value) : BtOwn (w.setCell ⟨g, i, none⟩ u) base a1 a2 n1 n2 c1 c2 b := ⟨h.l1, h.l2, own_set h.o1 hg.1 u, own_set h.o2 hg.2 u⟩
theorem BtOwn.ne {w : World} {base : Nat} {a1 a2 : Option Addr} {n1 n2 c1 c2 : Nat} {b : Bt} (h : BtOwn w base a1 a2 n1 n2 c1 c2 b) {g : Nat} (hg : g < base ∨ w.heap.size ≤ g) : (Value.slice a1 n1 c1).ownBlock ≠ some g ∧ (Value.slice a2 n2 c2).ownBlock ≠ some g := ⟨own_ne h.o1 hg, own_ne h.o2 hg⟩

def Bt.change (b : Bt) (f s : Nat) (res v : Bool) : Bt := if res then ⟨b.m, regionsOf (upd (inRg b.r) f (f + s) v)⟩ else ⟨regionsOf (upd (inRg b.m) f (f + s) v), b.r⟩

set_option maxHeartbeats 2000000 in
/-- change, where all goes well -/
theorem change_ok (a1 a2 : Option Addr) (n1 n2 c1 c2 : Nat) (b : Bt) (f s : Nat) (res v : Bool) (w : World) (hat : BtAt w a1 a2 n1 n2 b) (h1 : listOk b.m = true) (h2 : listOk b.r = true) (hs1 : 1 ≤ s) (hfs : f + s ≤ 256) (hlen1 : (b.change f s res v).m.length ≤ 40) (hlen2 : (b.change f s res v).r.length ≤ 40) :
    Calls Try.prog 43 #[.agg #[.slice a1 n1 c1, .slice a2 n2 c2], .agg #[.int .i64 f, .int .i64 s], .bool res, .bool v] w fun e w' => ∃ a1' n1' c1' a2' n2' c2', e = .returned (.tuple #[.agg #[.slice a1' n1' c1', .slice a2' n2' c2'], .int .i64 0]) ∧ BtOwn w' w.heap.size a1' a2' n1' n2' c1' c2' (b.change f s res v) ∧ Below w.heap.size w w' := by
  have hb1 := listOk_len h1
  have hb2 := listOk_len h2
  obtain ⟨K0, K1, K2, F0, F1, F2, hsz, hbw⟩ := boxes3 w #[.slice a1 n1 c1, .slice a2 n2 c2] 42 #[.int .i64 (f : Int), .int .i64 (s : Int)] 51 #[.slice none 0 0, .slice none 0 0] 42
  obtain ⟨l1, l2, q1, q2⟩ := hat.below hbw
  have hsm1 := listOk_small h1
  have hsm2 := listOk_small h2
  have hck : ckRg ⟨(f : Int), (s : Int)⟩ = true := decide_eq_true (by simp only; omega)
  clear hat
  go_enter Try.func43, Try.ntmps43
  go_wp2_with fail
  generalize ((w.alloc (.cells #[.slice a1 n1 c1, .slice a2 n2 c2] 42)).alloc (.cells #[.int .i64 (f : Int), .int .i64 (s : Int)] 51)).alloc (.cells #[.slice none 0 0, .slice none 0 0] 42) = w0 at *
  refine (bootCheck_ok _ _ _ _ _ _ b.m b.r _ l1 l2 (by omega) (by omega) q1 q2 hsm1 hsm2 h1 h2).mono ?_
  rintro e w1 ⟨rfl, hb1⟩
  have K1a := box_step K1 (by omega) hb1
  go_wp2_with fail
  refine (checkRegion_ok ⟨(f : Int), (s : Int)⟩ _ hck).mono ?_
  rintro e w2 ⟨rfl, hb2⟩
  have hb02 := Below.step hb1 hb2
  have K0b := box_step K0 (by omega) hb02
  have K1b := box_step K1 (by omega) hb02
  have K2b := box_step K2 (by omega) hb02
  have F2b := frz_step F2 (by omega) hb02
  have q1b := q1.below hb02
  have q2b := q2.below hb02
  have hbw2 := Below.step hbw hb02
  have hsz2 : w.heap.size + 2 < w2.heap.size := Nat.lt_of_lt_of_le hsz hb02.size
  clear K0 K1 K2 K1a F0 F1 F2 q1 q2 hck hsm1 hsm2 hb1 hb2 hb02
  have LK0 : ∀ W, Below w2.heap.size w2 W → ∀ o, W.cell? ⟨w.heap.size, o, none⟩ = (#[.slice a1 n1 c1, .slice a2 n2 c2] : Array Value)[o]? := fun W h o => box_step K0b (by omega) h o
  go_upto_region 7 with fail
  go_cut [12] (fun s12 wx => ∃ (g : Nat) (am ar : Option Addr) (cm cr : Nat), s12 = .pointer (some ⟨g, 0, none⟩) ∧ (∀ o, wx.cell? ⟨g, o, none⟩ = (#[.slice am n1 cm, .slice ar n2 cr] : Array Value)[o]?) ∧ (∀ o, wx.frozen? ⟨g, o, none⟩ = false) ∧ wx.ownsRow w2.heap.size 51 2 (.slice am n1 cm) n1 (flat encRg b.m) ∧ (Value.slice am n1 cm).ownBlock ≠ some g ∧ wx.ownsRow w2.heap.size 51 2 (.slice ar n2 cr) n2 (flat encRg b.r) ∧ (Value.slice ar n2 cr).ownBlock ≠ some g ∧ w2.heap.size ≤ g ∧ g < wx.heap.size ∧ Below w2.heap.size w2 wx)
  case first =>
    go_region_held3 (fun W => Below w2.heap.size w2 W) ((repeat (first | assumption | exact Below.refl _ _ | apply Below.drew | refine Below.step ?_ (by assumption) | refine Below.step ?_ (below_alloc _ _) | refine Below.setCell ?_ ?_ _ | (simp only; omega)))) (first | (go_at_call_of 46 (Value.slice a1 n1 c1); refine (cloneRg _ _ _ b.m _ l1 (by omega) (q1b.below (by assumption))).mono ?_; rintro e wm ⟨am, cm, rfl, hom, hbm⟩; (try (have KA : ∀ o, wm.cell? ⟨w2.heap.size, o, none⟩ = (#[.slice none 0 0, .slice none 0 0] : Array Value)[o]? := box_call (w := w2.drew) (vs := #[.slice none 0 0, .slice none 0 0]) (t := 42) hbm; have FA : ∀ o, wm.frozen? ⟨w2.heap.size, o, none⟩ = false := frz_call (w := w2.drew) (vs := #[.slice none 0 0, .slice none 0 0]) (t := 42) hbm; have SA : w2.heap.size < wm.heap.size := box_size (w := w2.drew) (vs := #[.slice none 0 0, .slice none 0 0]) (t := 42) hbm)); (try have SM : w2.heap.size ≤ wm.heap.size := hbm.size)) | (go_at_call_of 46 (Value.slice a2 n2 c2); refine (cloneRg _ _ _ b.r _ l2 (by omega) (q2b.below (by assumption))).mono ?_; rintro e wr ⟨ar, cr, rfl, hor, hbr⟩; (try first | (have KB := box_step KA SA hbr; have FB := frz_step FA SA hbr) | (have KB := box_call (w := wm) (vs := #[.slice none 0 0, .slice none 0 0]) (t := 42) hbr; have FB := frz_call (w := wm) (vs := #[.slice none 0 0, .slice none 0 0]) (t := 42) hbr))))
    all_goals (go_wp2_with fail; go_meet)
    · exact ⟨wr.heap.size, am, ar, cm, cr, rfl, box_new _ _ _, box_frz _ _ _, own_base (own_below (own_below hom hbr (Nat.le_refl _)) (below_alloc _ _) (Nat.le_refl _)) (Nat.le_refl _), own_ne hom (.inr hbr.size), own_base (own_below hor (below_alloc _ _) (Nat.le_refl _)) (by have := hbr.size; have := hbm.size; simp at this; omega), own_ne hor (.inr (Nat.le_refl _)), by have := hbr.size; omega, by simp, by assumption⟩
    · have hsr := hbr.size
      simp at hsr
      have om := own_below (own_below hom (below_alloc wm _) (Nat.le_refl _)) hbr (Nat.le_refl _)
      have nm := own_ne hom (b := wm.heap.size) (.inr (Nat.le_refl _))
      have nr := own_ne hor (b := wm.heap.size) (.inl (by simp))
      exact ⟨wm.heap.size, am, ar, cm, cr, rfl, box_set (box_set KB 0 _) 1 _, frz_set (frz_set FB _ _) _ _, own_base (own_set (own_set om nm _) nm _) (by simp), nm, own_base (own_set (own_set hor nr _) nr _) (by have := hbm.size; simp at this ⊢; omega), nr, SM, by simp; omega, by assumption⟩
    · have hsr := hbr.size
      have om := own_below hom hbr (Nat.le_refl _)
      have nm := own_ne hom (b := w2.heap.size) (.inl (by simp))
      have nr := own_ne hor (b := w2.heap.size) (.inl (by omega))
      exact ⟨w2.heap.size, am, ar, cm, cr, rfl, box_set (box_set KB 0 _) 1 _, frz_set (frz_set FB _ _) _ _, own_base (own_set (own_set om nm _) nm _) (by simp), nm, own_base (own_set (own_set hor nr _) nr _) (by have := hbm.size; simp at this ⊢; omega), nr, Nat.le_refl _, by simp; omega, by assumption⟩
  case rest =>
    obtain ⟨g, am, ar, cm, cr, rfl, KG, FG, om, nm, orr, nr, hg1, hg2, hbx⟩ := hcut
    have hbw3 := Below.step hbw2 hbx
    have K1c := box_step K1b (by omega) hbx
    have K2c := box_step K2b (by omega) hbx
    have F2c := frz_step F2b (by omega) hbx
    clear LK0 K0b K1b K2b F2b q1b q2b
    cases res with
    | true =>
      have hlen : (regionsOf (upd (inRg b.r) f (f + s) v)).length ≤ 40 := hlen2
      clear hlen1 hlen2
      have hok2 := listOk_all h2
      go_wp2_with fail
      go_region_with (go_at_call 47; refine (joined_any _ _ _ b.r f s v _ l2 (by omega) ((own_row orr).below ((Below.refl _ _).drew)) hok2 hs1 hfs).mono ?_; rintro e wj ⟨aj, cj, rfl, hoj, hbj⟩; have KGj := box_step (w1 := wc.drew) (fun o => KG o) hg2 hbj; have FGj := frz_step (w1 := wc.drew) (fun o => FG o) hg2 hbj)
      all_goals
        have K2j := box_step (w1 := wc.drew) (fun o => K2c o) (by show _ < wc.heap.size; omega) hbj
        have F2j := frz_step (w1 := wc.drew) (fun o => F2c o) (by show _ < wc.heap.size; omega) hbj
        have hne : w.heap.size + 1 + 1 ≠ g := by omega
        have hne2 : g ≠ w.heap.size + 1 + 1 := by omega
        have nj := own_ne hoj (b := g) (.inl hg2)
        have nj2 := own_ne hoj (b := w.heap.size + 1 + 1) (.inl (by show _ < wc.heap.size; omega))
        have OJ := Hid.mk hoj
        clear hoj K1c K2c F2c KG FG
        have OM := own_below (B := wc.heap.size) (own_below om ((Below.refl _ _).drew) (Nat.le_refl _)) hbj (Nat.le_refl _)
        have nm2 := own_ne om (b := w.heap.size + 1 + 1) (.inl (by omega))
        have hszj : w.heap.size + 1 + 1 < wj.heap.size := Nat.lt_of_lt_of_le (show _ < wc.heap.size by omega) hbj.size
        go_wp2
        refine bodyPost_ret (v := .tuple #[.agg #[.slice am n1 cm, .slice aj (regionsOf (upd (inRg b.r) f (f + s) v)).length cj], .int .i64 0]) (by simp [results, Try.results43, go_sem, K2j]) rfl ⟨am, _, cm, aj, _, cj, rfl, ⟨l1, rfl, own_base (own_set (own_set (own_set OM nm _) nm2 _) nm2 _) (by omega), own_base (own_set (own_set (own_set OJ.out nj _) nj2 _) nj2 _) (show _ ≤ wc.heap.size by omega)⟩, ?_⟩
        exact Below.setCell (Below.setCell (Below.setCell (Below.step hbw3.drew hbj) (by simp only; omega) _) (by simp only; omega) _) (by simp only; omega) _
    | false =>
      have hlen : (regionsOf (upd (inRg b.m) f (f + s) v)).length ≤ 40 := hlen1
      clear hlen1 hlen2
      have hok2 := listOk_all h1
      go_wp2_with fail
      go_region_with (go_at_call 47; refine (joined_any _ _ _ b.m f s v _ l1 (by omega) ((own_row om).below ((Below.refl _ _).drew)) hok2 hs1 hfs).mono ?_; rintro e wj ⟨aj, cj, rfl, hoj, hbj⟩; have KGj := box_step (w1 := wc.drew) (fun o => KG o) hg2 hbj; have FGj := frz_step (w1 := wc.drew) (fun o => FG o) hg2 hbj)
      all_goals
        have K2j := box_step (w1 := wc.drew) (fun o => K2c o) (by show _ < wc.heap.size; omega) hbj
        have F2j := frz_step (w1 := wc.drew) (fun o => F2c o) (by show _ < wc.heap.size; omega) hbj
        have hne : w.heap.size + 1 + 1 ≠ g := by omega
        have hne2 : g ≠ w.heap.size + 1 + 1 := by omega
        have nj := own_ne hoj (b := g) (.inl hg2)
        have nj2 := own_ne hoj (b := w.heap.size + 1 + 1) (.inl (by show _ < wc.heap.size; omega))
        have OJ := Hid.mk hoj
        clear hoj K1c K2c F2c KG FG
        have OM := own_below (B := wc.heap.size) (own_below orr ((Below.refl _ _).drew) (Nat.le_refl _)) hbj (Nat.le_refl _)
        have nm2 := own_ne orr (b := w.heap.size + 1 + 1) (.inl (by omega))
        have hszj : w.heap.size + 1 + 1 < wj.heap.size := Nat.lt_of_lt_of_le (show _ < wc.heap.size by omega) hbj.size
        go_wp2
        refine bodyPost_ret (v := .tuple #[.agg #[.slice aj (regionsOf (upd (inRg b.m) f (f + s) v)).length cj, .slice ar n2 cr], .int .i64 0]) (by simp [results, Try.results43, go_sem, K2j]) rfl ⟨aj, _, cj, ar, _, cr, rfl, ⟨rfl, l2, own_base (own_set (own_set (own_set OJ.out nj _) nj2 _) nj2 _) (show _ ≤ wc.heap.size by omega), own_base (own_set (own_set (own_set OM nr _) nm2 _) nm2 _) (by omega)⟩, ?_⟩
        exact Below.setCell (Below.setCell (Below.setCell (Below.step hbw3.drew hbj) (by simp only; omega) _) (by simp only; omega) _) (by simp only; omega) _
end Go.Proofs.Yteonmoncofcajaa
