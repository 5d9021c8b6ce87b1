/- The walk of paddockkeep.ZoneApart. -/
import Derived.Test.YtbkajbjhffdlfaaDoorBlk21
import Derived.Test.YtbkajbjhffdlfaaDoorBlk26
namespace Go.Proofs.YtbkajbjhffdlfaaDoor
open Go.RowKit
set_option linter.unusedVariables false

/-- pages of a block below q -/
def upTo (b : Bk) (q p : Nat) : Nat := if b.a ≤ p ∧ p < q then 1 else 0

theorem upTo_nil (b : Bk) (p : Nat) : upTo b b.a p = 0 := by unfold upTo; rw [if_neg (by omega)]

theorem fin_wrap (x : Bk) (ho : x.o ≤ 4) (ha : x.a ≤ 1000) : wrap64 ((x.a : Int) + 2 ^ x.o) = ((x.fin : Nat) : Int) := by
  have hpw := pow_bk ho
  have e : ((2 : Int) ^ x.o) = ((2 ^ x.o : Nat) : Int) := by push_cast; rfl
  unfold Bk.fin
  rw [e, IntWalk.wrap64_in _ (by omega)]
  omega
theorem fin_wrap2 (x : Bk) (ho : x.o ≤ 4) (ha : x.a ≤ 1000) : wrap64 ((x.a : Int) + wrap64 (2 ^ min x.o 64)) = ((x.fin : Nat) : Int) := by
  have h := fin_wrap x ho ha
  rw [show min x.o 64 = x.o by omega, shl_bk ho]
  have e : ((2 : Int) ^ x.o) = ((2 ^ x.o : Nat) : Int) := by push_cast; rfl
  rw [← e]
  exact h
/-- the counts when one more page is counted -/
theorem count_next (f : Nat → Nat) (x : Bk) (q : Nat) (h1 : x.a ≤ q) (hq : q < 256) : (arrI fun p => f p + upTo x q p).setIfInBounds q (.int .i64 ((f q : Int) + 1)) = arrI fun p => f p + upTo x (q + 1) p := by
  refine arrI_set _ _ q hq _ ?_ fun p hp hne => ?_
  · unfold upTo
    rw [if_pos (by omega)]
    omega
  · unfold upTo
    by_cases h : x.a ≤ p ∧ p < q
    · rw [if_pos h, if_pos (by omega)]
    · rw [if_neg h, if_neg (by omega)]
theorem upTo_at (x : Bk) (q : Nat) : upTo x q q = 0 := by unfold upTo; rw [if_neg (by omega)]

/-- the state of ZoneApart behind its list: the counts lie at the block B, all else is as it was in w5 -/
structure AS (w w5 W : World) (B : Nat) (f : Nat → Nat) : Prop where
  k : ∀ o, W.cell? ⟨B, o, none⟩ = (arrI f)[o]?
  fz : ∀ o, W.frozen? ⟨B, o, none⟩ = false
  keep : ∀ b o, b < w5.heap.size → b ≠ B → W.cell? ⟨b, o, none⟩ = w5.cell? ⟨b, o, none⟩
  hB : B < W.heap.size
  sz : w5.heap.size ≤ W.heap.size
  bw : Below w.heap.size w W
theorem AS.below {w w5 W W' : World} {B : Nat} {f : Nat → Nat} (h : AS w w5 W B f) (hb : Below W.heap.size W W') : AS w w5 W' B f :=
  ⟨box_step h.k h.hB hb, frz_step h.fz h.hB hb, fun b o h1 h2 => (hb.cell (p := ⟨b, o, none⟩) (Nat.lt_of_lt_of_le h1 h.sz)).trans (h.keep b o h1 h2), Nat.lt_of_lt_of_le h.hB hb.size, Nat.le_trans h.sz hb.size, Below.step h.bw hb⟩
theorem AS.mark {w w5 W : World} {B : Nat} {f g : Nat → Nat} (h : AS w w5 W B f) (hw : w.heap.size ≤ B) (q : Nat) (v : Int) (he : (arrI f).setIfInBounds q (.int .i64 v) = arrI g) : AS w w5 (W.setCell ⟨B, q, none⟩ (.int .i64 v)) B g :=
  ⟨he ▸ box_set h.k q _, frz_set h.fz _ _, fun b o h1 h2 => by
    have hx : (⟨B, q, none⟩ : Addr) ≠ ⟨b, o, none⟩ := fun e => h2 (by simpa using (congrArg Addr.block e).symm)
    exact (World.cell?_setCell_other _ _ _ _ hx).trans (h.keep b o h1 h2), by simpa using h.hB, by simpa using h.sz, h.bw.setCell hw _⟩
theorem AS.congr {w w5 W : World} {B : Nat} {f g : Nat → Nat} (h : AS w w5 W B f) (hfg : ∀ p, p < 256 → f p = g p) : AS w w5 W B g := by
  exact ⟨by rw [← arrI_congr hfg]; exact h.k, h.fz, h.keep, h.hB, h.sz, h.bw⟩

set_option maxHeartbeats 8000000 in
set_option maxRecDepth 100000 in
theorem zoneApart_walk (a : Option Addr) (n c : Nat) (l : List Rw) (hl : l.length = n) {w : World} (hr : Row w a (flat encRw l)) (hnc : n ≤ c) (hcm : c ≤ maxLen) (hwf : ∀ r ∈ l, r.wf) (hoth : Oth w) :
    Calls Tryd.prog 4 #[.slice a n c] w fun ev w' => ev = .returned (.bool true) ∧ Below w.heap.size w w' := by
  have hz := zero_arrI
  go_enter Tryd.func4, Tryd.ntmps4
  go_wp2_with fail
  refine (zoned_ok a n c l 60 _ hl hnc hcm hr hwf (by omega) hoth).mono ?_
  rintro ev w1 ⟨z, away, hd⟩
  obtain ⟨a1, a2, n1, n2, c1, c2, aw, na, ca, rfl, hown, hoa⟩ := hd.ex
  have hzok := hd.inv.ok
  have hlen : z.l.length ≤ 256 := Nat.le_trans (OkL.length_le hzok.2 (fun b hb => (hzok.2.fit b hb).1.2.2.1)) hzok.1.e2
  have hl1 := hown.l1
  have hla := own_flat_len encBk_length (by decide) hoa
  have hna60 := hd.len
  have HFA := Hid.mk hd.inv.fits
  have hdis : (z.l ++ away).Pairwise fun b c => apartB b.a b.o c := by
    rw [List.pairwise_append]
    exact ⟨hzok.2.sep.imp (fun {x y} h => by unfold apartB Bk.fin at *; omega), hd.inv.each, fun x hx b hb => apart_symm (hd.inv.apart b hb x hx)⟩
  have HC : Hid (∀ p, (18 ≤ p ∧ p < 108 → cntL (z.l ++ away) p = 1) ∧ (¬ (18 ≤ p ∧ p < 108) → cntL (z.l ++ away) p = 0)) := fun p => by
    have h1 := cntL_cov hdis p
    have h2 := hd.inv.cov p
    have h3 : covL (z.l ++ away) p ↔ (covL z.l p ∨ covL away p) := by
      unfold covL
      constructor
      · rintro ⟨b, hb, hp⟩
        rw [List.mem_append] at hb
        rcases hb with hb | hb
        · exact .inl ⟨b, hb, hp⟩
        · exact .inr ⟨b, hb, hp⟩
      · rintro (⟨b, hb, hp⟩ | ⟨b, hb, hp⟩)
        · exact ⟨b, by simp [hb], hp⟩
        · exact ⟨b, by simp [hb], hp⟩
    exact ⟨fun h => h1.1 (h3.2 (h2.2 h)), fun h => h1.2 (fun h' => h (h2.1 (h3.1 h')))⟩
  have HFIT : Hid (∀ b ∈ z.l ++ away, fitsB z.f z.e b.a b.o) := fun b hb => by
    rw [List.mem_append] at hb
    rcases hb with hb | hb
    · exact (hzok.2.fit b hb).1
    · exact hd.inv.fits b hb
  have hze2 := hzok.1.e2
  have hze16 := hzok.1.e16
  have hb2 := below_alloc w1 (.cells #[.int .i64 (z.f : Int), .int .i64 (z.e : Int), .slice a1 n1 c1, .slice a2 n2 c2] 26)
  have hb3 := below_alloc (w1.alloc (.cells #[.int .i64 (z.f : Int), .int .i64 (z.e : Int), .slice a1 n1 c1, .slice a2 n2 c2] 26)) (.cells (arrI fun _ => 0) 33)
  have K6 := box_new (w1.alloc (.cells #[.int .i64 (z.f : Int), .int .i64 (z.e : Int), .slice a1 n1 c1, .slice a2 n2 c2] 26)) (arrI fun _ => 0) 33
  have F6 := box_frz (w1.alloc (.cells #[.int .i64 (z.f : Int), .int .i64 (z.e : Int), .slice a1 n1 c1, .slice a2 n2 c2] 26)) (arrI fun _ => 0) 33
  have K3 := box_step (box_new w1 #[.int .i64 (z.f : Int), .int .i64 (z.e : Int), .slice a1 n1 c1, .slice a2 n2 c2] 26) (by simp) hb3
  have hs6 : w1.heap.size + 1 < ((w1.alloc (.cells #[.int .i64 (z.f : Int), .int .i64 (z.e : Int), .slice a1 n1 c1, .slice a2 n2 c2] 26)).alloc (.cells (arrI fun _ => 0) 33)).heap.size := by simp
  have hb23 := Below.step hb2 hb3
  have hat3 := hown.at.below hb23
  have HRA := Hid.mk ((own_row hoa).below hb23)
  have HBW := Hid.mk (Below.step hd.bw hb23)
  rw [show (w1.alloc (.cells #[.int .i64 (z.f : Int), .int .i64 (z.e : Int), .slice a1 n1 c1, .slice a2 n2 c2] 26)).heap.size = w1.heap.size + 1 by simp] at K6 F6
  have hAW : ∀ b off, aw = some ⟨b, off, none⟩ → b ≠ w1.heap.size + 1 := fun b off e he => by
    have h1 := own_ne hoa (b := w1.heap.size + 1) (.inr (by omega))
    rw [e] at h1
    exact h1 (by simp [Value.ownBlock, he])
  have hww := hd.bw.size
  clear hd hown hoa hb2 hb3 hb23 hoth hr hdis
  dsimp only
  generalize hA0 : arrI (fun _ => 0) = A0 at *
  go_wp2_with fail
  generalize (w1.alloc (.cells #[.int .i64 (z.f : Int), .int .i64 (z.e : Int), .slice a1 n1 c1, .slice a2 n2 c2] 26)).alloc (.cells A0 33) = w3 at *
  generalize w1.heap.size = B at *
  refine (cloneBk _ _ _ z.l _ hl1 (by omega) hat3.r1).mono ?_
  rintro ev w4 ⟨am, cm, rfl, hom, hbm⟩
  have HBM := Hid.mk hbm
  have HR4 := Hid.mk (HRA.out.below hbm)
  have HO4 := Hid.mk hom
  have hsz34 := hbm.size
  have hflen : (flat encBk away).length = na * 3 := by rw [flat_length encBk_length, hla]
  clear K3 hom hat3 hbm
  dsimp only
  go_wp2_with (at_builtin; refine wpList_app rfl _ _ 23 rfl w3.heap.size 36 (.agg #[.int .i64 0, .int .i64 0, .int .i64 0]) 3 24 Tryd.underlying23 info_bk rfl (by decide) (by decide) am n1 cm _ rfl HO4.out aw na ca (flat encBk away) rfl hflen HR4.out (encBk_one _) (by omega) (by omega) ?_)
  intro a5 c5 w5 hown5 hg5
  rw [← flat_append] at hown5
  have HL : Hid ((z.l ++ away).length = n1 + na) := by unfold Hid; rw [List.length_append]; omega
  have hN : n1 + na ≤ 400 := by omega
  generalize hLe : z.l ++ away = L at *
  have hb35 := below_grown HBM.out HO4.out hg5 (Nat.le_refl _) hsz34
  have hA5 : ∀ b off, a5 = some ⟨b, off, none⟩ → b ≠ B + 1 := fun b off e he => by
    have h1 := own_ne hown5 (b := B + 1) (.inl (by omega))
    rw [e] at h1
    exact h1 (by simp [Value.ownBlock, he])
  have HRL := Hid.mk (own_row hown5)
  have HRW := Hid.mk (HRA.out.below hb35)
  have HI : Hid (AS w w5 w5 (B + 1) (cntL (L.take 0))) := ⟨fun o => by rw [← arrI_congr (f := fun _ => 0) (fun p _ => by simp [cntL]), hA0]; exact box_step K6 hs6 hb35 o, frz_step F6 hs6 hb35, fun _ _ _ _ => rfl, Nat.lt_of_lt_of_le hs6 hb35.size, Nat.le_refl _, HBW.out.trans (hb35.mono (by have := HBW.out.size; exact this))⟩
  have hs5 := hb35.size
  have hwB : w.heap.size ≤ B + 1 := by omega
  clear hown5 hb35 hg5 HO4 HR4 HBM HRA HBW K6 F6 hs6 hA0
  go_wp2
  go_loopw [9, 26] (fun _ s26 wr => ∃ i : Nat, i ≤ n1 + na ∧ s26 = .int .i64 (i : Int) ∧ Hid (AS w w5 wr (B + 1) (cntL (L.take i)))) (fun _ s26 _ => n1 + na - (intOf s26).toNat)
  case atStart => exact ⟨0, Nat.zero_le _, rfl, HI⟩
  case round =>
    obtain ⟨i, hi, rfl, HK⟩ := hrel
    clear HI
    have hLl := HL.out
    by_cases hlt : i < n1 + na
    · have hlt2 : i < L.length := by omega
      obtain ⟨bb, off, ha1, hbb, hc⟩ := row_elem encBk_length (by decide) HRL.out hlt2
      obtain rfl := ha1
      have hne := hA5 bb off rfl
      obtain ⟨hc0, hc1, hc2⟩ := encBk_cells hc
      have d0 := (HK.out.keep bb _ hbb hne).trans hc0
      have d1 := (HK.out.keep bb _ hbb hne).trans hc1
      have d2 := (HK.out.keep bb _ hbb hne).trans hc2
      have hfx := HFIT.out _ (List.getElem_mem hlt2)
      have hct := Hid.mk (cntL_take L i hlt2)
      have hcl : ∀ p, cntL (L.take i) p ≤ 400 := fun p => by have := cntL_le (L.take i) p; rw [List.length_take] at this; omega
      have HCL := Hid.mk hcl
      clear hc hc0 hc1 hc2 hne hcl
      generalize L[i] = x at *
      have hfin := fits_end hze16 hfx
      have hxa : x.a ≤ 1000 := by have := hfx.2.2.1; omega
      have hfin2 : x.fin ≤ 256 := Nat.le_trans hfin hze2
      have hlti : (i : Int) < (n1 : Int) + na := by omega
      have hbn := below_alloc wr (.cells #[.int .i64 (x.a : Int), .int .i64 (x.o : Int), .int .i64 (x.t : Int)] 36)
      have HK1 := Hid.mk (HK.out.below hbn)
      have HK8a := Hid.mk (box_new wr #[.int .i64 (x.a : Int), .int .i64 (x.o : Int), .int .i64 (x.t : Int)] 36)
      have hE : wr.heap.size < (wr.alloc (.cells #[.int .i64 (x.a : Int), .int .i64 (x.o : Int), .int .i64 (x.t : Int)] 36)).heap.size := by simp
      have hEne : wr.heap.size ≠ B + 1 := by have := HK.out.hB; omega
      have HE := Hid.mk hE
      have HENE := Hid.mk hEne
      clear hE hEne hLl hlt2 hbn
      have hsh := shl_bk hfx.1
      have hpw := pow_bk hfx.1
      go_wp2
      clear d0 d1 d2 HK
      have HK2 : Hid (AS w w5 (wr.alloc (.cells #[.int .i64 (x.a : Int), .int .i64 (x.o : Int), .int .i64 (x.t : Int)] 36)) (B + 1) (fun p => cntL (L.take i) p + upTo x x.a p)) := AS.congr (f := cntL (L.take i)) HK1.out (fun p _ => by simp only [upTo_nil, Nat.add_zero])
      clear HK1
      generalize wr.alloc (.cells #[.int .i64 (x.a : Int), .int .i64 (x.o : Int), .int .i64 (x.t : Int)] 36) = wb at *
      generalize wr.heap.size = E at *
      go_loopw [9] (fun s9 wr2 => ∃ q : Nat, x.a ≤ q ∧ q ≤ x.fin ∧ s9 = .int .i64 (q : Int) ∧ Hid (AS w w5 wr2 (B + 1) (fun p => cntL (L.take i) p + upTo x q p)) ∧ Hid (∀ o, wr2.cell? ⟨E, o, none⟩ = (#[.int .i64 (x.a : Int), .int .i64 (x.o : Int), .int .i64 (x.t : Int)] : Array Value)[o]?) ∧ E < wr2.heap.size) (fun s9 _ => x.fin - (intOf s9).toNat)
      case atStart => exact ⟨x.a, Nat.le_refl _, Nat.le_add_right _ _, rfl, HK2, HK8a, HE.out⟩
      case round =>
        obtain ⟨q, hq1, hq2, rfl, HK3, HK8, hE3⟩ := hrel
        clear HK2 HK8a HE
        have k80 := HK8.out 0
        have k81 := HK8.out 1
        simp only [List.getElem?_toArray, List.getElem?_cons_zero, List.getElem?_cons_succ] at k80 k81
        have hsum : IntKind.i64.wrap ((x.a : Int) + 2 ^ x.o) = ((x.fin : Nat) : Int) := (IntWalk.i64_left _).trans (fin_wrap x hfx.1 hxa)
        have hfw := Hid.mk (fin_wrap2 x hfx.1 hxa)
        go_wp2_with fail
        go_quiet (fail)
        rw [hfw.out]
        have HK4 := Hid.mk (HK3.out.below (below_drewN (Below.refl wr.heap.size wr) nq))
        have HK84 := Hid.mk (box_step HK8.out hE3 (below_drewN (Below.refl wr.heap.size wr) nq))
        have hE4 : E < (wr.drewN nq).heap.size := Nat.lt_of_lt_of_le hE3 (below_drewN (Below.refl wr.heap.size wr) nq).size
        clear HK3 HK8 hE3 k80 k81 hsum
        generalize wr.drewN nq = wq at *
        by_cases hqf : q < x.fin
        · have dq : decide ((q : Int) < x.fin) = true := decide_eq_true (by omega)
          have dq2 : decide (q < x.fin) = true := decide_eq_true hqf
          have hq256 : (q : Int) < 256 := by have := hqf; have := hfin2; omega
          have hq256' : q < 256 := Nat.lt_of_lt_of_le hqf hfin2
          have hcell := (HK4.out.k q).trans (arrI_get _ q hq256')
          rw [upTo_at, Nat.add_zero] at hcell
          have hcv := HCL.out q
          have hfz := HK4.out.fz q
          have HK5 : Hid (AS w w5 (wq.setCell ⟨B + 1, q, none⟩ (.int .i64 ((cntL (L.take i) q : Int) + 1))) (B + 1) (fun p => cntL (L.take i) p + upTo x (q + 1) p)) := HK4.out.mark hwB q _ (count_next _ x q hq1 hq256')
          have HK85 := Hid.mk (box_set_other HK84.out (c := B + 1) HENE.out q (.int .i64 ((cntL (L.take i) q : Int) + 1)))
          have hE5 : E < (wq.setCell ⟨B + 1, q, none⟩ (.int .i64 ((cntL (L.take i) q : Int) + 1))).heap.size := by simpa using hE4
          generalize cntL (L.take i) q = cv at *
          clear HK4 HK84 hE4
          go_wp2
          go_roundw
          case rel => exact ⟨q + 1, by omega, hqf, by go_num, HK5, HK85, hE5⟩
          case measure => simp [intOf]; omega
        · have hqe : q = x.fin := Nat.le_antisymm hq2 (Nat.le_of_not_lt hqf)
          have dq : decide ((q : Int) < x.fin) = false := decide_eq_false (by omega)
          have dq2 : decide (q < x.fin) = false := decide_eq_false hqf
          have HK5 : Hid (AS w w5 wq (B + 1) (cntL (L.take (i + 1)))) := AS.congr HK4.out (fun p _ => by rw [hct.out p, hqe]; rfl)
          clear HK4 HK84 hE4 hqe
          go_wp2
          go_roundw
          case rel => exact ⟨i + 1, by omega, by go_num, HK5⟩
          case measure => simp [intOf]; omega
    · have hie : i = n1 + na := by omega
      have HK1 : Hid (AS w w5 wr (B + 1) (cntL L)) := by
        have h := HK.out
        rw [List.take_of_length_le (by omega)] at h
        exact h
      have dlt : decide ((i : Int) < (n1 : Int) + na) = false := decide_eq_false (by omega)
      clear HK hie hlt
      have hld := load_box (P := Tryd.prog) HK1.out.k
      rw [arrI_size] at hld
      have hidx : ∀ p : Nat, p < 256 → ∀ W, Sem.run Tryd.prog (Instr.index 33 (.agg (arrI (cntL L))) (.int .i64 p)) W = .ok (.int .i64 (cntL L p : Int)) W := fun p hp W => idx_arrI _ p hp W
      have HIX := Hid.mk hidx
      have hA1 := size_arrI'
      have hA2 := isAgg_arrI
      clear hidx
      generalize arrI (cntL L) = A at *
      generalize 256 = N at hA1 hld
      go_wp2
      clear hld hA1 hA2
      generalize wr = w6 at *
      go_loopw [11, 49] (fun _ s49 wr => ∃ p : Nat, p ≤ 256 ∧ s49 = .int .i64 (p : Int) ∧ Hid (Below w6.heap.size w6 wr)) (fun _ s49 _ => 256 - (intOf s49).toNat)
      case atStart => exact ⟨0, by omega, rfl, Below.refl _ _⟩
      case round =>
        obtain ⟨p, hp, rfl, hbr⟩ := hrel
        by_cases hp256 : p < 256
        · have hix := HIX.out p hp256 wr
          have hp2 : (p : Int) < 256 := by omega
          by_cases hin : 18 ≤ p ∧ p < 108
          · rw [(HC.out p).1 hin] at hix
            have q1 : (18 : Int) ≤ p := by omega
            have q2 : (p : Int) < 108 := by omega
            go_wp2
            go_roundw
            case rel => exact ⟨p + 1, by omega, by go_num, hbr⟩
            case measure => simp [intOf]; omega
          · rw [(HC.out p).2 hin] at hix
            by_cases hp18 : 18 ≤ p
            · have q1 : (18 : Int) ≤ p := by omega
              have q2 : ¬ (p : Int) < 108 := by omega
              have q3 : decide ((p : Int) < 108) = false := decide_eq_false q2
              go_wp2
              go_roundw
              case rel => exact ⟨p + 1, by omega, by go_num, hbr⟩
              case measure => simp [intOf]; omega
            · have q1 : ¬ (18 : Int) ≤ p := by omega
              have q3 : decide ((18 : Int) ≤ p) = false := decide_eq_false q1
              go_wp2
              go_roundw
              case rel => exact ⟨p + 1, by omega, by go_num, hbr⟩
              case measure => simp [intOf]; omega
        · obtain rfl : p = 256 := by omega
          have HB6 := Hid.mk (Below.step HK1.out.bw hbr.out)
          have HKE := Hid.mk (fun b o h1 h2 => (hbr.out.cell (p := ⟨b, o, none⟩) (Nat.lt_of_lt_of_le h1 HK1.out.sz)).trans (HK1.out.keep b o h1 h2))
          have hsz56 := Nat.le_trans HK1.out.sz hbr.out.size
          go_wp2
          generalize wr = w7 at *
          go_loopw [13, 69] (fun _ s69 wr => ∃ j : Nat, j ≤ na ∧ s69 = .int .i64 (j : Int) ∧ Hid (Below w7.heap.size w7 wr)) (fun _ s69 _ => na - (intOf s69).toNat)
          case atStart => exact ⟨0, by omega, rfl, Below.refl _ _⟩
          case round =>
            obtain ⟨j, hj, rfl, hbj⟩ := hrel
            by_cases hjn : j < na
            · have hj2 : j < away.length := by omega
              obtain ⟨bb, off, ha1, hbb, hc⟩ := row_elem encBk_length (by decide) HRW.out hj2
              obtain rfl := ha1
              have hne := hAW bb off rfl
              obtain ⟨hc0, hc1, hc2⟩ := encBk_cells hc
              have hb7 : bb < w7.heap.size := Nat.lt_of_lt_of_le hbb hsz56
              have d0 := (hbj.out.cell (p := ⟨bb, off + j * 3, none⟩) hb7).trans ((HKE.out bb _ hbb hne).trans hc0)
              have d1 := (hbj.out.cell (p := ⟨bb, off + j * 3 + 1, none⟩) hb7).trans ((HKE.out bb _ hbb hne).trans hc1)
              have d2 := (hbj.out.cell (p := ⟨bb, off + j * 3 + 2, none⟩) hb7).trans ((HKE.out bb _ hbb hne).trans hc2)
              have hfx := HFA.out _ (List.getElem_mem hj2)
              clear hc hc0 hc1 hc2 hne
              generalize away[j] = x at *
              have hjn2 : (j : Int) < na := by omega
              have hbn := below_alloc wr (.cells #[.int .i64 (x.a : Int), .int .i64 (x.o : Int), .int .i64 (x.t : Int)] 36)
              have HBN := Hid.mk (Below.step hbj.out hbn)
              have HK8 := Hid.mk (box_new wr #[.int .i64 (x.a : Int), .int .i64 (x.o : Int), .int .i64 (x.t : Int)] 36)
              clear hbn
              go_wp2_with fail
              clear d0 d1 d2
              have k80 := HK8.out 0
              have k81 := HK8.out 1
              simp only [List.getElem?_toArray, List.getElem?_cons_zero, List.getElem?_cons_succ] at k80 k81
              clear HK8
              generalize wr.alloc (.cells #[.int .i64 (x.a : Int), .int .i64 (x.o : Int), .int .i64 (x.t : Int)] 36) = wb at *
              generalize wr.heap.size = E at *
              obtain ⟨h1, h2, h3, h4⟩ := hfx
              obtain ⟨xa, xo, xt⟩ := x
              simp only at h1 h4 k80 k81
              obtain rfl | rfl | rfl | rfl | rfl : xo = 0 ∨ xo = 1 ∨ xo = 2 ∨ xo = 3 ∨ xo = 4 := by omega
              · have dm : (xa : Int) % 1 = 0 := by omega
                clear h1 h4 h2 h3
                go_quiet (fail)
                have HBQ := Hid.mk (below_drewN HBN.out nq)
                go_wp2
                go_roundw
                case rel => exact ⟨j + 1, by omega, by go_num, HBQ⟩
                case measure => simp [intOf]; omega

              · have dm : (xa : Int) % 2 = 0 := by simp only [Nat.reducePow] at h4; omega
                clear h1 h4 h2 h3
                go_quiet (fail)
                have HBQ := Hid.mk (below_drewN HBN.out nq)
                go_wp2
                go_roundw
                case rel => exact ⟨j + 1, by omega, by go_num, HBQ⟩
                case measure => simp [intOf]; omega

              · have dm : (xa : Int) % 4 = 0 := by simp only [Nat.reducePow] at h4; omega
                clear h1 h4 h2 h3
                go_quiet (fail)
                have HBQ := Hid.mk (below_drewN HBN.out nq)
                go_wp2
                go_roundw
                case rel => exact ⟨j + 1, by omega, by go_num, HBQ⟩
                case measure => simp [intOf]; omega

              · have dm : (xa : Int) % 8 = 0 := by simp only [Nat.reducePow] at h4; omega
                clear h1 h4 h2 h3
                go_quiet (fail)
                have HBQ := Hid.mk (below_drewN HBN.out nq)
                go_wp2
                go_roundw
                case rel => exact ⟨j + 1, by omega, by go_num, HBQ⟩
                case measure => simp [intOf]; omega

              · have dm : (xa : Int) % 16 = 0 := by simp only [Nat.reducePow] at h4; omega
                clear h1 h4 h2 h3
                go_quiet (fail)
                have HBQ := Hid.mk (below_drewN HBN.out nq)
                go_wp2
                go_roundw
                case rel => exact ⟨j + 1, by omega, by go_num, HBQ⟩
                case measure => simp [intOf]; omega

            · obtain rfl : j = na := by omega
              go_wp2
              go_ret
              exact ⟨rfl, Below.step HB6.out hbj.out⟩
end Go.Proofs.YtbkajbjhffdlfaaDoor
