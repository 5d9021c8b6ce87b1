/- texts of this claim, joined. -/
import Derived.Test.YtcmpmobhongkiaaGreatDoorCM0
import Derived.Test.YtcmpmobhongkiaaGreatDoorCM20
import Derived.Test.YtcmpmobhongkiaaGreatDoorCM36
import Derived.Test.YtcmpmobhongkiaaGreatDoorCM43
import Derived.Test.YtcmpmobhongkiaaGreatDoorCM44
import Derived.Test.YtcmpmobhongkiaaGreatDoorCM45
set_option linter.unusedVariables false
set_option linter.unusedSimpArgs false
namespace Go.Proofs.YtcmpmobhongkiaaGreatDoor
section
open Go.RowKit

theorem RI (y : Cc) (x : Sl) (B gc o : Nat) (W : World) (hx : x.n ≤ 1000) (hr : y.c.r ≤ 1000) (hB : B < W.heap.size) (hb : W.cell? ⟨B, 0, none⟩ = some (.pointer (some ⟨gc, o, none⟩))) (hg : gc < W.heap.size) (hc : W.cell? ⟨gc, o + 2, none⟩ = some (.int .i64 (y.c.r : Int))) :
  Calls Tryz.prog 77 (#[.agg (aX x).toArray] ++ #[.pointer (some ⟨B, 0, none⟩)]) W fun ev w' => ev = .returned (.bool (decide (x.n < y.c.r))) ∧ Below W.heap.size W w' := by
 have hne : B ≠ W.heap.size := by omega
 have hne2 : gc ≠ W.heap.size := by omega
 have HB := gO (aB W (.cells #[.int .i64 (x.p : Int), .int .i64 (x.n : Int), .int .i64 x.h] 137))
 show Calls Tryz.prog 77 #[.agg #[.int .i64 x.p, .int .i64 x.n, .int .i64 x.h], .pointer (some ⟨B, 0, none⟩)] W _
 by_cases h : x.n < y.c.r
 ·have hi : (x.n : Int) < y.c.r := by omega
  go_enter Tryz.func77, Tryz.ntmps77
  go_wp2_with fail
  go_quiet (fail)
  go_wp2
  go_ret
  exact ⟨aW (by rw [decide_eq_true h]), below_drewN HB.out _⟩
 ·have hi : ¬ (x.n : Int) < y.c.r := by omega
  go_enter Tryz.func77, Tryz.ntmps77
  go_wp2_with fail
  go_quiet (fail)
  go_wp2
  go_ret
  exact ⟨aW (by rw [decide_eq_false h]), below_drewN HB.out _⟩

def RJ (r : Option Sy) (w : World) (ev : Ending) (w' : World) : Prop := (r = none ∧ ev = .returned (.tuple #[.agg #[.slice none 0 0, .slice none 0 0, .slice none 0 0, .int .i64 0, .slice none 0 0, .slice none 0 0, .slice none 0 0], .int .i64 7]) ∧ Below w.heap.size w w') ∨ (∃ s' v', r = some s' ∧ ev = .returned (.tuple #[.agg (v'.vals s'), .int .i64 0]) ∧ kH w' w.heap.size s' v' ∧ Below w.heap.size w w')
set_option maxHeartbeats 8000000 in
set_option maxRecDepth 100000 in
theorem yI (v : Sc) (s : Sy) (n : List UInt8) (i : Nat) (w : World) (hs : rP w v s) (hk : fC s) (hf : ∀ c ∈ s.cs, c.ns.length ≤ 1000) (hi : s.named n = some i) :
  Calls Tryz.prog 34 #[.agg #[.slice v.a1 v.n1 v.c1, .slice v.hc.az 2 v.hc.cz, .slice v.hc.am 2 v.hc.cm, .int .i64 (s.h.aF : Int), .slice v.hc.al v.hc.lc.length v.hc.cl, .slice v.hc.av s.h.live.length v.hc.cv, .slice v.a2 v.ys.length v.c2], .string ⟨n.toArray⟩] w (RJ (s.destroy i n) w) := by
 obtain ⟨rD, hrD⟩ : ∃ rD, s.destroy i n = rD := ⟨_, rfl⟩
 rw [hrD]
 have HrD := gO hrD
 clear hrD
 obtain ⟨K1, K2, F1, F2, hsz, hbw⟩ := boxes2 w #[.slice v.a1 v.n1 v.c1, .slice v.hc.az 2 v.hc.cz, .slice v.hc.am 2 v.hc.cm, .int .i64 (s.h.aF : Int), .slice v.hc.al v.hc.lc.length v.hc.cl, .slice v.hc.av s.h.live.length v.hc.cv, .slice v.a2 v.ys.length v.c2] 47 #[.slice none 0 0, .slice none 0 0, .slice none 0 0, .int .i64 0, .slice none 0 0, .slice none 0 0, .slice none 0 0] 47
 have hil : i < s.cs.length := by
  unfold Sy.named at hi
  rw [List.findIdx?_eq_some_iff_getElem] at hi
  exact hi.1
 have hci : s.cs[i]? = some s.cs[i] := gJ hil
 have hcm := gM hci
 have hck := hk.ck _ hcm
 have hnm := hf _ hcm
 have hs1 := hs.below hbw
 have RH : 0 < s.h.aF := hk.hk.cp.1
 have HA := gO (Eh v s n 0 i _ hs1 hk hf hi RH)
 obtain ⟨k0, k1, k2, k3, k4, k5, k6⟩ := gA7 K1
 have HK := gO hk
 have qL := gO hck
 have HB1 := gO hbw
 have HK1 := gO K1
 have HF1 := gO F1
 have HK2 := gO K2
 have HF2 := gO F2
 have hmem : n ∈ s.cs[i].ns := by
  unfold Sy.named at hi
  rw [List.findIdx?_eq_some_iff_getElem] at hi
  obtain ⟨h0, h1, _⟩ := hi
  exact List.contains_iff_mem.1 h1
 obtain ⟨c, hc⟩ : ∃ c, s.cs[i] = c := ⟨_, rfl⟩
 rw [hc] at hci hnm qL hmem
 have aA7 := gO hmem
 have EU := gO hci
 have aD9 := hk.cl
 have aEa := qL.out.kT hk.hk
 clear hs hk hf hi hs1 K1 K2 F1 F2 hbw hci hck hcm hc hmem
 go_enter Tryz.func34, Tryz.ntmps34
 go_upto_region 1 with fail
 generalize (w.alloc (.cells #[.slice v.a1 v.n1 v.c1, .slice v.hc.az 2 v.hc.cz, .slice v.hc.am 2 v.hc.cm, .int .i64 (s.h.aF : Int), .slice v.hc.al v.hc.lc.length v.hc.cl, .slice v.hc.av s.h.live.length v.hc.cv, .slice v.a2 v.ys.length v.c2] 47)).alloc (.cells #[.slice none 0 0, .slice none 0 0, .slice none 0 0, .int .i64 0, .slice none 0 0, .slice none 0 0, .slice none 0 0] 47) = w1 at *
 have hsz1 : w.heap.size < w1.heap.size := by omega
 go_upto_region 4 with (go_at_call 71; refine HA.out.mono ?_; rintro ev w2 ⟨v1, he, hnew, hb2⟩; unfold Ud Sc.vals at he; subst he; have K12 := aC HK1.out hsz1 hb2; have F12 := aJ HF1.out hsz1 hb2; obtain ⟨y0, y1, y2, y3, y4, y5, y6⟩ := gA7 K12; obtain ⟨f0, f1, f2, f3, f4, f5, f6⟩ := gF7 F12; skip)
 have qU := laid7 (T := w.heap.size + 1) HB1.out (Nat.lt_succ_self _) hsz HK1.out HF1.out HK2.out HF2.out hb2 hnew
 have HS3 := gO qU.1
 have HT3 := gO qU.2.1
 have HU3 := gO qU.2.2.1
 have HB3 := gO qU.2.2.2
 have ht2 : w.heap.size + 1 < w2.heap.size := gI hsz hb2.size
 have ht3 : w.heap.size + 1 < (((((((w2.setCell ⟨w.heap.size, 0, none⟩ (.slice v1.a1 v1.n1 v1.c1)).setCell ⟨w.heap.size, 1, none⟩ (.slice v1.hc.az 2 v1.hc.cz)).setCell ⟨w.heap.size, 2, none⟩ (.slice v1.hc.am 2 v1.hc.cm)).setCell ⟨w.heap.size, 3, none⟩ (.int .i64 (s.h.aF : Int))).setCell ⟨w.heap.size, 4, none⟩ (.slice v1.hc.al v1.hc.lc.length v1.hc.cl)).setCell ⟨w.heap.size, 5, none⟩ (.slice v1.hc.av s.h.live.length v1.hc.cv)).setCell ⟨w.heap.size, 6, none⟩ (.slice v1.a2 v1.ys.length v1.c2)).heap.size := by simpa using ht2
 clear K12 F12 y0 y1 y2 y3 y4 y5 y6 f0 f1 f2 f3 f4 f5 f6 qU hnew HA k0 k1 k2 k3 k4 k5 k6 HK1 HF1 HK2 HF2 hb2 ht2 HB1
 generalize ((((((w2.setCell ⟨w.heap.size, 0, none⟩ (.slice v1.a1 v1.n1 v1.c1)).setCell ⟨w.heap.size, 1, none⟩ (.slice v1.hc.az 2 v1.hc.cz)).setCell ⟨w.heap.size, 2, none⟩ (.slice v1.hc.am 2 v1.hc.cm)).setCell ⟨w.heap.size, 3, none⟩ (.int .i64 (s.h.aF : Int))).setCell ⟨w.heap.size, 4, none⟩ (.slice v1.hc.al v1.hc.lc.length v1.hc.cl)).setCell ⟨w.heap.size, 5, none⟩ (.slice v1.hc.av s.h.live.length v1.hc.cv)).setCell ⟨w.heap.size, 6, none⟩ (.slice v1.a2 v1.ys.length v1.c2) = w3 at *
 clear hsz hsz1
 obtain ⟨g0, g1, g2, g3, g4, g5, g6⟩ := gA7 HS3.out.k
 have hi1 : i < v1.ys.length := by
  have h := congrArg List.length HS3.out.r.cy
  simp only [List.length_map] at h
  omega
 have hvl : v1.ys.length ≤ 20 := by
  have h := congrArg List.length HS3.out.r.cy
  simp only [List.length_map] at h
  omega
 have Vt : v1.ys[i].c = c := by
  have h1 := congrArg (·[i]?) HS3.out.r.cy
  simp only [List.getElem?_map, gJ hi1, Option.map_some] at h1
  rw [EU.out] at h1
  exact gP h1
 obtain ⟨gc, ha2, kU, Ej, Jv, hcc⟩ := HS3.out.r.KH hi1
 have hcy := HS3.out.r.at.ca _ (gL hi1)
 obtain ⟨y, hy⟩ : ∃ y, v1.ys[i] = y := ⟨_, rfl⟩
 have HY := gO hy
 rw [hy] at hcc Vt hcy
 subst Vt
 rw [ha2] at g6
 have hl1 := hcy.l1
 have hl2 := hcy.l2
 have hii : (i : Int) < v1.ys.length := by omega
 have bb := aB w3 (.cells #[.pointer (some ⟨gc, i * 6, none⟩)] 129)
 have KP := bC w3 #[.pointer (some ⟨gc, i * 6, none⟩)] 129
 have t0 := KP 0
 simp only [gB, gC] at t0
 have hB4 : w3.heap.size < (w3.alloc (.cells #[.pointer (some ⟨gc, i * 6, none⟩)] 129)).heap.size := by simp
 have HS4 := gO (HS3.out.below bb)
 have HT4 := gO (aC HT3.out ht3 bb)
 have HU4 := gO (aJ HU3.out ht3 bb)
 have HB4 := gO (Below.step HB3.out bb)
 have ht4 := gI ht3 bb.size
 have AP := gO (hcy.below bb)
 have HBB := gO bb
 have RN : ∀ j, j < 6 → (w3.alloc (.cells #[.pointer (some ⟨gc, i * 6, none⟩)] 129)).cell? ⟨gc, i * 6 + j, none⟩ = (bV y)[j]? ∧ (w3.alloc (.cells #[.pointer (some ⟨gc, i * 6, none⟩)] 129)).frozen? ⟨gc, i * 6 + j, none⟩ = false := fun j hj => ⟨(bb.cell (p := ⟨gc, i * 6 + j, none⟩) kU).trans (hcc j hj).1, (bb.frozen (p := ⟨gc, i * 6 + j, none⟩) kU).trans (hcc j hj).2⟩
 have Ib := gI kU bb.size
 have b0 := (RN 0 (by decide)).1
 have b2 := (RN 2 (by decide)).1
 have b4 := (RN 4 (by decide)).1
 simp only [bV, vI, gC, gD, Nat.add_zero] at b0 b2 b4
 have p0 := (RN 0 (by decide)).2
 simp only [Nat.add_zero] at p0
 have SI := gO hi1
 have HA2 := gO ha2
 have HL1 := gO hl1
 have HL2 := gO hl2
 have XK : (mQ y).on w3 0 := by rw [← hy]; exact (HS3.out.r.y (gL hi1)).1
 have HNR := gO (own_below XK bb (Nat.le_refl _))
 have aEb : Hid (some w3.heap.size ≠ (mQ y).v.ownBlock) := fun e => (own_ne XK (.inr (Nat.le_refl _))) e.symm
 have Um : Hid ((mQ y).v.ownBlock ≠ some gc) := HS3.out.r.Vu hi1 hy ha2
 clear hcc RN hcy hy ha2 hl1 hl2 bb KP XK HS3 HT3 HU3 HB3 g0 g1 g2 g3 g4 g5 hil
 go_upto_region 5 with fail
 clear g6
 generalize w3.alloc (.cells #[.pointer (some ⟨gc, i * 6, none⟩)] 129) = w4 at *
 generalize w3.heap.size = BP at *
 by_cases hone : 1 < y.n1
 ·have hni : (1 : Int) < y.n1 := by omega
  have hKn : uH y.c.ns n < y.n1 := by
   obtain ⟨j, hj, e⟩ := List.mem_iff_getElem.1 aA7.out
   have h1 := Lr (v := n) qL.out.nr hj
   have h2 := HL1.out
   rw [e, Jp] at h1
   have h3 : ¬ j < uH y.c.ns n := fun h => by have := h1.1 h; cases this
   omega
  have QV := gO (LD y.a1 y.n1 y.c1 y.c.ns n w4 HL1.out (by have := HL1.out; omega) AP.out.r1 qL.out.nr)
  obtain ⟨sF, Ic⟩ : ∃ sF, s.dU i { y.c with ns := y.c.ns.eraseIdx (uH y.c.ns n) } = sF := ⟨_, rfl⟩
  have hDD : rD = some sF := by
   rw [← HrD.out, ← Ic]
   unfold Sy.destroy
   rw [EU.out]
   simp only
   rw [if_pos (by have := HL1.out; omega)]
  have XL := gO hDD
  have TJ := gO Ic
  have aEc : y.n1 ≤ 1000 := by have := HL1.out; omega
  generalize hK : uH y.c.ns n = K at *
  have HKK := gO hK
  clear hK Ic hDD b2 b4
  go_upto_region 7 with (go_at_call 68; refine QV.out.mono ?_; rintro ev w5 ⟨bq, rfl, rfl⟩)
  rw [HKK.out]
  go_cut [9] (fun s9 wx => ∃ v', Hid (SS wx w.heap.size (fun k => k < w.heap.size ∨ k = w.heap.size + 1) sF v') ∧ Hid (Safe (fun k => k < w.heap.size ∨ k = w.heap.size + 1) w4 wx))
  case first =>
   have hd := (Below.refl w4.heap.size w4).drew
   have HS5 := gO (HS4.out.below hd)
   have HNR5 := gO (own_below HNR.out hd (Nat.le_refl _))
   have Tj := gI Ib hd.size
   have aEd := gI hB4 hd.size
   have X0 := gO ((hd.cell (p := ⟨gc, i * 6, none⟩) Ib).trans b0)
   have Y0 := gO ((hd.frozen (p := ⟨gc, i * 6, none⟩) Ib).trans p0)
   have Z0 := gO ((hd.cell (p := ⟨BP, 0, none⟩) hB4).trans t0)
   have HD5 := gO hd
   clear hd
   have s1 : IntKind.i64.wrap ((K : Int) + 1) = (K : Int) + 1 := IntWalk.i64_in _ (by omega)
   go_region_with (go_at_call 75; refine (PU 0 y.a1 y.n1 y.c1 y.c.ns K _ HNR5.out hKn aEc (Nat.zero_le _)).mono ?_; rintro ev w6 ⟨rfl, hown6, hg6⟩; have q4 := (World.cell?_of_block (w := w4.drew) (a := ⟨gc, i * 6, none⟩) (hg6.block gc Tj (fun e => Um.out e.symm))).trans X0.out; have p4 := (World.frozen?_of_block (w := w4.drew) (a := ⟨gc, i * 6, none⟩) (hg6.block gc Tj (fun e => Um.out e.symm))).trans Y0.out; have z4 := (World.cell?_of_block (w := w4.drew) (a := ⟨BP, 0, none⟩) (hg6.block BP aEd aEb.out)).trans Z0.out)
   all_goals
    obtain ⟨v', t1, t2, t3⟩ := HS5.out.QU SI.out HY.out hown6 hg6 (fun k' h9 => .inl (by cases h8 : y.a1 with | none => rw [h8] at h9; cases h9 | some z => unfold mQ; rw [h8] at h9 ⊢; exact h9)) HA2.out
    rw [TJ.out] at t1
    have HT1 := gO t1
    have HT2 := gO ((Safe.fP HD5.out).trans t2)
    clear t1 t2 t3 hown6 hg6
    go_wp2_with fail
    go_meet
    exact ⟨v', HT1, HT2⟩
  case rest =>
   obtain ⟨v', jK, HSF2⟩ := hcut
   have iT := gO (HSF2.out.box HT4.out ht4 (.inr rfl))
   have yG := gO (HSF2.out.Pg HU4.out ht4 (.inr rfl))
   have yH : Hid (Below w.heap.size w wc) := Safe.after HB4.out HSF2.out (fun k hk => .inl hk) HB4.out.size
   obtain ⟨wd, rfl⟩ : ∃ wd, wd = wc := ⟨_, rfl⟩
   clear b0 p0 t0 HT4 HU4 HB4 HS4 HSF2 QV AP
   have z0 := jK.out.k 0
   have z1 := jK.out.k 1
   have z2 := jK.out.k 2
   have z3 := jK.out.k 3
   have z4 := jK.out.k 4
   have z5 := jK.out.k 5
   have z6 := jK.out.k 6
   unfold Sc.vals at z0 z1 z2 z3 z4 z5 z6
   have q0 := iT.out 0
   have q1 := iT.out 1
   have q2 := iT.out 2
   have q3 := iT.out 3
   have q4 := iT.out 4
   have q5 := iT.out 5
   have q6 := iT.out 6
   obtain ⟨f0, f1, f2, f3, f4, f5, f6⟩ := gF7 yG.out
   simp only [gB, gC, gD] at z0 z1 z2 z3 z4 z5 z6 q0 q1 q2 q3 q4 q5 q6
   have fZ := out7 jK.out (T := w.heap.size + 1) (.inr rfl) (fun k hk => .inl hk) (Nat.lt_succ_self _) iT.out yH.out
   have KX := fZ.1
   have qJ := gO fZ.2.1
   have lI := gO fZ.2.2
   clear fZ jK iT yG yH
   go_wp2_with fail
   generalize ((((((wd.setCell ⟨w.heap.size + 1, 0, none⟩ (.slice v'.a1 v'.n1 v'.c1)).setCell ⟨w.heap.size + 1, 1, none⟩ (.slice v'.hc.az 2 v'.hc.cz)).setCell ⟨w.heap.size + 1, 2, none⟩ (.slice v'.hc.am 2 v'.hc.cm)).setCell ⟨w.heap.size + 1, 3, none⟩ (.int .i64 (sF.h.aF : Int))).setCell ⟨w.heap.size + 1, 4, none⟩ (.slice v'.hc.al v'.hc.lc.length v'.hc.cl)).setCell ⟨w.heap.size + 1, 5, none⟩ (.slice v'.hc.av sF.h.live.length v'.hc.cv)).setCell ⟨w.heap.size + 1, 6, none⟩ (.slice v'.a2 v'.ys.length v'.c2) = wx at *
   exact bodyPost_ret (v := .tuple #[.agg #[.slice v'.a1 v'.n1 v'.c1, .slice v'.hc.az 2 v'.hc.cz, .slice v'.hc.am 2 v'.hc.cm, .int .i64 (sF.h.aF : Int), .slice v'.hc.al v'.hc.lc.length v'.hc.cl, .slice v'.hc.av sF.h.live.length v'.hc.cv, .slice v'.a2 v'.ys.length v'.c2], .int .i64 0]) (by simp [results, Tryz.results34, go_sem, KX]) rfl (.inr ⟨sF, v', XL.out, rfl, qJ.out, lI.out⟩)

 ·have hni : ¬ (1 : Int) < y.n1 := by omega
  have hn1' : y.n1 = 1 := by
   have h1 := HL1.out
   have h2 := List.length_pos_of_mem aA7.out
   omega
  have ebz : ∀ args w, (callFunc 77 args).run Tryz.prog w = .ok (.enter 77 args) w := enters_of Tryz.func77 (by kernel_rfl) rfl
  have QE := qL.out.r64
  have hcf := yY y.a2 y.n2 y.c2 y.c.sl 77 #[.pointer (some ⟨BP, 0, none⟩)] (fun x => decide (x.n < y.c.r)) w4 HL2.out (by have := HL2.out; omega) AP.out.r2 ebz (fun W hW x hx => RI y x BP gc (i * 6) W (gQ (qL.out.sk x hx).Jm (by omega)) (by omega) (gI hB4 hW.size) ((hW.cell (p := ⟨BP, 0, none⟩) hB4).trans t0) (gI Ib hW.size) ((hW.cell (p := ⟨gc, i * 6 + 2, none⟩) Ib).trans b2))
  have TK := gO hcf
  clear ebz hcf
  cases hany : y.c.sl.any (fun x => decide (x.n < y.c.r)) with
  | true =>
   have hDD : rD = none := by
    rw [← HrD.out]
    unfold Sy.destroy
    rw [EU.out]
    simp only
    rw [if_neg (by have := HL1.out; omega), if_pos hany]
   have XL := gO hDD
   rw [hany] at TK
   clear hDD hany
   go_upto_region 10 with (go_at_call 76; refine TK.out.mono ?_; rintro ev w5 ⟨rfl, hb5⟩)
   have iT := gO (aC HT4.out ht4 hb5)
   have yG := gO (aJ HU4.out ht4 hb5)
   have yH := gO (Below.step HB4.out hb5)
   clear b0 b2 b4 p0 t0 HT4 HU4 HB4 HS4 hb5 TK AP
   obtain ⟨q0, q1, q2, q3, q4, q5, q6⟩ := gA7 iT.out
   obtain ⟨f0, f1, f2, f3, f4, f5, f6⟩ := gF7 yG.out
   have qV := nil7 iT.out yH.out (show w.heap.size ≤ w.heap.size + 1 by omega)
   have KX := qV.1
   have lI := gO qV.2
   clear qV iT yG yH
   go_wp2_with fail
   generalize ((((((w5.setCell ⟨w.heap.size + 1, 0, none⟩ (.slice none 0 0)).setCell ⟨w.heap.size + 1, 1, none⟩ (.slice none 0 0)).setCell ⟨w.heap.size + 1, 2, none⟩ (.slice none 0 0)).setCell ⟨w.heap.size + 1, 3, none⟩ (.int .i64 0)).setCell ⟨w.heap.size + 1, 4, none⟩ (.slice none 0 0)).setCell ⟨w.heap.size + 1, 5, none⟩ (.slice none 0 0)).setCell ⟨w.heap.size + 1, 6, none⟩ (.slice none 0 0) = wx at *
   exact bodyPost_ret (v := .tuple #[.agg #[.slice none 0 0, .slice none 0 0, .slice none 0 0, .int .i64 0, .slice none 0 0, .slice none 0 0, .slice none 0 0], .int .i64 7]) (by simp [results, Tryz.results34, go_sem, KX]) rfl (.inl ⟨XL.out, rfl, lI.out⟩)

  | false =>
   have hDD : rD = some { s.shrink i with cs := (s.shrink i).cs.eraseIdx i } := by
    rw [← HrD.out]
    unfold Sy.destroy
    rw [EU.out]
    simp only
    rw [if_neg (by have := HL1.out; omega), if_neg (by rw [hany]; decide)]
   have XL := gO hDD
   rw [hany] at TK
   clear hDD hany
   go_upto_region 11 with (go_at_call 76; refine TK.out.mono ?_; rintro ev w5 ⟨rfl, hb5⟩)
   have HS5 := gO (HS4.out.below hb5)
   have HT5 := gO (aC HT4.out ht4 hb5)
   have HU5 := gO (aJ HU4.out ht4 hb5)
   have HB5 := gO (Below.step HB4.out hb5)
   have ht5 := gI ht4 hb5.size
   clear b0 b2 b4 p0 t0 HT4 HU4 HB4 HS4 hb5 TK AP
   have HC := gO (JV v1 s w.heap.size i (fun k => k < w.heap.size ∨ k = w.heap.size + 1) w5 HS5.out HK.out SI.out)
   have aA9 := gO (HK.out.shrink (List.getElem?_eq_some_iff.1 EU.out).1)
   obtain ⟨sS, hsS⟩ : ∃ sS, s.shrink i = sS := ⟨_, rfl⟩
   rw [hsS] at HC XL aA9
   clear hsS
   go_upto_region 12 with (go_at_call 78; refine HC.out.mono ?_; rintro ev w6 ⟨rfl, v2, hs6, hf6, hv6⟩)
   have HT6 := gO (hf6.box HT5.out ht5 (.inr rfl))
   have HU6 := gO (hf6.Pg HU5.out ht5 (.inr rfl))
   have HB6 : Hid (Below w.heap.size w w6) := Safe.after HB5.out hf6 (fun k hk => .inl hk) HB5.out.size
   have ht6 := gI ht5 hf6.size
   have HS6 := gO hs6
   have aBa : v2.ys.length = s.cs.length := by
    have h := congrArg List.length hs6.r.cy
    rw [List.length_map] at h
    rw [h]
    exact aA9.out.2.2.2.1
   have hi6 : i < v2.ys.length := by
    have := (List.getElem?_eq_some_iff.1 EU.out).1
    omega
   have aBb : v2.ys.length ≤ 20 := by rw [aBa]; exact HK.out.cl
   have g6 := hs6.k 6
   unfold Sc.vals at g6
   simp only [gB, gC, gD] at g6
   have VK : w6.ownsRow 0 94 6 (.slice v2.a2 v2.ys.length v2.c2) v2.ys.length (flat bV v2.ys) := by
    have h := hs6.r.own.each (jR v2) (dS v2 _)
    exact h
   have HDL := gO (Ou 0 v2.a2 v2.ys.length v2.c2 v2.ys i w6 VK hi6 (by omega) (Nat.zero_le _))
   have HI6 := gO hi6
   have hG6 : Hid (some w.heap.size ≠ (Value.slice v2.a2 v2.ys.length v2.c2).ownBlock) := fun e => (hs6.r.og _ (dS v2 _) w.heap.size e.symm).1 rfl
   have hT6 : Hid (some (w.heap.size + 1) ≠ (Value.slice v2.a2 v2.ys.length v2.c2).ownBlock) := fun e => (hs6.r.og _ (dS v2 _) (w.heap.size + 1) e.symm).2 (.inr rfl)
   have aHO : (i : Int) < v2.ys.length := by omega
   clear HT5 HU5 HB5 HS5 hs6 hf6 hv6 HC aBa VK
   go_upto_region 13 with (go_at_call 79; refine HDL.out.mono ?_; rintro ev w7 ⟨rfl, VL, hg7⟩; have z6 := bH HS6.out.k HS6.out.r.hr.gs hg7 hG6.out 6; have zf6 := bI HS6.out.fz HS6.out.r.hr.gs hg7 hG6.out 6; unfold Sc.vals at z6; simp only [gB, gC, gD] at z6)
   obtain ⟨v', t1, t2⟩ := HS6.out.aD6 HI6.out hg7 VL
   have jK := gO t1
   have HT7 := bH HT6.out ht6 hg7 hT6.out
   have HU7 := bI HU6.out ht6 hg7 hT6.out
   have iT := gO (aA HT7 (show w.heap.size + 1 ≠ w.heap.size by omega) 6 (.slice v2.a2 (v2.ys.length - 1 : Nat) v2.c2))
   have yG := gO (aH HU7 ⟨w.heap.size, 6, none⟩ (.slice v2.a2 (v2.ys.length - 1 : Nat) v2.c2))
   have yH : Hid (Below w.heap.size w (w7.setCell ⟨w.heap.size, 6, none⟩ (.slice v2.a2 (v2.ys.length - 1 : Nat) v2.c2))) := Safe.after HB6.out t2 (fun k hk => .inl hk) HB6.out.size
   clear t1 t2 HT7 HU7 VL hg7 z6 zf6 HS6 HT6 HU6 HB6 HDL hG6 hT6 g6
   generalize w7.setCell ⟨w.heap.size, 6, none⟩ (.slice v2.a2 (v2.ys.length - 1 : Nat) v2.c2) = w8 at *
   obtain ⟨sF, Ic⟩ : ∃ sF, ({ sS with cs := sS.cs.eraseIdx i } : Sy) = sF := ⟨_, rfl⟩
   rw [Ic] at jK XL
   clear Ic
   have z0 := jK.out.k 0
   have z1 := jK.out.k 1
   have z2 := jK.out.k 2
   have z3 := jK.out.k 3
   have z4 := jK.out.k 4
   have z5 := jK.out.k 5
   have z6 := jK.out.k 6
   unfold Sc.vals at z0 z1 z2 z3 z4 z5 z6
   have q0 := iT.out 0
   have q1 := iT.out 1
   have q2 := iT.out 2
   have q3 := iT.out 3
   have q4 := iT.out 4
   have q5 := iT.out 5
   have q6 := iT.out 6
   obtain ⟨f0, f1, f2, f3, f4, f5, f6⟩ := gF7 yG.out
   simp only [gB, gC, gD] at z0 z1 z2 z3 z4 z5 z6 q0 q1 q2 q3 q4 q5 q6
   have fZ := out7 jK.out (T := w.heap.size + 1) (.inr rfl) (fun k hk => .inl hk) (Nat.lt_succ_self _) iT.out yH.out
   have KX := fZ.1
   have qJ := gO fZ.2.1
   have lI := gO fZ.2.2
   clear fZ jK iT yG yH
   go_wp2_with fail
   generalize ((((((w8.setCell ⟨w.heap.size + 1, 0, none⟩ (.slice v'.a1 v'.n1 v'.c1)).setCell ⟨w.heap.size + 1, 1, none⟩ (.slice v'.hc.az 2 v'.hc.cz)).setCell ⟨w.heap.size + 1, 2, none⟩ (.slice v'.hc.am 2 v'.hc.cm)).setCell ⟨w.heap.size + 1, 3, none⟩ (.int .i64 (sF.h.aF : Int))).setCell ⟨w.heap.size + 1, 4, none⟩ (.slice v'.hc.al v'.hc.lc.length v'.hc.cl)).setCell ⟨w.heap.size + 1, 5, none⟩ (.slice v'.hc.av sF.h.live.length v'.hc.cv)).setCell ⟨w.heap.size + 1, 6, none⟩ (.slice v'.a2 v'.ys.length v'.c2) = wx at *
   exact bodyPost_ret (v := .tuple #[.agg #[.slice v'.a1 v'.n1 v'.c1, .slice v'.hc.az 2 v'.hc.cz, .slice v'.hc.am 2 v'.hc.cm, .int .i64 (sF.h.aF : Int), .slice v'.hc.al v'.hc.lc.length v'.hc.cl, .slice v'.hc.av sF.h.live.length v'.hc.cv, .slice v'.a2 v'.ys.length v'.c2], .int .i64 0]) (by simp [results, Tryz.results34, go_sem, KX]) rfl (.inr ⟨sF, v', XL.out, rfl, qJ.out, lI.out⟩)
end
end Go.Proofs.YtcmpmobhongkiaaGreatDoor
