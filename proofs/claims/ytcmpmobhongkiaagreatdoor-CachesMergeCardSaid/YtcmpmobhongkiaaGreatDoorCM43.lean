/- texts of this claim, joined. -/
import Derived.Test.YtcmpmobhongkiaaGreatDoorCM0
import Derived.Test.YtcmpmobhongkiaaGreatDoorCM39
import Derived.Test.YtcmpmobhongkiaaGreatDoorCM42
set_option linter.unusedVariables false
set_option linter.unusedSimpArgs false
namespace Go.Proofs.YtcmpmobhongkiaaGreatDoor
section
open Go.RowKit

def UG (v : Sc) (s' : Sy) (G : Nat) (X : Nat → Prop) (w : World) (ev : Ending) (w' : World) : Prop := ev = .returned (.tuple #[]) ∧ ∃ v', SS w' G X s' v' ∧ Safe X w w' ∧ v'.a2 = v.a2
set_option maxHeartbeats 8000000 in
set_option maxRecDepth 100000 in
theorem JV (v : Sc) (s : Sy) (G i : Nat) (X : Nat → Prop) (w : World) (hs : SS w G X s v) (hk : fC s) (hi : i < v.ys.length) :
  Calls Tryz.prog 78 #[.pointer (some ⟨G, 0, none⟩), .int .i64 i] w (UG v (s.shrink i) G X w) := by
 obtain ⟨gc, ha2, kU, Ej, Jv, hcc⟩ := hs.r.KH hi
 have hvl : v.ys.length ≤ 20 := by have := congrArg List.length hs.r.cy; rw [List.length_map] at this; rw [this]; exact hk.cl
 have hvs : v.ys.length = s.cs.length := by have := congrArg List.length hs.r.cy; simpa using this
 have hii : (i : Int) < v.ys.length := by omega
 have hcm : v.ys[i].c ∈ s.cs := by rw [← hs.r.cy]; exact List.mem_map_of_mem (gL hi)
 have hci : s.cs[i]? = some v.ys[i].c := by
  rw [← hs.r.cy, List.getElem?_map, gJ hi]
  rfl
 have hck := hk.ck _ hcm
 have hcy := hs.r.at.ca _ (gL hi)
 obtain ⟨y, hy⟩ : ∃ y, v.ys[i] = y := ⟨_, rfl⟩
 rw [hy] at hcc hci hck hcy
 have hl2 := hcy.l2
 have hl3 := hcy.l3
 have hsl := hck.kT hk.hk
 have hac := hck.ac
 have hcp := hk.hk.cp.2
 have hn3 : y.n3 ≤ 4 := by omega
 have hn2 : y.n2 ≤ 256 := by omega
 have b5 := (hcc 5 (by decide)).1
 simp only [bV, vI, gC, gD, Nat.add_zero] at b5
 have g6 := hs.k 6
 unfold Sc.vals at g6
 simp only [gB, gC, gD] at g6
 rw [ha2] at g6
 have HS := gO hs
 have HK := gO hk
 have EU := gO hci
 have HL3 := gO hl3
 have HL2 := gO hl2
 have HA2 := gO ha2
 have Yy := gO (List.getElem?_eq_some_iff.1 hci).1
 have HUN := gO (hk.dR hci)
 have HSH : Hid (s.shrink i = (s.dR i y.c.ac.length).shr i y.c.sl.length) := by unfold Hid Sy.shrink; rw [hci]
 have HVS := gO hvs
 clear hs hk hcc hy hck hcm hci hcy hl2 hl3 hsl hac hcp ha2 hvs hi
 go_enter Tryz.func78, Tryz.ntmps78
 go_wp2_with fail
 go_loopw [5, 18] (fun s5 s18 wr => ∃ (j : Nat) (v' : Sc), j ≤ y.n3 ∧ s18 = .int .i64 (j : Int) ∧ Hid (SS wr G X (s.dU i (y.c.dR j)) v') ∧ Hid (Safe X w wr) ∧ Hid (v'.a2 = v.a2)) (fun s5 s18 _ => y.n3 - (intOf s18).toNat)
 case atStart =>
  refine ⟨0, v, Nat.zero_le _, rfl, ?_, Safe.refl _ _, rfl⟩
  unfold Hid
  rw [JR]
  have e : s.dU i y.c = s := by
   unfold Sy.dU
   obtain ⟨h1, h2⟩ := List.getElem?_eq_some_iff.1 EU.out
   rw [← h2, List.set_getElem_self]
  rw [e]
  exact HS.out
 case round =>
  obtain ⟨j, v', hj, rfl, jG, HFr, HVr⟩ := hrel
  have hi' : i < v'.ys.length := by
   have h := congrArg List.length jG.out.r.cy
   have h2 := Yy.out
   simp only [List.length_map, Sy.dU, List.length_set] at h
   omega
  obtain ⟨gc', QL, aFT, _, _, hcc⟩ := jG.out.r.KH hi'
  obtain rfl : gc = gc' := by
   have h := HVr.out
   rw [QL, HA2.out] at h
   simpa [eq_comm] using h
  have BA : v'.ys[i].c = y.c.dR j := by
   have h1 := congrArg (·[i]?) jG.out.r.cy
   simp only [List.getElem?_map, gJ hi', Option.map_some] at h1
   have h2 : (s.dU i (y.c.dR j)).cs[i]? = some (y.c.dR j) := by
    show (s.cs.set i _)[i]? = _
    rw [List.getElem?_set_self Yy.out]
   rw [h2] at h1
   exact gP h1
  have Oo := jG.out.r.at.ca _ (gL hi')
  obtain ⟨hr1, hr2, hr3⟩ := jG.out.r.y (gL hi')
  obtain ⟨y', hy'⟩ : ∃ y', v'.ys[i] = y' := ⟨_, rfl⟩
  rw [hy'] at hcc Oo BA hr2 hr3
  have HY' := gO hy'
  have HYC := gO BA
  have Ua : y'.n3 = y.n3 := by rw [← Oo.l3, BA, Om]; exact HL3.out
  have b5' := (hcc 5 (by decide)).1
  have b4' := (hcc 4 (by decide)).1
  simp only [bV, vI, gC, gD, Nat.add_zero] at b5' b4'
  by_cases hlt : j < y.n3
  ·have hji : (j : Int) < y'.n3 := by omega
   have aHK : (j : Int) < y.n3 := by omega
   have hja : j < y'.c.ac.length := by rw [Oo.l3]; omega
   obtain ⟨ga, hga, _, aAl, hca, hfa⟩ := lJ hr3 j (by simpa [nS] using hja)
   rw [hga] at b5'
   obtain ⟨ua, hua⟩ : ∃ u, wr.cell? ⟨ga, j, none⟩ = some u := ⟨_, hca⟩
   have hset := jG.out.PY hi' hy' hga j (-1)
   have he : (s.dU i (y.c.dR j)).dU i { y'.c with ac := y'.c.ac.set j (-1) } = s.dU i (y.c.dR (j + 1)) := by
    unfold Sy.dU
    simp only [List.set_set]
    have h9 : ({ y'.c with ac := y'.c.ac.set j (-1) } : Ca) = y.c.dR (j + 1) := by
     rw [BA, JU (by have := HL3.out; omega)]
     rfl
    rw [h9]
   rw [he] at hset
   unfold vI at hset
   have Uj := gO hset
   clear hset he hca hga hr1 hr2 hr3 hcc Oo BA QL b4' hy' hja Ua
   go_wp2
   go_roundw
   case rel =>
    obtain ⟨v'', t1, t2, t3⟩ := Uj.out
    exact ⟨j + 1, v'', by omega, by go_num, t1, HFr.out.trans t2, t3.trans HVr.out⟩
   case measure => simp [intOf]; omega
  ·obtain rfl : j = y.n3 := by omega
   have hun : s.dU i (y.c.dR y.n3) = s.dR i y.c.ac.length := by rw [Ia EU.out, HL3.out]
   rw [hun] at jG
   have aA3 : y'.n2 = y.n2 := by
    rw [← Oo.l2, BA]
    exact HL2.out
   have hnl : y'.n2 = (y'.n2 - 1) + 1 ∨ y'.n2 = 0 := by omega
   have HN0 : Hid (Dj (s.dR i y.c.ac.length) i y.n2) := by
    obtain ⟨_, _, _, h4, _⟩ := HUN.out
    refine ⟨{ y.c with ac := List.replicate y.c.ac.length (-1) }, by rw [h4, List.getElem?_set_self Yy.out], fun b hb => (List.mem_replicate.1 hb).2, ?_⟩
    show y.n2 ≤ y.c.sl.length
    rw [HL2.out]
    exact Nat.le_refl _
   have HSH2 : Hid (s.shrink i = (s.dR i y.c.ac.length).shr i y.n2) := by
    have h := HSH.out
    rw [HL2.out] at h
    exact h
   have HUK := gO HUN.out.1
   have HUC : Hid ((s.dR i y.c.ac.length).cs.length = s.cs.length) := by
    obtain ⟨_, _, _, h4, _⟩ := HUN.out
    unfold Hid
    rw [h4, List.length_set]
   rw [aA3] at b4'
   obtain ⟨s0, hs0⟩ : ∃ s0, s.dR i y.c.ac.length = s0 := ⟨_, rfl⟩
   rw [hs0] at jG HN0 HSH2 HUK HUC
   clear hr1 hr2 hr3 hcc Oo BA QL b5' hy' Ua hun HYC HY' aA3 hnl HSH HUN hs0 HS HK EU HL3
   go_wp2_with fail
   go_loopw [6] (fun s6 wr => ∃ (m : Nat) (s' : Sy) (v' : Sc), m ≤ y.n2 ∧ s6 = .int .i64 ((m : Int) - 1) ∧ Hid (s0.shr i y.n2 = s'.shr i m) ∧ Hid (fC s') ∧ Hid (Dj s' i m) ∧ Hid (s'.cs.length = s.cs.length) ∧ Hid (SS wr G X s' v') ∧ Hid (Safe X w wr) ∧ Hid (v'.a2 = v.a2)) (fun s6 _ => (intOf s6 + 1).toNat)
   case atStart => exact ⟨y.n2, s0, v', Nat.le_refl _, rfl, rfl, HUK, HN0, HUC, jG, HFr, HVr⟩
   case round =>
    clear b4' HUK HN0 HUC jG HFr HVr
    obtain ⟨m, s', v3, hm, rfl, HSH3, HK3, HN3, HL3, HS3, HF3, HV3⟩ := hrel
    cases m with
    | zero =>
     have HE : Hid (s.shrink i = s') := by
      unfold Hid
      rw [HSH2.out, HSH3.out]
      rfl
     go_wp2_with fail
     exact bodyPost_ret (v := .tuple #[]) (by simp [results, Tryz.results78, go_sem]) rfl ⟨rfl, v3, by rw [HE.out]; exact HS3.out, HF3.out, HV3.out⟩
    | succ m =>
     have hmi : (((m + 1 : Nat) : Int) - 1) = (m : Int) := by omega
     rw [hmi]
     have aA4 : s0.shr i y.n2 = (s'.mO i m).shr i m := HSH3.out
     obtain ⟨g1, g2, g3, g4, g5, g6'⟩ := HK3.out.mO HN3.out
     have HSH4 := gO aA4
     have HK4 := gO g1
     have HN4 := gO g4
     have HL4 : Hid ((s'.mO i m).cs.length = s.cs.length) := by unfold Hid; rw [g5]; exact HL3.out
     clear aA4 g1 g2 g3 g4 g5 g6' hmi
     have hi3 : i < v3.ys.length := by
      have h := congrArg List.length HS3.out.r.cy
      have h1 := Yy.out
      have h2 := HL3.out
      simp only [List.length_map] at h
      omega
     obtain ⟨gc', ha3, aFU, _, _, hcc⟩ := HS3.out.r.KH hi3
     obtain rfl : gc = gc' := by
      have h := HV3.out
      rw [ha3, HA2.out] at h
      simpa [eq_comm] using h
     obtain ⟨c', hc', aA5, hcl'⟩ := HN3.out
     have BA : v3.ys[i].c = c' := by
      have h1 := congrArg (·[i]?) HS3.out.r.cy
      simp only [List.getElem?_map, gJ hi3, Option.map_some] at h1
      rw [hc'] at h1
      exact gP h1
     have RG := HK3.out.ck c' (gM hc')
     obtain ⟨hr1, hr2, hr3⟩ := HS3.out.r.y (gL hi3)
     obtain ⟨y3, hy3⟩ : ∃ y3, v3.ys[i] = y3 := ⟨_, rfl⟩
     rw [hy3] at hcc hr2 BA
     subst BA
     have hms : m < y3.c.sl.length := by omega
     have hl2 : y3.c.sl.length = y3.n2 := aZ aK (by decide) hr2
     have hmn : (m : Int) < y3.n2 := by omega
     have hlen : m * 3 + 1 < (flat aX y3.c.sl).length := by rw [flat_length aK]; omega
     obtain ⟨gs, hgs, _, Gx, hsc, _⟩ := lJ hr2 (m * 3 + 1) hlen
     have s1 : wr.cell? ⟨gs, m * 3 + 1, none⟩ = some (.int .i64 (y3.c.sl[m].n : Int)) := by
      rw [hsc]
      have h := flat_get aK y3.c.sl m hms 1 (by decide)
      rw [gJ hlen] at h
      exact h
     have x4 := (hcc 4 (by decide)).1
     have x2 := (hcc 2 (by decide)).1
     simp only [bV, vI, gC, gD, Nat.add_zero] at x4 x2
     rw [hgs] at x4
     have hx : y3.c.sl[m]? = some y3.c.sl[m] := gJ hms
     have Yz : s'.mO i m = if y3.c.sl[m].n = y3.c.r then s'.discard i m 0 else s' := by
      unfold Sy.mO
      rw [hc']
      simp only [hx]
     have hxn : y3.c.sl[m].n ≤ 64 := gQ (RG.sk _ (gL hms)).Jm RG.r64
     have QE := RG.r64
     have RH : 0 < s'.h.aF := HK3.out.hk.cp.1
     have HDC : Hid (∀ W, SS W G X s' v3 → Calls Tryz.prog 74 #[.pointer (some ⟨G, 0, none⟩), .int .i64 i, .int .i64 m, .int .i64 0] W (VJ v3 s' i m 0 G X W)) := fun W h => yF v3 s' G i m 0 X W h HK3.out hi3 (by rw [hy3]; exact hms) RH
     have Zl : m ≤ 256 := by omega
     have UH := HS3
     clear HS3
     by_cases hfull : y3.c.sl[m].n = y3.c.r
     ·have hfi : (((y3.c.sl[m].n : Nat) : Int) == ((y3.c.r : Nat) : Int)) = true := by rw [beq_iff_eq, hfull]
      rw [if_pos hfull] at Yz
      rw [Yz] at HSH4 HK4 HN4 HL4
      generalize y3.c.sl[m].n = xn at *
      clear hcc RG hr1 hr2 hr3 hy3 hl2 hlen hsc hx Yz hc' aA5 hcl' hms hgs ha3 hfull HSH3 HK3 HN3 HL3
      go_upto_region 9 with fail
      go_quiet (fail)
      have XI := below_drewN (Below.refl wr.heap.size wr) nq
      have HS4 := gO (UH.out.below XI)
      have HF4 := gO (HF3.out.then XI)
      clear XI s1 x4 x2 UH HF3
      generalize wr.drewN nq = wq at *
      go_wp2_with (first | (go_at_call 74; refine (HDC.out wq HS4.out).mono ?_; rintro ev w4 ⟨rfl, v4, hs4, hf4, hv4⟩))
      go_roundw
      case rel => exact ⟨m, _, v4, by omega, rfl, HSH4, HK4, HN4, HL4, hs4, HF4.out.trans hf4, hv4.trans HV3.out⟩
      case measure => simp [intOf]
     ·have hfi : (((y3.c.sl[m].n : Nat) : Int) == ((y3.c.r : Nat) : Int)) = false := by rw [beq_eq_false_iff_ne]; omega
      rw [if_neg hfull] at Yz
      rw [Yz] at HSH4 HK4 HN4 HL4
      generalize y3.c.sl[m].n = xn at *
      clear hcc RG hr1 hr2 hr3 hy3 hl2 hlen hsc hx Yz hc' aA5 hcl' hms hgs ha3 hfull HSH3 HK3 HN3 HL3 HDC
      go_upto_region 9 with fail
      go_quiet (fail)
      have XI := below_drewN (Below.refl wr.heap.size wr) nq
      have HS4 := gO (UH.out.below XI)
      have HF4 := gO (HF3.out.then XI)
      clear XI s1 x4 x2 UH HF3
      generalize wr.drewN nq = wq at *
      go_wp2_with fail
      go_roundw
      case rel => exact ⟨m, s', v3, by omega, rfl, HSH4, HK4, HN4, HL4, HS4, HF4, HV3⟩
      case measure => simp [intOf]
end
end Go.Proofs.YtcmpmobhongkiaaGreatDoor
