/- texts of this claim, joined. -/
import Derived.Test.YtcmpmobhongkiaaGreatDoorCG0
import Derived.Test.YtcmpmobhongkiaaGreatDoorCG17
import Derived.Test.YtcmpmobhongkiaaGreatDoorCG19
import Derived.Test.YtcmpmobhongkiaaGreatDoorCG29
import Derived.Test.YtcmpmobhongkiaaGreatDoorCG36
import Derived.Test.YtcmpmobhongkiaaGreatDoorCG37
import Derived.Test.YtcmpmobhongkiaaGreatDoorCG38
import Derived.Test.YtcmpmobhongkiaaGreatDoorCG42
set_option linter.unusedVariables false
set_option linter.unusedSimpArgs false
namespace Go.Proofs.YtcmpmobhongkiaaGreatDoor
section
open Go.RowKit

def Sy.discard (s : Sy) (i k cpu : Nat) : Sy := match s.cs[i]? with
 | some c => match c.sl[k]? with
  | some x => match s.h.live[lb s.h.live x.p]? with
   | some b => { s with h := s.h.fZ cpu (lb s.h.live x.p) b, cs := s.cs.set i { c with sl := c.sl.eraseIdx k } }
   | none => s
  | none => s
 | none => s
def WT (v : Sc) (s : Sy) (i k cpu : Nat) (G : Nat) (X : Nat → Prop) (w : World) (ev : Ending) (w' : World) : Prop := ev = .returned (.tuple #[]) ∧ ∃ v', SS w' G X (s.discard i k cpu) v' ∧ Safe X w w' ∧ v'.a2 = v.a2
set_option maxHeartbeats 8000000 in
set_option maxRecDepth 100000 in
theorem yD (v : Sc) (s : Sy) (G i k cpu : Nat) (X : Nat → Prop) (w : World) (hs : SS w G X s v) (hk : dM s) (hi : i < v.ys.length) (hkk : k < v.ys[i].c.sl.length) (dP : cpu < s.h.aF) :
  Calls Tryz.prog 74 #[.pointer (some ⟨G, 0, none⟩), .int .i64 i, .int .i64 k, .int .i64 cpu] w (WT v s i k cpu G X w) := by
 obtain ⟨gc, ha2, kW, Ey, JJ, hcc⟩ := hs.r.LG hi
 have hym := gL hi
 have hcm : v.ys[i].c ∈ s.cs := by rw [← hs.r.cy]; exact List.mem_map_of_mem hym
 have hci : s.cs[i]? = some v.ys[i].c := by
  rw [← hs.r.cy, List.getElem?_map, gJ hi]
  rfl
 have hck := hk.ck _ hcm
 have hvl : v.ys.length ≤ 20 := by have := congrArg List.length hs.r.cy; rw [List.length_map] at this; rw [this]; exact hk.cl
 have Ej : s.h.live.length ≤ 1000 := gQ hk.hk.oG (by decide)
 have Rn : v.hc.lc.length ≤ 1000 := by
  have h1 := congrArg List.length hs.r.hr.ll
  rw [List.length_map] at h1
  rw [h1]
  exact gQ hk.hk.sO (by decide)
 have hii : (i : Int) < v.ys.length := by omega
 obtain ⟨_, hr2, _⟩ := hs.r.y hym
 obtain ⟨y, hy⟩ : ∃ y, v.ys[i] = y := ⟨_, rfl⟩
 have HY := gO hy
 rw [hy] at hci hck hr2 hcc
 have hkk' : k < y.c.sl.length := by rw [← hy]; exact hkk
 have hlive := (hck.sk _ (gL hkk')).live
 have hp := (hck.sk _ (gL hkk')).zW hk.hk
 obtain ⟨gs, hgs, _, GU, hcs, _⟩ := lI hr2 (k * 3) (by show k * 3 < (flat aY y.c.sl).length; rw [flat_length aK]; omega)
 have hl2 : y.c.sl.length = y.n2 := aZ aK (by decide) hr2
 have hsl := hck.kV hk.hk
 have ps : w.cell? ⟨gs, k * 3, none⟩ = some (.int .i64 (y.c.sl[k].p : Int)) := by
  have h1 := flat_get aK y.c.sl k hkk' 0 (by decide)
  have h2 : k * 3 < (flat aY y.c.sl).length := by rw [flat_length aK]; omega
  rw [hcs]
  have h3 : (flat aY y.c.sl)[k * 3]? = some (vI (y.c.sl[k].p : Int)) := by simpa [aY] using h1
  rw [gJ h2] at h3
  exact h3
 obtain ⟨hlb, PX, hth⟩ := (hck.sk _ (gL hkk')).at hk.hk
 have hF := fun (W : World) (hW : Below w.heap.size w W) => SX v.hc.az v.hc.am v.hc.al v.hc.av v.hc.cz v.hc.cm v.hc.cl v.hc.cv _ _ _ _ _ s.h cpu y.c.sl[k].p W (hs.r.hr.at.below hW) hk.hk Rn Ej dP (by omega) hth
 have Tf : s.discard i k cpu = { s with h := s.h.fZ cpu (lb s.h.live y.c.sl[k].p) s.h.live[lb s.h.live y.c.sl[k].p], cs := s.cs.set i { y.c with sl := y.c.sl.eraseIdx k } } := by
  unfold Sy.discard
  rw [hci]
  simp only [gJ hkk', gJ hlb]
 obtain ⟨h', hh'⟩ : ∃ h', s.h.fZ cpu (lb s.h.live y.c.sl[k].p) s.h.live[lb s.h.live y.c.sl[k].p] = h' := ⟨_, rfl⟩
 rw [hh'] at Tf
 have HF : Hid (∀ W, Below w.heap.size w W → Calls Tryz.prog 89 #[.agg #[.slice v.hc.az 2 v.hc.cz, .slice v.hc.am 2 v.hc.cm, .int .i64 s.h.aF, .slice v.hc.al v.hc.lc.length v.hc.cl, .slice v.hc.av s.h.live.length v.hc.cv], .int .i64 cpu, .int .i64 y.c.sl[k].p] W fun ev w' => ∃ hc' : Hc, ev = .returned (.tuple #[.agg #[.slice hc'.az 2 hc'.cz, .slice hc'.am 2 hc'.cm, .int .i64 (h'.aF : Int), .slice hc'.al hc'.lc.length hc'.cl, .slice hc'.av h'.live.length hc'.cv], .int .i64 0]) ∧ lJ w' W.heap.size h' hc' ∧ Below W.heap.size W w') := fun W hW => by
  refine (hF W hW).mono ?_
  rintro ev w' ⟨hb, c', _, h1, h2⟩
  rw [hh'] at h1 h2
  exact ⟨c', h1, h2, hb⟩
 obtain ⟨b4, f4⟩ := hcc 4 (by decide)
 simp only [bW, vI, gC, gD] at b4
 have g1 := hs.k 1
 have g2 := hs.k 2
 have g3 := hs.k 3
 have g4 := hs.k 4
 have g5 := hs.k 5
 have g6 := hs.k 6
 unfold Sc.vals at g1 g2 g3 g4 g5 g6
 simp only [gB, gC, gD] at g1 g2 g3 g4 g5 g6
 rw [ha2] at g6
 rw [hgs] at b4
 have aEL := gO hgs
 have HS := gO hs
 have HDS := gO Tf
 have HC := gO hcc
 have HA2 := gO ha2
 have Em := hs.r.hr.gs
 have hGc : G ≠ gc := fun e => Ey e.symm
 have aIB : gs ≠ G := fun e => (hs.r.og _ (iV hym (show kU v.ys[i] ∈ eX v.ys[i] by simp [eX])) gs (by rw [hy]; unfold kU; rw [hgs]; rfl)).1 e
 have hn2 : y.n2 ≤ 256 := by omega
 have hkn : (k : Int) < y.n2 := by omega
 have aEM : k < y.n2 := by omega
 clear hs hk hcc hy hck hcm hci hF hh' Tf hlive hlb PX hth hcs hr2 ha2 hgs hkk hl2 hsl hym hvl
 generalize y.c.sl[k] = x at *
 clear hkk'
 go_enter Tryz.func74, Tryz.ntmps74
 go_upto_region 1 with fail
 go_cut [15] (fun s15 wx => ∃ (hc' : Hc), Hid (SS wx G X { s with h := h' } { v with hc := hc' }) ∧ Hid (Safe X w wx))
 case first =>
  go_region_law (first | (go_simp; go_at_call 89; refine (HF.out _ ((Below.refl _ _).drew)).mono ?_; rintro ev w1 ⟨hc', rfl, hn1, hb1⟩; have KG := aB HS.out.k Em (Below.step ((Below.refl w.heap.size w).drew) hb1); have FG := aJ HS.out.fz Em (Below.step ((Below.refl w.heap.size w).drew) hb1); have z1 := KG 1; have z2 := KG 2; have z3 := KG 3; have z4 := KG 4; have z5 := KG 5; have q1 := FG 1; have q2 := FG 2; have q3 := FG 3; have q4 := FG 4; have q5 := FG 5; unfold Sc.vals at z1 z2 z3 z4 z5; simp only [gB, gC, gD] at z1 z2 z3 z4 z5; have HKG := gO KG; clear KG FG))
  all_goals
   have hb1' : Below w.heap.size w w1 := Below.step ((Below.refl w.heap.size w).drew) hb1
   have hput := HS.out.aEu hb1' hn1
   have HP1 := gO hput.1
   have HP2 := gO hput.2
   clear hput hb1' hb1 hn1 HKG z1 z2 z3 z4 z5 q1 q2 q3 q4 q5 g1 g2 g3 g4 g5 g6 b4 f4 ps
   go_wp2_with fail
   go_meet
   exact ⟨hc', HP1, HP2⟩
 case rest =>
  obtain ⟨hc', UW, HFx⟩ := hcut
  clear g1 g2 g3 g4 g5 g6 b4 f4 ps HF
  have hi1 : i < ({ v with hc := hc' } : Sc).ys.length := hi
  obtain ⟨gc1, Ez, CY, aAM, aAN, RD⟩ := UW.out.r.LG hi1
  have hgg : gc = gc1 := by
   have h9 : v.a2 = some ⟨gc1, 0, none⟩ := Ez
   rw [HA2.out] at h9
   simpa using h9
  subst hgg
  have nN : ∀ j, j < 6 → wc.cell? ⟨gc, i * 6 + j, none⟩ = (bW y)[j]? ∧ wc.frozen? ⟨gc, i * 6 + j, none⟩ = false := fun j hj => by
   have h := RD j hj
   have e : ({ v with hc := hc' } : Sc).ys[i] = y := HY.out
   rw [e] at h
   exact h
  have hym : y ∈ ({ v with hc := hc' } : Sc).ys := by rw [← HY.out]; exact gL hi
  have HSL : Hid ((kU y).on wc 0) := (UW.out.r.y hym).2.1
  have RF : Hid (some gc ≠ (Value.slice y.a2 y.n2 y.c2).ownBlock) := fun e => UW.out.r.Wh hi1 HY.out Ez e.symm
  have x4 := (nN 4 (by decide)).1
  have y4 := (nN 4 (by decide)).2
  simp only [bW, vI, gC, gD] at x4
  have HA21 := gO Ez
  have TY := gO hi1
  have hr : Hid ({ w := s.w, h := h', cs := s.cs } = { s with h := h' }) := rfl
  clear RD nN Ez hi1 hym
  have X4 := gO x4
  have Y4 := gO y4
  go_wp2_with (go_at_call 124; refine (NT 0 y.a2 y.n2 y.c2 y.c.sl k wc HSL.out aEM (by omega) (Nat.zero_le _)).mono ?_; rintro ev w5 ⟨rfl, hown5, hg5⟩; have q4 := (World.cell?_of_block (w := wc) (a := ⟨gc, i * 6 + 4, none⟩) (hg5.block gc CY RF.out)).trans X4.out; have p4 := (World.frozen?_of_block (w := wc) (a := ⟨gc, i * 6 + 4, none⟩) (hg5.block gc CY RF.out)).trans Y4.out)
  obtain ⟨v', t1, t2, t3⟩ := UW.out.QE TY.out HY.out hown5 hg5 (fun k' h9 => .inl (by unfold kU; rw [aEL.out] at h9 ⊢; exact h9)) HA21.out
  have t4 : SS (w5.setCell ⟨gc, i * 6 + 4, none⟩ (.slice y.a2 (y.n2 - 1) y.c2)) G X (s.discard i k cpu) v' := by
   rw [HDS.out]
   exact t1
  exact bodyPost_ret (v := .tuple #[]) (by simp [results, Tryz.results74, go_sem]) rfl ⟨rfl, v', t4, HFx.out.trans t2, t3⟩
end
section
def Sy.push (s : Sy) (i k a : Nat) : Sy := match s.cs[i]? with
 | some c => match c.sl[k]? with
  | some x => { s with w := s.w.set a x.h, cs := s.cs.set i { c with sl := c.sl.set k ⟨x.p, x.n + 1, (a : Int)⟩ } }
  | none => s
 | none => s
def Ca.spare (c : Ca) (k : Nat) : Bool := match c.sl[k]? with
 | some x => c.idle x && decide (1 < (c.sl.filter c.idle).length)
 | none => false
def Sy.spare (s : Sy) (i k : Nat) : Bool := match s.cs[i]? with
 | some c => c.spare k
 | none => false
def Sy.free (s : Sy) (i k a cpu : Nat) : Sy := if (s.push i k a).spare i k then (s.push i k a).discard i k cpu else s.push i k a

theorem MW {s : Sy} {i k a : Nat} {c : Ca} {x : Sl} (hi : s.cs[i]? = some c) (hx : c.sl[k]? = some x) : s.push i k a = { s with w := s.w.set a x.h, cs := s.cs.set i { c with sl := c.sl.set k ⟨x.p, x.n + 1, (a : Int)⟩ } } := by
 unfold Sy.push
 rw [hi]
 simp only [hx]
theorem Aw {w : List Int} {a : Nat} {u b : Int} (hb : 0 ≤ b) (h : b ≠ (a : Int)) : (w.set a u).getD b.toNat 0 = w.getD b.toNat 0 := by
 rw [List.getD_eq_getElem?_getD, List.getElem?_set_ne (by omega), ← List.getD_eq_getElem?_getD]
theorem dM.push {s : Sy} (hk : dM s) {i k a : Nat} {c : Ca} {x : Sl} (hi : s.cs[i]? = some c) (hx : c.sl[k]? = some x) (ho : lG s.w c x a) :
  dM (s.push i k a) ∧ (∀ j b, (s.push i k a).away j b ↔ s.away j b ∧ ¬ (j = i ∧ b = a)) ∧ (s.push i k a).cs[i]? = some { c with sl := c.sl.set k ⟨x.p, x.n + 1, (a : Int)⟩ } := by
 have hil := (List.getElem?_eq_some_iff.1 hi).1
 have hcm := gM hi
 have hxm := gM hx
 obtain ⟨hkl, hkx⟩ := List.getElem?_eq_some_iff.1 hx
 have hck := hk.ck c hcm
 obtain ⟨hob, hout⟩ := ho
 obtain ⟨l, h1, h2, h3⟩ := (hck.sk x hxm).chain
 have hal := hout l h1
 obtain ⟨f1, f2, f3, f4⟩ := fV.1 h1
 have hnd : ((a : Int) :: l).Nodup := List.nodup_cons.2 ⟨hal, f4⟩
 have hroom := Dn (c := c) (p := x.p) hck.z.1 hnd fun b hb => by
  rcases List.mem_cons.1 hb with rfl | hb
  ·exact hob
  ·exact h3 b hb
 have hpg := jW hck.room hob
 have hlow : (a : Int) < 4096 := by
  obtain ⟨b, hb, hb1, hb2⟩ := (hck.sk x hxm).live
  obtain ⟨_, _, h4, h5⟩ := (hk.hk.lv b hb).1
  have hor : c.o ≤ 2 := by rw [hck.o]; exact kH _
  rw [hb1, hb2] at h5
  rw [hb1] at h4
  generalize c.o = o at *
  obtain rfl | rfl | rfl : o = 0 ∨ o = 1 ∨ o = 2 := by omega
  ·simp only [Nat.pow_zero] at hpg; omega
  ·simp only [Nat.pow_one] at hpg h5; omega
  ·have e4 : (2 : Nat) ^ 2 = 4 := rfl
   rw [e4] at hpg h5
   omega
 have hne : ∀ d ∈ s.cs, ∀ y ∈ d.sl, y.p ≠ x.p → ∀ b : Int, iH d y.p b = true → (s.w.set a x.h).getD b.toNat 0 = s.w.getD b.toNat 0 := fun d hd y hy hyp b hb => by
  have h6 := (qW hb).1
  refine Aw (by omega) fun e => hyp ?_
  exact hk.Ib hd hcm hy hxm hb (by rw [e]; exact hob)
 have hwl : (s.w.set a x.h).length = s.w.length := by simp
 have SK : follow (s.w.set a x.h) (a : Int) c.r = some ((a : Int) :: l) := by
  rw [fV]
  refine ⟨⟨rfl, ?_⟩, fun b hb => ?_, fun _ => by exact_mod_cast hroom, hnd⟩
  ·have e : (s.w.set a x.h).getD ((a : Int)).toNat 0 = x.h := by
    rw [List.getD_eq_getElem?_getD, Int.toNat_natCast, List.getElem?_set_self (by rw [hk.wl]; omega)]
    rfl
   rw [e]
   exact f1.move fun b hb => Aw (f2 b hb).1 fun e => hal (e ▸ hb)
  ·rw [hwl]
   rcases List.mem_cons.1 hb with rfl | hb
   ·rw [hk.wl]; omega
   ·exact f2 b hb
 rw [MW hi hx]
 have hoth : ∀ d ∈ s.cs, ∀ y ∈ d.sl, y.p ≠ x.p → pG { s with w := s.w.set a x.h, cs := s.cs.set i { c with sl := c.sl.set k ⟨x.p, x.n + 1, (a : Int)⟩ } } d y := fun d hd y hy hyp =>
  ((hk.ck d hd).sk y hy).move rfl rfl rfl (fun b hb => hb) hwl (hne d hd y hy hyp)
 have hpk : ∀ j (hj : j < c.sl.length), j ≠ k → c.sl[j].p ≠ x.p := fun j hj hjk e => by
  rw [← hkx] at e
  have hsr := hck.sr
  rw [gN] at hsr
  rcases Nat.lt_or_gt_of_ne hjk with h | h
  ·have := hsr j k hj hkl h
   omega
  ·have := hsr k j hkl hj h
   omega
 have hpd : ∀ j, j ≠ i → ∀ d, s.cs[j]? = some d → ∀ y ∈ d.sl, y.p ≠ x.p := fun j hj d hd y hy e => by
  obtain ⟨hjl, hjd⟩ := List.getElem?_eq_some_iff.1 hd
  obtain ⟨Yy, hic⟩ := List.getElem?_eq_some_iff.1 hi
  have hp := hk.pd
  rw [gN] at hp
  rcases Nat.lt_or_gt_of_ne hj with h | h
  ·exact hp j i hjl hil h y (by rw [hjd]; exact hy) x (by rw [hic]; exact hxm) e
  ·exact hp i j hil hjl h x (by rw [hic]; exact hxm) y (by rw [hjd]; exact hy) e.symm
 have Yz : pG { s with w := s.w.set a x.h, cs := s.cs.set i { c with sl := c.sl.set k ⟨x.p, x.n + 1, (a : Int)⟩ } } { c with sl := c.sl.set k ⟨x.p, x.n + 1, (a : Int)⟩ } ⟨x.p, x.n + 1, (a : Int)⟩ :=
  ⟨(hck.sk x hxm).live, (a : Int) :: l, SK, by simp [h2], fun b hb => by
   rcases List.mem_cons.1 hb with rfl | hb
   ·exact hob
   ·exact h3 b hb⟩
 have aEN : oM { s with w := s.w.set a x.h, cs := s.cs.set i { c with sl := c.sl.set k ⟨x.p, x.n + 1, (a : Int)⟩ } } { c with sl := c.sl.set k ⟨x.p, x.n + 1, (a : Int)⟩ } := by
  refine ⟨hck.z, hck.o, hck.r, hck.ns, hck.nm, hck.nr, hck.ac, ?_, fun y hy => ?_, fun b hb => ?_, hck.ad⟩
  ·have h8 := hck.sr
   rw [gN] at h8 ⊢
   intro j m hj hm hjm
   have hj' : j < c.sl.length := by simpa using hj
   have hm' : m < c.sl.length := by simpa using hm
   have h9 := h8 j m hj' hm' hjm
   simp only [List.getElem_set]
   split
   ·rename_i e1
    subst e1
    rw [if_neg (by omega)]
    rw [hkx] at h9
    exact h9
   ·split
    ·rename_i e1
     subst e1
     rw [hkx] at h9
     exact h9
    ·exact h9
  ·obtain ⟨j, hj, e⟩ := List.mem_iff_getElem.1 hy
   have hj' : j < c.sl.length := by simpa using hj
   rw [List.getElem_set] at e
   split at e
   ·rw [← e]
    exact Yz
   ·rename_i hjk
    have h9 := hoth c hcm _ (gL hj') (hpk j hj' fun e => hjk e.symm)
    rw [e] at h9
    exact ⟨h9.live, h9.chain⟩
  ·rcases hck.aw b hb with h | ⟨z, hz, h⟩
   ·exact .inl h
   ·refine .inr ?_
    obtain ⟨j, hj, e⟩ := List.mem_iff_getElem.1 hz
    refine ⟨(c.sl.set k ⟨x.p, x.n + 1, (a : Int)⟩)[j]'(by simpa using hj), gL _, ?_⟩
    rw [List.getElem_set]
    split
    ·rename_i e1
     subst e1
     rw [hkx] at e
     rw [e]
     exact h
    ·rw [e]
     exact h
 have hpm : ∀ y ∈ c.sl.set k ⟨x.p, x.n + 1, (a : Int)⟩, ∃ z ∈ c.sl, z.p = y.p := fun y hy => by
  rcases List.mem_or_eq_of_mem_set hy with h | rfl
  ·exact ⟨y, h, rfl⟩
  ·exact ⟨x, hxm, rfl⟩
 have hset : ∀ j (d : Ca), j < s.cs.length → j ≠ i → s.cs[j]? = some d → oM { s with w := s.w.set a x.h, cs := s.cs.set i { c with sl := c.sl.set k ⟨x.p, x.n + 1, (a : Int)⟩ } } d := fun j d hj hji hd =>
  (hk.ck d (gM hd)).move rfl fun y hy => hoth d (gM hd) y hy (hpd j hji d hd y hy)
 have aEO : dM { s with w := s.w.set a x.h, cs := s.cs.set i { c with sl := c.sl.set k ⟨x.p, x.n + 1, (a : Int)⟩ } } := by
  have h8 := (hk.upd (s' := { s with cs := s.cs.set i { c with sl := c.sl.set k ⟨x.p, x.n, x.h⟩ } }) (c' := { c with sl := c.sl.set k ⟨x.p, x.n, x.h⟩ }) hi hk.wl hk.hk rfl rfl rfl ?_ (fun d hd => (hk.ck d hd).move rfl (fun y hy => ⟨((hk.ck d hd).sk y hy).live, ((hk.ck d hd).sk y hy).chain⟩)) (fun y hy => .inl ?_))
  ·have hmem : ∀ {P : Ca → Ca → Prop}, s.cs.Pairwise P → (∀ d, P d c → P d { c with sl := c.sl.set k ⟨x.p, x.n + 1, (a : Int)⟩ }) → (∀ d, P c d → P { c with sl := c.sl.set k ⟨x.p, x.n + 1, (a : Int)⟩ } d) → (s.cs.set i { c with sl := c.sl.set k ⟨x.p, x.n + 1, (a : Int)⟩ }).Pairwise P := fun {P} h g1 g2 => by
    obtain ⟨Yy, hic⟩ := List.getElem?_eq_some_iff.1 hi
    rw [gN] at h ⊢
    intro j m hj hm hjm
    have hj' : j < s.cs.length := by simpa using hj
    have hm' : m < s.cs.length := by simpa using hm
    have h9 := h j m hj' hm' hjm
    simp only [List.getElem_set]
    split
    ·rename_i e1
     subst e1
     rw [if_neg (by omega)]
     rw [hic] at h9
     exact g2 _ h9
    ·split
     ·rename_i e1
      subst e1
      rw [hic] at h9
      exact g1 _ h9
     ·exact h9
   refine ⟨by show (s.w.set a x.h).length = 4096; rw [hwl]; exact hk.wl, hk.hk, by show (s.cs.set i _).length ≤ 20; rw [List.length_set]; exact hk.cl, fun d hd => ?_, hmem hk.zd (fun _ h => h) (fun _ h => h), hmem hk.nd (fun _ h => h) (fun _ h => h), hmem hk.pd (fun d h y hy z hz => ?_) (fun d h y hy z hz => ?_)⟩
   ·obtain ⟨j, hj, e⟩ := List.mem_iff_getElem.1 hd
    have hj' : j < s.cs.length := by simpa using hj
    rw [List.getElem_set] at e
    split at e
    ·rw [← e]
     exact aEN
    ·rename_i hji
     exact hset j d hj' (fun e => hji e.symm) (by rw [gJ hj', e])
   ·obtain ⟨z', hz', e⟩ := hpm z hz
    rw [← e]
    exact h y hy z' hz'
   ·obtain ⟨y', hy', e⟩ := hpm y hy
    rw [← e]
    exact h y' hy' z hz
  ·rw [show c.sl.set k ⟨x.p, x.n, x.h⟩ = c.sl by
    have : (⟨x.p, x.n, x.h⟩ : Sl) = c.sl[k] := hkx.symm
    rw [this, List.set_getElem_self]]
   exact hck.move rfl (fun y hy => ⟨(hck.sk y hy).live, (hck.sk y hy).chain⟩)
  ·rcases List.mem_or_eq_of_mem_set hy with h | rfl
   ·exact ⟨y, h, rfl⟩
   ·exact ⟨x, hxm, rfl⟩
 refine ⟨aEO, fun j b => ?_, by show (s.cs.set i _)[i]? = _; rw [List.getElem?_set_self hil]⟩
 have hst := oI (s' := { s with w := s.w.set a x.h, cs := s.cs.set i { c with sl := c.sl.set k ⟨x.p, x.n + 1, (a : Int)⟩ } }) (c' := { c with sl := c.sl.set k ⟨x.p, x.n + 1, (a : Int)⟩ }) hi rfl b
 have hsame : ∀ d ∈ s.cs, ∀ y ∈ d.sl, y.p ≠ x.p → (lG (s.w.set a x.h) d y b ↔ lG s.w d y b) := fun d hd y hy hyp =>
  Dt (((hk.ck d hd).sk y hy).yC (s' := { s with w := s.w.set a x.h }) hwl (hne d hd y hy hyp)) b
 by_cases hj : j = i
 ·subst hj
  rw [hst.1, lV hi, Kv hkl, Dq hkl, hkx, lH h1]
  have h8 : lG (s.w.set a x.h) { c with sl := c.sl.set k ⟨x.p, x.n + 1, (a : Int)⟩ } ⟨x.p, x.n + 1, (a : Int)⟩ b ↔ iH c x.p b = true ∧ b ∉ (a : Int) :: l := lH (x := ⟨x.p, x.n + 1, (a : Int)⟩) (c := { c with sl := c.sl.set k ⟨x.p, x.n + 1, (a : Int)⟩ }) SK b
  have h9 : (∃ j, ∃ h : j < c.sl.length, j ≠ k ∧ lG (s.w.set a x.h) { c with sl := c.sl.set k ⟨x.p, x.n + 1, (a : Int)⟩ } c.sl[j] b) ↔ (∃ j, ∃ h : j < c.sl.length, j ≠ k ∧ lG s.w c c.sl[j] b) := by
   constructor
   ·rintro ⟨m, hm, hmk, h⟩
    exact ⟨m, hm, hmk, (hsame c hcm _ (gL hm) (hpk m hm hmk)).1 h⟩
   ·rintro ⟨m, hm, hmk, h⟩
    exact ⟨m, hm, hmk, (hsame c hcm _ (gL hm) (hpk m hm hmk)).2 h⟩
  show (∃ j, ∃ h : j < c.sl.length, j ≠ k ∧ lG (s.w.set a x.h) { c with sl := c.sl.set k ⟨x.p, x.n + 1, (a : Int)⟩ } c.sl[j] b) ∨ lG (s.w.set a x.h) { c with sl := c.sl.set k ⟨x.p, x.n + 1, (a : Int)⟩ } ⟨x.p, x.n + 1, (a : Int)⟩ b ↔ _
  rw [h8, h9, List.mem_cons]
  constructor
  ·rintro (⟨m, hm, hmk, h⟩ | ⟨h, h'⟩)
   ·refine ⟨.inl ⟨m, hm, hmk, h⟩, fun e => ?_⟩
    obtain ⟨_, rfl⟩ := e
    exact hmk (hk.SH hi hm hkl h.1 (by rw [hkx]; exact hob))
   ·exact ⟨.inr ⟨h, fun e => h' (.inr e)⟩, fun e => h' (.inl e.2)⟩
  ·rintro ⟨h | ⟨h, h'⟩, h2'⟩
   ·exact .inl h
   ·exact .inr ⟨h, fun e => e.elim (fun e => h2' ⟨rfl, e⟩) h'⟩
 ·rw [hst.2 j hj]
  unfold Sy.away
  constructor
  ·rintro ⟨d, hd, y, hy, h⟩
   exact ⟨⟨d, hd, y, hy, (hsame d (gM hd) y hy (hpd j hj d hd y hy)).1 h⟩, fun e => hj e.1⟩
  ·rintro ⟨⟨d, hd, y, hy, h⟩, _⟩
   exact ⟨d, hd, y, hy, (hsame d (gM hd) y hy (hpd j hj d hd y hy)).2 h⟩
end
section
theorem mP {s : Sy} (hk : dM s) {i k cpu : Nat} {c : Ca} {x : Sl} (hi : s.cs[i]? = some c) (hx : c.sl[k]? = some x) : ∃ hl : lb s.h.live x.p < s.h.live.length, s.h.live[lb s.h.live x.p].a = x.p ∧
  s.discard i k cpu = { s with h := s.h.fZ cpu (lb s.h.live x.p) s.h.live[lb s.h.live x.p], cs := s.cs.set i { c with sl := c.sl.eraseIdx k } } := by
 obtain ⟨hlb, _, hth⟩ := ((hk.ck c (gM hi)).sk x (gM hx)).at hk.hk
 refine ⟨hlb, ?_, ?_⟩
 ·unfold hasB at hth
  obtain ⟨b, hb, e⟩ := List.any_eq_true.1 hth
  have h3 := rZ hk.hk.vs hb
  rw [of_decide_eq_true e, gJ hlb] at h3
  rw [gP h3]
  exact of_decide_eq_true e
 ·unfold Sy.discard
  rw [hi]
  simp only [hx, gJ hlb]
theorem dM.discard {s : Sy} (hk : dM s) {i k cpu : Nat} {c : Ca} {x : Sl} (hi : s.cs[i]? = some c) (hx : c.sl[k]? = some x) (hn : c.r ≤ x.n) (ha : ∀ b ∈ c.ac, b ≠ (x.p : Int)) (dP : cpu < s.h.aF) :
  dM (s.discard i k cpu) ∧ (∀ j b, (s.discard i k cpu).away j b ↔ s.away j b) ∧ (s.discard i k cpu).h.aF = s.h.aF ∧ (s.discard i k cpu).cs = s.cs.set i { c with sl := c.sl.eraseIdx k } ∧ (∀ b ∈ (s.discard i k cpu).h.live, b ∈ s.h.live ∧ b.a ≠ x.p) ∧ (s.discard i k cpu).w = s.w := by
 have hil := (List.getElem?_eq_some_iff.1 hi).1
 have hcm := gM hi
 have hxm := gM hx
 obtain ⟨hkl, hkx⟩ := List.getElem?_eq_some_iff.1 hx
 have hck := hk.ck c hcm
 obtain ⟨hlb, hlp, he⟩ := mP hk (cpu := cpu) hi hx
 obtain ⟨g1, g2, g3, g4⟩ := hk.hk.fZ dP hlb
 have hpk : ∀ j (hj : j < c.sl.length), j ≠ k → c.sl[j].p ≠ x.p := fun j hj hjk e => by
  rw [← hkx] at e
  have hsr := hck.sr
  rw [gN] at hsr
  rcases Nat.lt_or_gt_of_ne hjk with h | h
  ·have := hsr j k hj hkl h
   omega
  ·have := hsr k j hkl hj h
   omega
 have hpd : ∀ j, j ≠ i → ∀ d, s.cs[j]? = some d → ∀ y ∈ d.sl, y.p ≠ x.p := fun j hj d hd y hy e => by
  obtain ⟨hjl, hjd⟩ := List.getElem?_eq_some_iff.1 hd
  obtain ⟨Yy, hic⟩ := List.getElem?_eq_some_iff.1 hi
  have hp := hk.pd
  rw [gN] at hp
  rcases Nat.lt_or_gt_of_ne hj with h | h
  ·exact hp j i hjl hil h y (by rw [hjd]; exact hy) x (by rw [hic]; exact hxm) e
  ·exact hp i j hil hjl h x (by rw [hic]; exact hxm) y (by rw [hjd]; exact hy) e.symm
 rw [he]
 have hlive : ∀ b ∈ s.h.live, b.a ≠ x.p → b ∈ (s.h.fZ cpu (lb s.h.live x.p) s.h.live[lb s.h.live x.p]).live := fun b hb hne => by
  rw [g4, List.mem_eraseIdx_iff_getElem]
  obtain ⟨j, hj, e⟩ := List.mem_iff_getElem.1 hb
  refine ⟨j, hj, fun e2 => ?_, e⟩
  subst e2
  rw [e] at hlp
  exact hne hlp
 have hoth : ∀ d ∈ s.cs, ∀ y ∈ d.sl, y.p ≠ x.p → pG { s with h := s.h.fZ cpu (lb s.h.live x.p) s.h.live[lb s.h.live x.p], cs := s.cs.set i { c with sl := c.sl.eraseIdx k } } d y := fun d hd y hy hyp => by
  obtain ⟨b, hb, hb1, hb2⟩ := ((hk.ck d hd).sk y hy).live
  exact ⟨⟨b, hlive b hb (by rw [hb1]; exact hyp), hb1, hb2⟩, ((hk.ck d hd).sk y hy).chain⟩
 have hmem : ∀ {P : Ca → Ca → Prop}, s.cs.Pairwise P → (∀ d, P d c → P d { c with sl := c.sl.eraseIdx k }) → (∀ d, P c d → P { c with sl := c.sl.eraseIdx k } d) → (s.cs.set i { c with sl := c.sl.eraseIdx k }).Pairwise P := fun {P} h g1 g2 => by
  obtain ⟨Yy, hic⟩ := List.getElem?_eq_some_iff.1 hi
  rw [gN] at h ⊢
  intro j m hj hm hjm
  have hj' : j < s.cs.length := by simpa using hj
  have hm' : m < s.cs.length := by simpa using hm
  have h9 := h j m hj' hm' hjm
  simp only [List.getElem_set]
  split
  ·rename_i e1
   subst e1
   rw [if_neg (by omega)]
   rw [hic] at h9
   exact g2 _ h9
  ·split
   ·rename_i e1
    subst e1
    rw [hic] at h9
    exact g1 _ h9
   ·exact h9
 have hsub : ∀ y ∈ c.sl.eraseIdx k, y ∈ c.sl := fun y hy => (List.eraseIdx_sublist _ _).subset hy
 refine ⟨⟨hk.wl, g1, by show (s.cs.set i _).length ≤ 20; rw [List.length_set]; exact hk.cl, fun d hd => ?_, hmem hk.zd (fun _ h => h) (fun _ h => h), hmem hk.nd (fun _ h => h) (fun _ h => h), hmem hk.pd (fun d h y hy z hz => h y hy z (hsub z hz)) (fun d h y hy z hz => h y (hsub y hy) z hz)⟩, fun j b => ?_, g3.aF, rfl, fun b hb => ?_, rfl⟩
 ·obtain ⟨j, hj, e⟩ := List.mem_iff_getElem.1 hd
  have hj' : j < s.cs.length := by simpa using hj
  rw [List.getElem_set] at e
  split at e
  ·rw [← e]
   refine ⟨hck.z, hck.o, hck.r, hck.ns, hck.nm, hck.nr, by rw [show _ = _ from g3.aF]; exact hck.ac, hck.sr.sublist (List.eraseIdx_sublist _ _), fun y hy => ?_, fun b hb => ?_, hck.ad⟩
   ·rw [List.mem_eraseIdx_iff_getElem] at hy
    obtain ⟨m, hm, hmk, e⟩ := hy
    have h9 := hoth c hcm _ (gL hm) (hpk m hm hmk)
    rw [e] at h9
    exact ⟨h9.live, h9.chain⟩
   ·rcases hck.aw b hb with h | ⟨z, hz, h⟩
    ·exact .inl h
    ·refine .inr ⟨z, ?_, h⟩
     rw [List.mem_eraseIdx_iff_getElem]
     obtain ⟨m, hm, ez⟩ := List.mem_iff_getElem.1 hz
     refine ⟨m, hm, fun e2 => ?_, ez⟩
     subst e2
     rw [hkx] at ez
     exact ha b hb (by rw [← h, ez])
  ·rename_i hji
   have hd' : s.cs[j]? = some d := by rw [gJ hj', e]
   exact (hk.ck d (gM hd')).move g3.aF fun y hy => hoth d (gM hd') y hy (hpd j (fun e => hji e.symm) d hd' y hy)
 ·have hst := oI (s' := { s with h := s.h.fZ cpu (lb s.h.live x.p) s.h.live[lb s.h.live x.p], cs := s.cs.set i { c with sl := c.sl.eraseIdx k } }) (c' := { c with sl := c.sl.eraseIdx k }) hi rfl b
  by_cases hj : j = i
  ·subst hj
   rw [hst.1, lV hi, Ic, Dq hkl, hkx]
   obtain ⟨l, h1, h2, h3⟩ := (hck.sk x hxm).chain
   constructor
   ·exact fun h => .inl h
   ·rintro (h | h)
    ·exact h
    ·exfalso
     rw [lH h1] at h
     exact h.2 (Dp hck.z.1 (fV.1 h1).2.2.2 h3 (by omega) h.1)
  ·rw [hst.2 j hj]
   exact Iff.rfl
 ·have hb' : b ∈ s.h.live.eraseIdx (lb s.h.live x.p) := by
   rw [← g4]
   exact hb
  rw [List.mem_eraseIdx_iff_getElem] at hb'
  obtain ⟨j, hj, hne, e⟩ := hb'
  refine ⟨by rw [← e]; exact gL hj, fun e2 => hne ?_⟩
  have hvs := hk.hk.vs
  rw [gN] at hvs
  rcases Nat.lt_trichotomy j (lb s.h.live x.p) with h | h | h
  ·have := hvs j _ hj hlb h
   rw [e] at this
   omega
  ·exact h
  ·have := hvs _ j hlb hj h
   rw [e] at this
   omega
theorem yE {s : Sy} {i k cpu : Nat} : (s.discard i k cpu).sig = s.sig := by
 unfold Sy.discard
 cases hc : s.cs[i]? with
 | none => rfl
 | some c =>
  simp only
  cases hx : c.sl[k]? with
  | none => rfl
  | some x =>
   simp only
   split
   ·exact jE hc rfl
   ·rfl
theorem Ij {s : Sy} {i k a : Nat} : (s.push i k a).sig = s.sig := by
 unfold Sy.push
 cases hc : s.cs[i]? with
 | none => rfl
 | some c =>
  simp only
  cases hx : c.sl[k]? with
  | none => rfl
  | some x => exact jE hc rfl
theorem Ti {s : Sy} {i k a cpu : Nat} : (s.free i k a cpu).sig = s.sig := by
 unfold Sy.free
 split
 ·exact yE.trans Ij
 ·exact Ij
theorem Ik {s : Sy} {i k cpu : Nat} : (s.discard i k cpu).nss = s.nss := tK yE
theorem Tj {s : Sy} {i k a cpu : Nat} : (s.free i k a cpu).nss = s.nss := tK Ti
end
section
def Ca.dD (c : Ca) (m : Nat) : Ca := { c with ac := List.replicate (min m c.ac.length) (-1) ++ c.ac.drop m }
def Sy.dD (s : Sy) (i m : Nat) : Sy := match s.cs[i]? with
 | some c => s.eU i (c.dD m)
 | none => s
def Sy.iF (s : Sy) (i k : Nat) : Sy := match s.cs[i]? with
 | some c => match c.sl[k]? with
  | some x => if x.n = c.r then s.discard i k 0 else s
  | none => s
 | none => s
def Sy.shr (s : Sy) (i : Nat) : Nat → Sy
 | 0 => s
 | m + 1 => (s.iF i m).shr i m
def Sy.shrink (s : Sy) (i : Nat) : Sy := match s.cs[i]? with
 | some c => (s.dD i c.ac.length).shr i c.sl.length
 | none => s
theorem OV (c : Ca) : (c.dD c.ac.length).ac = List.replicate c.ac.length (-1) := by
 unfold Ca.dD
 simp
theorem Ky (c : Ca) : c.dD 0 = c := by
 unfold Ca.dD
 simp
theorem Kz {c : Ca} {m : Nat} (hm : m < c.ac.length) : (c.dD m).ac.set m (-1) = (c.dD (m + 1)).ac := by
 unfold Ca.dD
 simp only
 rw [List.set_append_right _ _ (by simp; omega), List.length_replicate, Nat.min_eq_left (by omega), Nat.sub_self, Nat.min_eq_left (by omega), List.drop_eq_getElem_cons hm, gG, List.replicate_succ', List.append_assoc]
 rfl
theorem OW {c : Ca} {m : Nat} : (c.dD m).ac.length = c.ac.length := by
 unfold Ca.dD
 simp
 omega
theorem Il {s : Sy} {i m : Nat} {c : Ca} (hi : s.cs[i]? = some c) : s.dD i m = s.eU i (c.dD m) := by
 unfold Sy.dD
 rw [hi]
theorem dM.dD {s : Sy} (hk : dM s) {i : Nat} {c : Ca} (hi : s.cs[i]? = some c) :
  dM (s.dD i c.ac.length) ∧ (∀ j b, (s.dD i c.ac.length).away j b ↔ s.away j b) ∧ (s.dD i c.ac.length).h = s.h ∧ (s.dD i c.ac.length).cs = s.cs.set i { c with ac := List.replicate c.ac.length (-1) } ∧ (s.dD i c.ac.length).w = s.w := by
 have hck := hk.ck c (gM hi)
 have hu : c.dD c.ac.length = { c with ac := List.replicate c.ac.length (-1) } := by
  have h := OV c
  unfold Ca.dD at h ⊢
  simp only at h
  rw [h]
 rw [Il hi, hu]
 refine ⟨hk.upd hi (c' := { c with ac := List.replicate c.ac.length (-1) }) hk.wl hk.hk rfl rfl rfl ?_ (fun d hd => (hk.ck d hd).move rfl (fun y hy => ⟨((hk.ck d hd).sk y hy).live, ((hk.ck d hd).sk y hy).chain⟩)) (fun y hy => .inl ⟨y, hy, rfl⟩), fun j b => ?_, rfl, rfl, rfl⟩
 ·refine ⟨hck.z, hck.o, hck.r, hck.ns, hck.nm, hck.nr, by rw [List.length_replicate]; exact hck.ac, hck.sr, fun y hy => ⟨(hck.sk y hy).live, (hck.sk y hy).chain⟩, fun a ha => .inl (List.mem_replicate.1 ha).2, ?_⟩
  rw [gN]
  intro j l hj hl hjl _
  simp
 ·have hst := oI (s' := s.eU i { c with ac := List.replicate c.ac.length (-1) }) (c' := { c with ac := List.replicate c.ac.length (-1) }) hi rfl b
  by_cases hj : j = i
  ·subst hj
   rw [hst.1, lV hi]
   exact Iff.rfl
  ·rw [hst.2 j hj]
   exact Iff.rfl
def qM (s : Sy) (i m : Nat) : Prop := ∃ c, s.cs[i]? = some c ∧ (∀ b ∈ c.ac, b = -1) ∧ m ≤ c.sl.length
theorem dM.iF {s : Sy} (hk : dM s) {i k : Nat} (h : qM s i (k + 1)) :
  dM (s.iF i k) ∧ (∀ j b, (s.iF i k).away j b ↔ s.away j b) ∧ (s.iF i k).h.aF = s.h.aF ∧ qM (s.iF i k) i k ∧ (s.iF i k).cs.length = s.cs.length ∧ (s.iF i k).nss = s.nss := by
 obtain ⟨c, hc, ha, hl⟩ := h
 have hil := (List.getElem?_eq_some_iff.1 hc).1
 have hx : c.sl[k]? = some (c.sl[k]'(by omega)) := gJ _
 unfold Sy.iF
 rw [hc]
 simp only [hx]
 split
 ·rename_i hn
  have hcp : 0 < s.h.aF := hk.hk.cp.1
  obtain ⟨h1, h2, h3, h4, _, _⟩ := hk.discard (cpu := 0) hc hx (by omega) (fun b hb => by have := ha b hb; omega) hcp
  refine ⟨h1, h2, h3, ⟨{ c with sl := c.sl.eraseIdx k }, by rw [h4, List.getElem?_set_self hil], ha, ?_⟩, by rw [h4, List.length_set], Ik⟩
  show k ≤ (c.sl.eraseIdx k).length
  rw [List.length_eraseIdx_of_lt (by omega)]
  omega
 ·exact ⟨hk, fun j b => Iff.rfl, rfl, ⟨c, hc, ha, by omega⟩, rfl, rfl⟩
end
end Go.Proofs.YtcmpmobhongkiaaGreatDoor
