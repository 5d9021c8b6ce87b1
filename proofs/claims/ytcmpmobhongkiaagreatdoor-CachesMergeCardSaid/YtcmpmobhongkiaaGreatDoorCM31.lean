/- texts of this claim, joined. -/
import Derived.Test.YtcmpmobhongkiaaGreatDoorCM0
import Derived.Test.YtcmpmobhongkiaaGreatDoorCM28
import Derived.Test.YtcmpmobhongkiaaGreatDoorCM30
set_option linter.unusedVariables false
set_option linter.unusedSimpArgs false
namespace Go.Proofs.YtcmpmobhongkiaaGreatDoor
section
open Go.RowKit

section
variable {W W' W1 Wm We : World} {G : Nat} {X Y : Nat → Prop} {s s' : Sy} {v v' : Sc}
theorem SR.start {a : Option Addr} {n c : Nat} {xs : List Int} {h : Hp} {hc : Hc} (ho : W.ownsRow 0 3 1 (.slice a n c) n (xs.map vI)) (hr : HR W G X h hc) (hg : ∀ g, (Value.slice a n c).ownBlock = some g → g ≠ G ∧ ¬ X g ∧ ∀ q ∈ hc.rows h ++ hc.reads h, q.v.ownBlock ≠ some g) :
  SR W G X ⟨xs, h, []⟩ ⟨a, n, c, hc, none, 0, []⟩ := by
 have hn : ∀ g, (jR ⟨a, n, c, hc, none, 0, []⟩).v.ownBlock ≠ some g := fun g e => by cases e
 refine ⟨⟨fun r hr' => ?_, ?_⟩, fun r hr' g h1 => ?_, hr, fun r hr' q hq g h1 h2 => ?_, rfl⟩
 ·rcases List.mem_cons.1 hr' with rfl | hr'
  ·exact ho
  ·obtain rfl : r = jR ⟨a, n, c, hc, none, 0, []⟩ := by simpa using hr'
   exact World.ownsRow_nil _ _ _ _
 ·show [_, _].Pairwise _
  simp only [List.pairwise_cons, List.mem_singleton, forall_eq, List.not_mem_nil, false_imp_iff, implies_true, List.Pairwise.nil, and_true]
  exact fun g h1 h2 => hn g h2
 ·rcases List.mem_cons.1 hr' with rfl | hr'
  ·exact ⟨(hg g h1).1, (hg g h1).2.1⟩
  ·obtain rfl : r = jR ⟨a, n, c, hc, none, 0, []⟩ := by simpa using hr'
   exact absurd h1 (hn g)
 ·rcases List.mem_cons.1 hr' with rfl | hr'
  ·exact (hg g h1).2.2 q hq h2
  ·obtain rfl : r = jR ⟨a, n, c, hc, none, 0, []⟩ := by simpa using hr'
   exact absurd h1 (hn g)
theorem Ae {jI bm be ge n : Nat} {am : Option Addr} {cm : Nat} {xs : List Int} {h : Hp} {hc : Hc} (yJ : Wm.ownsRow bm 3 1 (.slice am n cm) n (xs.map vI)) (hse : HS We ge (fun k => k < be) h hc) (h1 : jI ≤ bm) (h2 : Wm.heap.size ≤ be) (h3 : Wm.heap.size ≤ We.heap.size) (h4 : jI ≤ be) (hbm : Below Wm.heap.size Wm W) (hbe : Below We.heap.size We W) (hG : jI ≤ G ∧ G < W.heap.size) (hg : G < bm ∨ (Wm.heap.size ≤ G ∧ G < be) ∨ We.heap.size ≤ G) (hg2 : G < be ∨ We.heap.size ≤ G) :
  SR W G (fun k => k < jI) ⟨xs, h, []⟩ ⟨am, n, cm, hc, none, 0, []⟩ := by
 have hr := hse.r.below hbe
 have hq : ∀ q ∈ hc.rows h ++ hc.reads h, ∀ k, q.v.ownBlock = some k → be ≤ k ∧ k < We.heap.size := fun q hq k e => by
  refine ⟨?_, hse.r.lt q hq k e⟩
  rcases List.mem_append.1 hq with hq | hq
  ·exact Nat.le_of_not_lt (hse.r.og q hq k e).2
  ·exact Nat.le_of_not_lt (hse.r.rx q hq k e)
 refine SR.start (own_base (own_below yJ hbm (Nat.le_refl _)) (Nat.zero_le _)) (hr.any hG.2 (fun q h k e => ?_) (fun k hk => by omega) (by omega)) fun g e => ?_
 ·have := hq q h k e
  omega
 ·have := yJ.lt g e
  refine ⟨by omega, by omega, fun q h e' => ?_⟩
  have := hq q h g e'
  omega
theorem SS.put7 (hr : SR W G X s v) {a0 a1 a2 a3 a4 a5 a6 : Value} (K : ∀ o, W.cell? ⟨G, o, none⟩ = (#[a0, a1, a2, a3, a4, a5, a6] : Array Value)[o]?) (F : ∀ o, W.frozen? ⟨G, o, none⟩ = false) :
  SS (((((((W.setCell ⟨G, 0, none⟩ (.slice v.a1 v.n1 v.c1)).setCell ⟨G, 1, none⟩ (.slice v.hc.az 2 v.hc.cz)).setCell ⟨G, 2, none⟩ (.slice v.hc.am 2 v.hc.cm)).setCell ⟨G, 3, none⟩ (.int .i64 (s.h.aF : Int))).setCell ⟨G, 4, none⟩ (.slice v.hc.al v.hc.lc.length v.hc.cl)).setCell ⟨G, 5, none⟩ (.slice v.hc.av s.h.live.length v.hc.cv)).setCell ⟨G, 6, none⟩ (.slice v.a2 v.ys.length v.c2)) G X s v := by
 have F0 := aH F ⟨G, 0, none⟩ (.slice v.a1 v.n1 v.c1)
 have F1 := aH F0 ⟨G, 1, none⟩ (.slice v.hc.az 2 v.hc.cz)
 have F2 := aH F1 ⟨G, 2, none⟩ (.slice v.hc.am 2 v.hc.cm)
 have F3 := aH F2 ⟨G, 3, none⟩ (.int .i64 (s.h.aF : Int))
 have F4 := aH F3 ⟨G, 4, none⟩ (.slice v.hc.al v.hc.lc.length v.hc.cl)
 have F5 := aH F4 ⟨G, 5, none⟩ (.slice v.hc.av s.h.live.length v.hc.cv)
 have F6 := aH F5 ⟨G, 6, none⟩ (.slice v.a2 v.ys.length v.c2)
 have K0 := aG K 0 (.slice v.a1 v.n1 v.c1)
 have K1 := aG K0 1 (.slice v.hc.az 2 v.hc.cz)
 have K2 := aG K1 2 (.slice v.hc.am 2 v.hc.cm)
 have K3 := aG K2 3 (.int .i64 (s.h.aF : Int))
 have K4 := aG K3 4 (.slice v.hc.al v.hc.lc.length v.hc.cl)
 have K5 := aG K4 5 (.slice v.hc.av s.h.live.length v.hc.cv)
 have K6 := aG K5 6 (.slice v.a2 v.ys.length v.c2)
 simp only [gE, gG, gH] at K6
 exact ⟨((((((hr.lS 0 _).lS 1 _).lS 2 _).lS 3 _).lS 4 _).lS 5 _).lS 6 _, K6, F6⟩
end

theorem yN : (Tryz.prog.info? 94).map (fun i => (i.zero, i.size, i.bytes)) = some (some (.agg #[.slice none 0 0, .int .i64 0, .int .i64 0, .int .i64 0, .slice none 0 0, .slice none 0 0]), 6, 96) := by kernel_rfl
set_option maxHeartbeats 8000000 in
set_option maxRecDepth 100000 in
theorem Gs (v : Sc) (s : Sy) (w : World) (hs : rP w v s) (hk : fC s) (hf : ∀ c ∈ s.cs, c.ns.length ≤ 1000) :
  Calls Tryz.prog 39 #[.agg #[.slice v.a1 v.n1 v.c1, .slice v.hc.az 2 v.hc.cz, .slice v.hc.am 2 v.hc.cm, .int .i64 (s.h.aF : Int), .slice v.hc.al v.hc.lc.length v.hc.cl, .slice v.hc.av s.h.live.length v.hc.cv, .slice v.a2 v.ys.length v.c2]] w fun ev w' => ∃ v', ev = .returned (.agg (v'.vals s)) ∧ kH w' w.heap.size s v' ∧ Below w.heap.size w w' := by
 obtain ⟨K1, K2, F1, F2, hsz, hbw⟩ := boxes2 w #[.slice v.a1 v.n1 v.c1, .slice v.hc.az 2 v.hc.cz, .slice v.hc.am 2 v.hc.cm, .int .i64 (s.h.aF : Int), .slice v.hc.al v.hc.lc.length v.hc.cl, .slice v.hc.av s.h.live.length v.hc.cv, .slice v.a2 v.ys.length v.c2] 47 #[.slice none 0 0, .slice none 0 0, .slice none 0 0, .int .i64 0, .slice none 0 0, .slice none 0 0, .slice none 0 0] 47
 have HLW := gO hs.lw
 have hn1 : v.n1 ≤ 4096 := by rw [← hs.lw, hk.wl]; omega
 have HS := gO hs
 have HK := gO hk
 have HHK := gO hk.hk
 have HB1 := gO hbw
 have DZ : s.h.live.length ≤ 1000 := gQ hk.hk.oI (by decide)
 have hyl : v.ys.length ≤ 20 := by have := congrArg List.length hs.cy; rw [List.length_map] at this; rw [this]; exact hk.cl
 have ZK : Hid (((w.alloc (.cells #[.slice v.a1 v.n1 v.c1, .slice v.hc.az 2 v.hc.cz, .slice v.hc.am 2 v.hc.cm, .int .i64 (s.h.aF : Int), .slice v.hc.al v.hc.lc.length v.hc.cl, .slice v.hc.av s.h.live.length v.hc.cv, .slice v.a2 v.ys.length v.c2] 47)).alloc (.cells #[.slice none 0 0, .slice none 0 0, .slice none 0 0, .int .i64 0, .slice none 0 0, .slice none 0 0, .slice none 0 0] 47)).heap.size = w.heap.size + 2) := by unfold Hid; simp
 clear hs hk
 go_enter Tryz.func39, Tryz.ntmps39
 go_upto_region 1 with fail
 generalize (w.alloc (.cells #[.slice v.a1 v.n1 v.c1, .slice v.hc.az 2 v.hc.cz, .slice v.hc.am 2 v.hc.cm, .int .i64 (s.h.aF : Int), .slice v.hc.al v.hc.lc.length v.hc.cl, .slice v.hc.av s.h.live.length v.hc.cv, .slice v.a2 v.ys.length v.c2] 47)).alloc (.cells #[.slice none 0 0, .slice none 0 0, .slice none 0 0, .int .i64 0, .slice none 0 0, .slice none 0 0, .slice none 0 0] 47) = w1 at *
 have q1 : Row w1 v.a1 (flat encI s.w) := by rw [kR]; exact (HS.out.below HB1.out).rw
 have HHH := gO (HS.out.below HB1.out).hh
 have LK0 : ∀ W, Below w1.heap.size w1 W → ∀ o, W.cell? ⟨w.heap.size, o, none⟩ = (#[.slice v.a1 v.n1 v.c1, .slice v.hc.az 2 v.hc.cz, .slice v.hc.am 2 v.hc.cm, .int .i64 (s.h.aF : Int), .slice v.hc.al v.hc.lc.length v.hc.cl, .slice v.hc.av s.h.live.length v.hc.cv, .slice v.a2 v.ys.length v.c2] : Array Value)[o]? := fun W h o => aC K1 (by omega) h o
 go_cut [3] (fun s3 wx => ∃ (g : Nat) (a1' : Option Addr) (c1' : Nat) (hc' : Hc), s3 = .pointer (some ⟨g, 0, none⟩) ∧ Hid (SS wx g (fun k => k < w1.heap.size) { s with cs := [] } ⟨a1', v.n1, c1', hc', none, 0, []⟩) ∧ Hid (Below w1.heap.size w1 wx))
 case first =>
  go_region_held3 (fun W => Below w1.heap.size w1 W) ((repeat (first | with_reducible assumption | with_reducible exact Below.refl _ _ | with_reducible refine Below.setCell ?_ ?_ _ | with_reducible apply Below.drew | with_reducible refine Below.step ?_ (aB _ _) | with_reducible refine Below.step ?_ (by with_reducible assumption) | (simp only; omega)))) (first | (go_at_call 85; refine (Qp _ v.n1 _ s.w _ HLW.out (by omega) (q1.below (by assumption))).mono ?_; rintro e wm ⟨ND, NG, rfl, yJ, hbm⟩; (try ((have hx : Below ((w1.alloc (.cells (#[.slice none 0 0, .slice none 0 0, .slice none 0 0, .int .i64 0, .slice none 0 0, .slice none 0 0, .slice none 0 0] : Array Value) 47)).drew).heap.size ((w1.alloc (.cells (#[.slice none 0 0, .slice none 0 0, .slice none 0 0, .int .i64 0, .slice none 0 0, .slice none 0 0, .slice none 0 0] : Array Value) 47)).drew) wm := by with_reducible exact hbm); have KA := aC (w1 := ((w1.alloc (.cells (#[.slice none 0 0, .slice none 0 0, .slice none 0 0, .int .i64 0, .slice none 0 0, .slice none 0 0, .slice none 0 0] : Array Value) 47)).drew)) (vs := #[.slice none 0 0, .slice none 0 0, .slice none 0 0, .int .i64 0, .slice none 0 0, .slice none 0 0, .slice none 0 0]) (fun o => bC w1 #[.slice none 0 0, .slice none 0 0, .slice none 0 0, .int .i64 0, .slice none 0 0, .slice none 0 0, .slice none 0 0] 47 o) (show w1.heap.size < ((w1.alloc (.cells (#[.slice none 0 0, .slice none 0 0, .slice none 0 0, .int .i64 0, .slice none 0 0, .slice none 0 0, .slice none 0 0] : Array Value) 47)).drew).heap.size by simp) hx; have FA := aJ (w1 := ((w1.alloc (.cells (#[.slice none 0 0, .slice none 0 0, .slice none 0 0, .int .i64 0, .slice none 0 0, .slice none 0 0, .slice none 0 0] : Array Value) 47)).drew)) (fun o => eH w1 #[.slice none 0 0, .slice none 0 0, .slice none 0 0, .int .i64 0, .slice none 0 0, .slice none 0 0, .slice none 0 0] 47 o) (show w1.heap.size < ((w1.alloc (.cells (#[.slice none 0 0, .slice none 0 0, .slice none 0 0, .int .i64 0, .slice none 0 0, .slice none 0 0, .slice none 0 0] : Array Value) 47)).drew).heap.size by simp) hx; have SA : w1.heap.size < wm.heap.size := gI (show w1.heap.size < ((w1.alloc (.cells (#[.slice none 0 0, .slice none 0 0, .slice none 0 0, .int .i64 0, .slice none 0 0, .slice none 0 0, .slice none 0 0] : Array Value) 47)).drew).heap.size by simp) hx.size)); (first | have SM : w1.heap.size ≤ wm.heap.size := gR SA | have SM : w1.heap.size ≤ wm.heap.size := hbm.size)) | (go_at_call 86; refine (zV _ _ _ _ v.hc.cz v.hc.cm v.hc.cl v.hc.cv _ _ _ _ _ s.h _ (HHH.out.below (by assumption)) HHK.out DZ).mono ?_; rintro e we ⟨ge, hc', he, hse, hge, hbe⟩; unfold Hc.vals at he; subst he; (try first | (have KB := aC KA SA hbe; have FB := aJ FA SA hbe) | ((have hx : Below (wm.alloc (.cells (#[.slice none 0 0, .slice none 0 0, .slice none 0 0, .int .i64 0, .slice none 0 0, .slice none 0 0, .slice none 0 0] : Array Value) 47)).heap.size (wm.alloc (.cells (#[.slice none 0 0, .slice none 0 0, .slice none 0 0, .int .i64 0, .slice none 0 0, .slice none 0 0, .slice none 0 0] : Array Value) 47)) we := by with_reducible exact hbe); have KB := aC (w1 := (wm.alloc (.cells (#[.slice none 0 0, .slice none 0 0, .slice none 0 0, .int .i64 0, .slice none 0 0, .slice none 0 0, .slice none 0 0] : Array Value) 47))) (vs := #[.slice none 0 0, .slice none 0 0, .slice none 0 0, .int .i64 0, .slice none 0 0, .slice none 0 0, .slice none 0 0]) (fun o => bC wm #[.slice none 0 0, .slice none 0 0, .slice none 0 0, .int .i64 0, .slice none 0 0, .slice none 0 0, .slice none 0 0] 47 o) (show wm.heap.size < (wm.alloc (.cells (#[.slice none 0 0, .slice none 0 0, .slice none 0 0, .int .i64 0, .slice none 0 0, .slice none 0 0, .slice none 0 0] : Array Value) 47)).heap.size by simp) hx; have FB := aJ (w1 := (wm.alloc (.cells (#[.slice none 0 0, .slice none 0 0, .slice none 0 0, .int .i64 0, .slice none 0 0, .slice none 0 0, .slice none 0 0] : Array Value) 47))) (fun o => eH wm #[.slice none 0 0, .slice none 0 0, .slice none 0 0, .int .i64 0, .slice none 0 0, .slice none 0 0, .slice none 0 0] 47 o) (show wm.heap.size < (wm.alloc (.cells (#[.slice none 0 0, .slice none 0 0, .slice none 0 0, .int .i64 0, .slice none 0 0, .slice none 0 0, .slice none 0 0] : Array Value) 47)).heap.size by simp) hx))))
  all_goals (go_wp2_with fail; go_meet)
  ·rw [kR] at yJ
   have hsr := Ae (W := we.alloc (.cells #[.slice ND v.n1 NG, .slice hc'.az 2 hc'.cz, .slice hc'.am 2 hc'.cm, .int .i64 (s.h.aF : Int), .slice hc'.al hc'.lc.length hc'.cl, .slice hc'.av s.h.live.length hc'.cv, .slice none 0 0] 47)) (G := we.heap.size) (jI := w1.heap.size) yJ hse (Nat.le_refl _) (Nat.le_refl _) hbe.size SM (Below.step hbe (aB _ _)) (aB _ _) ⟨gQ SM hbe.size, by simp⟩ (.inr (.inr (Nat.le_refl _))) (.inr (Nat.le_refl _))
   exact ⟨we.heap.size, ND, NG, hc', rfl, ⟨hsr, bC _ _ _, eH _ _ _⟩, by assumption⟩
  ·rw [kR] at yJ
   have hs := hbe.size
   simp at hs
   have hsr := Ae (W := we) (G := wm.heap.size) (jI := w1.heap.size) yJ hse (Nat.le_refl _) (by simp) (by omega) (by simp; omega) (Below.step (aB _ _) hbe) (Below.refl _ _) ⟨SM, by omega⟩ (.inr (.inl ⟨Nat.le_refl _, by simp⟩)) (.inl (by simp))
   have hfin := SS.put7 hsr KB FB
   refine ⟨wm.heap.size, ND, NG, hc', rfl, ?_, by assumption⟩
   exact hfin
  ·rw [kR] at yJ
   have hs := hbe.size
   have hsr := Ae (W := we) (G := w1.heap.size) (jI := w1.heap.size) yJ hse (by simp) (Nat.le_refl _) hbe.size SM hbe (Below.refl _ _) ⟨Nat.le_refl _, by omega⟩ (.inl (by simp)) (.inl SA)
   have hfin := SS.put7 hsr KB FB
   refine ⟨w1.heap.size, ND, NG, hc', rfl, ?_, by assumption⟩
   exact hfin
 case rest =>
  obtain ⟨g, a1', c1', hc', rfl, Xi, lI⟩ := hcut
  clear q1
  have K2h := gO K2
  have F2h := gO F2
  have k6 := LK0 wc lI.out 6
  have LKH := gO LK0
  simp only [gB, gC, gD] at k6
  clear LK0 K1 K2 F1 F2 hbw
  have aCO := lI.out.size
  have hBw : w.heap.size < wc.heap.size := by have := ZK.out; omega
  go_wp2_with fail
  clear k6
  go_loopw [16] (fun s16 wr => ∃ (i : Nat) (vi : Sc), i ≤ v.ys.length ∧ s16 = .int .i64 (i : Int) ∧ vi.ys.length = i ∧ Hid (SS wr g (fun k => k < w1.heap.size) { s with cs := s.cs.take i } vi) ∧ Hid (Below w1.heap.size w1 wr)) (fun s16 _ => v.ys.length - (intOf s16).toNat)
  case atStart => exact ⟨0, _, Nat.zero_le _, rfl, rfl, Xi, lI⟩
  case round =>
   obtain ⟨i, vi, hi, rfl, Yp, jG, lM⟩ := hrel
   clear Xi lI
   subst Yp
   by_cases hlt : vi.ys.length < v.ys.length
   ·have Jc : (vi.ys.length : Int) < v.ys.length := by omega
    have hA := HS.out.below (Below.trans HB1.out (lM.out.mono (HB1.out.size)))
    obtain ⟨bb, off, hba, hbb, hbc⟩ := aN cZ (by decide) hA.rc hlt
    obtain ⟨e0, e1, e2, e3, e4, e5⟩ := mZ hbc
    have hic : vi.ys.length < s.cs.length := by rw [← HS.out.cy, List.length_map]; exact hlt
    have hel : v.ys[vi.ys.length].c = s.cs[vi.ys.length] := by
     have h1 := congrArg (·[vi.ys.length]?) HS.out.cy
     simp [hlt, hic] at h1
     exact h1
    have hcy := hA.ca _ (gL hlt)
    have hn1' : v.ys[vi.ys.length].c.ns.length ≤ 1000 := by rw [hel]; exact hf _ (gL hic)
    have aC0 : v.ys[vi.ys.length].c.sl.length ≤ 256 := by rw [hel]; exact (HK.out.ck _ (gL hic)).kT HK.out.hk
    have Ua : v.ys[vi.ys.length].c.ac.length ≤ 4 := by rw [hel, (HK.out.ck _ (gL hic)).ac]; exact HK.out.hk.cp.2
    obtain ⟨y, hy⟩ : ∃ y, v.ys[vi.ys.length] = y := ⟨_, rfl⟩
    rw [hy] at e0 e1 e2 e3 e4 e5 hcy hel hn1' aC0 Ua
    have HEL := gO hel
    have AP := gO hcy
    have Xk : w1.heap.size ≤ wr.heap.size := lM.out.size
    rw [hba]
    clear hbc hba hel hA hy hcy hbb
    go_upto_region 5 with fail
    obtain ⟨E1, EF1, DY, o7⟩ := boxes1 wr #[.slice y.a1 y.n1 y.c1, .int .i64 (y.c.z : Int), .int .i64 (y.c.r : Int), .int .i64 (y.c.o : Int), .slice y.a2 y.n2 y.c2, .slice y.a3 y.n3 y.c3] 94
    have HS5 := gO (jG.out.new o7)
    have HB5 := gO (Below.step lM.out o7)
    have HC5 := gO (AP.out.below o7)
    clear e0 e1 e2 e3 e4 e5
    have e0 := E1 0
    have e4 := E1 4
    have e5 := E1 5
    simp only [gB, gC, gD] at e0 e4 e5
    have HE := gO E1
    have HEF := gO EF1
    clear E1 EF1 o7 AP jG lM
    generalize wr.alloc (.cells #[.slice y.a1 y.n1 y.c1, .int .i64 (y.c.z : Int), .int .i64 (y.c.r : Int), .int .i64 (y.c.o : Int), .slice y.a2 y.n2 y.c2, .slice y.a3 y.n3 y.c3] 94) = w5 at *
    generalize wr.heap.size = T7 at *
    have hd5 := (Below.refl w5.heap.size w5).drew
    have HR1 : Hid (Row w5.drew y.a1 (flat encS y.c.ns)) := HC5.out.r1.below hd5
    have HR2 : Hid (Row w5.drew y.a2 (flat aX y.c.sl)) := HC5.out.r2.below hd5
    have HR3 : Hid (Row w5.drew y.a3 (flat encI y.c.ac)) := by
     unfold Hid
     rw [kR]
     exact HC5.out.r3.below hd5
    have hl1 := HC5.out.l1
    have hl2 := HC5.out.l2
    have hl3 := HC5.out.l3
    have hb1 : y.n1 * 16 ≤ 140737488355328 := by omega
    have hb2 : y.n2 * 24 ≤ 140737488355328 := by omega
    have hb3 : y.n3 * 8 ≤ 140737488355328 := by omega
    have HL1 := gO hl1
    have HL2 := gO hl2
    have HL3 := gO hl3
    have HD5 := gO hd5
    have HED := gO (aC HE.out DY hd5)
    have Yq := gO (aJ HEF.out DY hd5)
    have Ub : T7 < w5.drew.heap.size := DY
    clear hl1 hl2 hl3 hd5
    go_cut [29] (fun s29 wx => ∃ (EN EO EP : Option Addr) (ER ES ET : Nat), Hid (SS wx g (fun k => k < w1.heap.size ∨ T7 ≤ k ∧ k < w5.heap.size) { s with cs := s.cs.take vi.ys.length } vi) ∧ Hid (dA wx 0 (nS (⟨EN, y.n1, ER, EO, y.n2, ES, EP, y.n3, ET, y.c⟩ : Cc) :: kS (⟨EN, y.n1, ER, EO, y.n2, ES, EP, y.n3, ET, y.c⟩ : Cc) :: mQ (⟨EN, y.n1, ER, EO, y.n2, ES, EP, y.n3, ET, y.c⟩ : Cc) :: vi.rows { s with cs := s.cs.take vi.ys.length })) ∧ Hid (∀ r ∈ eU (⟨EN, y.n1, ER, EO, y.n2, ES, EP, y.n3, ET, y.c⟩ : Cc), ∀ b, r.v.ownBlock = some b → vi.fr { s with cs := s.cs.take vi.ys.length } g (fun k => k < w1.heap.size ∨ T7 ≤ k ∧ k < w5.heap.size) b) ∧ Hid (∀ o, wx.cell? ⟨T7, o, none⟩ = (#[.slice EN y.n1 ER, .int .i64 (y.c.z : Int), .int .i64 (y.c.r : Int), .int .i64 (y.c.o : Int), .slice EO y.n2 ES, .slice EP y.n3 ET] : Array Value)[o]?) ∧ T7 < wx.heap.size ∧ Hid (Below w1.heap.size w1 wx))
    case first =>
     go_region_law (first | (go_simp; go_at_call 87; refine (cloneS y.a1 y.n1 y.c1 y.c.ns _ HL1.out hb1 HR1.out).mono ?_; rintro ev wa ⟨EN, ER, rfl, hoa, hba⟩; have KA := aC HED.out Ub hba; have FA := aJ Yq.out Ub hba; have SA := gI Ub hba.size; have ka4 := KA 4; have ka5 := KA 5; simp only [gB, gC, gD] at ka4 ka5) | (go_simp; go_at_call 88; refine (TU y.a2 y.n2 y.c2 y.c.sl _ HL2.out hb2 (HR2.out.below hba)).mono ?_; rintro ev wb ⟨EO, ES, rfl, hob, hbb⟩; have KB := aC KA SA hbb; have FB := aJ FA SA hbb; have SB := gI SA hbb.size; have kb5 := KB 5; simp only [gB, gC, gD] at kb5) | (go_simp; go_at_call 85; refine (Qp y.a3 y.n3 y.c3 y.c.ac _ HL3.out hb3 (HR3.out.below (Below.step hba hbb))).mono ?_; rintro ev wc' ⟨EP, ET, rfl, hoc, hbc⟩; have KC := aC KB SB hbc; have FC := aJ FB SB hbc; have SC := gI SB hbc.size; have fc0 := FC 0; have fc4 := FC 4; have fc5 := FC 5; have kc0 := KC 0; have kc4 := KC 4; have kc5 := KC 5; simp only [gB, gC, gD] at kc0 kc4 kc5))
     all_goals
      have KX := aG (aG (aG KC 0 (.slice EN y.n1 ER)) 4 (.slice EO y.n2 ES)) 5 (.slice EP y.n3 ET)
      simp only [gE, gG, gH] at KX
      have aC1 := Below.step HD5.out (Below.step hba (Below.step hbb hbc))
      have lI := Below.setCell (Below.setCell (Below.setCell (Below.step HB5.out aC1) (show w1.heap.size ≤ (⟨T7, 0, none⟩ : Addr).block from Xk) (.slice EN y.n1 ER)) (show w1.heap.size ≤ (⟨T7, 4, none⟩ : Addr).block from Xk) (.slice EO y.n2 ES)) (show w1.heap.size ≤ (⟨T7, 5, none⟩ : Addr).block from Xk) (.slice EP y.n3 ET)
      have hsx : T7 < (((wc'.setCell ⟨T7, 0, none⟩ (.slice EN y.n1 ER)).setCell ⟨T7, 4, none⟩ (.slice EO y.n2 ES)).setCell ⟨T7, 5, none⟩ (.slice EP y.n3 ET)).heap.size := by simp; exact SC
      obtain ⟨t1, t2, t3⟩ := HS5.out.three (y := (⟨EN, y.n1, ER, EO, y.n2, ES, EP, y.n3, ET, y.c⟩ : Cc)) (.inr ⟨Nat.le_refl _, DY⟩) HD5.out hba hbb hbc hoa hob hoc 0 4 5 (.slice EN y.n1 ER) (.slice EO y.n2 ES) (.slice EP y.n3 ET)
      clear kc0 kc4 kc5 ka4 ka5 kb5 fc0 fc4 fc5 e0 e4 e5
      go_wp2_with fail
      go_meet
      exact ⟨EN, EO, EP, ER, ES, ET, t1, t2, t3, KX, hsx, lI⟩
    case rest =>
     clear HE HEF HR1 HR2 HR3 hb1 hb2 hb3 HL1 HL2 HL3 HD5 HED Yq Ub e0 e4 e5 HS5 HB5 HC5
     obtain ⟨EN, EO, EP, ER, ES, ET, Uc, HOx, HFx, Xl, hsx, HBx⟩ := hcut
     have k6 := Uc.out.k 6
     have q0 := Xl.out 0
     have q1 := Xl.out 1
     have q2 := Xl.out 2
     have q3 := Xl.out 3
     have q4 := Xl.out 4
     have q5 := Xl.out 5
     unfold Sc.vals at k6
     simp only [gB, gC, gD] at k6 q0 q1 q2 q3 q4 q5
     have ba := aB wc (.cells #[.slice EN y.n1 ER, .int .i64 (y.c.z : Int), .int .i64 (y.c.r : Int), .int .i64 (y.c.o : Int), .slice EO y.n2 ES, .slice EP y.n3 ET] 94)
     have H8 := gO (Uc.out.below ba)
     have HO8 := gO (HOx.out.below ba)
     have hnw := (World.news_of_block (heap_alloc_new wc (.cells #[.slice EN y.n1 ER, .int .i64 (y.c.z : Int), .int .i64 (y.c.r : Int), .int .i64 (y.c.o : Int), .slice EO y.n2 ES, .slice EP y.n3 ET] 94)))
     have NH := gO hnw
     have HB8 := gO (Below.step HBx.out ba)
     obtain ⟨ti, hti, htz, hts, htb⟩ := info_parts yN
     have SH : Hid ((jR vi).v.ownBlock ≠ some g) := fun e => (H8.out.r.og _ (dS vi _) g e).1 rfl
     have ZU : (jR vi).on (wc.alloc (.cells #[.slice EN y.n1 ER, .int .i64 (y.c.z : Int), .int .i64 (y.c.r : Int), .int .i64 (y.c.o : Int), .slice EO y.n2 ES, .slice EP y.n3 ET] 94)) 0 := H8.out.r.own.each _ (dS vi _)
     have ZV := gO ZU
     have hgs := Uc.out.r.hr.gs
     have hvl : vi.ys.length ≤ 20 := by omega
     have aG8 : w1.heap.size ≤ wc.heap.size := HBx.out.size
     clear hnw ba Xl Uc HOx HBx ZU
     go_wp2_with (at_builtin; refine wpList_append_lies _ rfl _ _ 45 rfl 0 94 ti (.agg #[.slice none 0 0, .int .i64 0, .int .i64 0, .int .i64 0, .slice none 0 0, .slice none 0 0]) 6 96 Tryz.underlying45 hti htz hts htb rfl (by decide) (.slice vi.a2 vi.ys.length vi.c2) vi.ys.length (flat bV vi.ys) rfl ZV.out ⟨wc.heap.size, 0, none⟩ 1 1 [.slice EN y.n1 ER, .int .i64 (y.c.z : Int), .int .i64 (y.c.r : Int), .int .i64 (y.c.o : Int), .slice EO y.n2 ES, .slice EP y.n3 ET] rfl rfl NH.out (by simp [Value.oneCell']) (by decide) (by unfold maxLen; omega) (by omega) (Nat.zero_le _) _ rfl ?_; intro g9 cap9 w9 ho9 hg9 hl9 TT; have q9 := (bH H8.out.k H8.out.r.hr.gs hg9 (fun e => SH.out e.symm) 6).trans (show _ = some (.slice vi.a2 vi.ys.length vi.c2) from rfl); have f9 := bI H8.out.fz H8.out.r.hr.gs hg9 (fun e => SH.out e.symm) 6)
     obtain ⟨hs9, sf9⟩ := H8.out.Zg (y := (⟨EN, y.n1, ER, EO, y.n2, ES, EP, y.n3, ET, y.c⟩ : Cc)) HO8.out HFx.out hg9 (by rw [aT, fF]; exact ho9) (by
      rcases hl9 with h1 | h1
      ·exact .inl h1
      ·exact .inr (Nat.le_of_eq h1.symm))
     have ZW : s.cs.take vi.ys.length ++ [y.c] = s.cs.take (vi.ys.length + 1) := by
      rw [List.take_succ_eq_append_getElem hic, HEL.out]
     simp only [ZW] at hs9
     have HS9 := gO (hs9.sub (Y := fun k => k < w1.heap.size) fun k hk => .inl hk)
     have hgb : w1.heap.size ≤ g := Nat.le_of_not_lt fun h => H8.out.r.hr.xg (.inl h)
     have HB9 : Hid (Below w1.heap.size w1 (w9.setCell ⟨g, 6, none⟩ (.slice (some ⟨g9, 0, none⟩) (vi.ys.length + 1) cap9))) := Below.setCell (Below.grown HB8.out hg9 HB8.out.size (fun k hk => Nat.le_of_not_lt fun h => (H8.out.r.og _ (dS vi _) k hk).2 (.inl h))) (show w1.heap.size ≤ (⟨g, 6, none⟩ : Addr).block from hgb) (.slice (some ⟨g9, 0, none⟩) (vi.ys.length + 1) cap9)
     clear hs9 sf9 ZW ho9 hg9 hl9 H8 HO8 NH HB8 SH ZV HFx q9 f9 TT
     go_roundw
     case rel => exact ⟨vi.ys.length + 1, _, by omega, by go_num, by simp, HS9, HB9⟩
     case measure => simp [intOf]; omega
   ·have hie : vi.ys.length = v.ys.length := by omega
    have HS9 : Hid (SS wr g (fun k => k < w1.heap.size) s vi) := by
     have h1 := jG.out
     rw [hie, List.take_of_length_le (by rw [← HS.out.cy, List.length_map]; exact Nat.le_refl _)] at h1
     exact h1
    have x0 := HS9.out.k 0
    have x1 := HS9.out.k 1
    have x2 := HS9.out.k 2
    have x3 := HS9.out.k 3
    have x4 := HS9.out.k 4
    have x5 := HS9.out.k 5
    have x6 := HS9.out.k 6
    unfold Sc.vals at x0 x1 x2 x3 x4 x5 x6
    have xY := aC K2h.out hsz lM.out
    have F2r := aJ F2h.out hsz lM.out
    have y0 := xY 0
    have y1 := xY 1
    have y2 := xY 2
    have y3 := xY 3
    have y4 := xY 4
    have y5 := xY 5
    have y6 := xY 6
    obtain ⟨f0, f1, f2, f3, f4, f5, f6⟩ := gF7 F2r
    simp only [gB, gC, gD] at x0 x1 x2 x3 x4 x5 x6 y0 y1 y2 y3 y4 y5 y6
    have KX := (aG (aG (aG (aG (aG (aG (aG xY 0 (.slice vi.a1 vi.n1 vi.c1)) 1 (.slice vi.hc.az 2 vi.hc.cz)) 2 (.slice vi.hc.am 2 vi.hc.cm)) 3 (.int .i64 (s.h.aF : Int))) 4 (.slice vi.hc.al vi.hc.lc.length vi.hc.cl)) 5 (.slice vi.hc.av s.h.live.length vi.hc.cv)) 6 (.slice vi.a2 vi.ys.length vi.c2))
    simp only [gE, gG, gH] at KX
    have qJ := gO (((((((HS9.out.dZ hsz 0 (.slice vi.a1 vi.n1 vi.c1)).dZ hsz 1 (.slice vi.hc.az 2 vi.hc.cz)).dZ hsz 2 (.slice vi.hc.am 2 vi.hc.cm)).dZ hsz 3 (.int .i64 (s.h.aF : Int))).dZ hsz 4 (.slice vi.hc.al vi.hc.lc.length vi.hc.cl)).dZ hsz 5 (.slice vi.hc.av s.h.live.length vi.hc.cv)).dZ hsz 6 (.slice vi.a2 vi.ys.length vi.c2))
    have hle1 : w.heap.size ≤ w.heap.size + 1 := Nat.le_succ _
    have HBX2 := gO (Below.setCell (Below.setCell (Below.setCell (Below.setCell (Below.setCell (Below.setCell (Below.setCell (Below.trans HB1.out (lM.out.mono (HB1.out.size))) (show w.heap.size ≤ (⟨w.heap.size + 1, 0, none⟩ : Addr).block from hle1) (.slice vi.a1 vi.n1 vi.c1)) (show w.heap.size ≤ (⟨w.heap.size + 1, 1, none⟩ : Addr).block from hle1) (.slice vi.hc.az 2 vi.hc.cz)) (show w.heap.size ≤ (⟨w.heap.size + 1, 2, none⟩ : Addr).block from hle1) (.slice vi.hc.am 2 vi.hc.cm)) (show w.heap.size ≤ (⟨w.heap.size + 1, 3, none⟩ : Addr).block from hle1) (.int .i64 (s.h.aF : Int))) (show w.heap.size ≤ (⟨w.heap.size + 1, 4, none⟩ : Addr).block from hle1) (.slice vi.hc.al vi.hc.lc.length vi.hc.cl)) (show w.heap.size ≤ (⟨w.heap.size + 1, 5, none⟩ : Addr).block from hle1) (.slice vi.hc.av s.h.live.length vi.hc.cv)) (show w.heap.size ≤ (⟨w.heap.size + 1, 6, none⟩ : Addr).block from hle1) (.slice vi.a2 vi.ys.length vi.c2))
    have hnlt : ¬ (vi.ys.length : Int) < v.ys.length := by omega
    clear hie xY F2r hlt
    go_wp2
    generalize ((((((wr.setCell ⟨w.heap.size + 1, 0, none⟩ (.slice vi.a1 vi.n1 vi.c1)).setCell ⟨w.heap.size + 1, 1, none⟩ (.slice vi.hc.az 2 vi.hc.cz)).setCell ⟨w.heap.size + 1, 2, none⟩ (.slice vi.hc.am 2 vi.hc.cm)).setCell ⟨w.heap.size + 1, 3, none⟩ (.int .i64 (s.h.aF : Int))).setCell ⟨w.heap.size + 1, 4, none⟩ (.slice vi.hc.al vi.hc.lc.length vi.hc.cl)).setCell ⟨w.heap.size + 1, 5, none⟩ (.slice vi.hc.av s.h.live.length vi.hc.cv)).setCell ⟨w.heap.size + 1, 6, none⟩ (.slice vi.a2 vi.ys.length vi.c2) = wx at *
    refine bodyPost_ret (v := .agg #[.slice vi.a1 vi.n1 vi.c1, .slice vi.hc.az 2 vi.hc.cz, .slice vi.hc.am 2 vi.hc.cm, .int .i64 (s.h.aF : Int), .slice vi.hc.al vi.hc.lc.length vi.hc.cl, .slice vi.hc.av s.h.live.length vi.hc.cv, .slice vi.a2 vi.ys.length vi.c2]) (by simp [results, Tryz.results39, go_sem, KX]) rfl ⟨vi, rfl, qJ.out.r.toX (by have := HB1.out.size; show w.heap.size < w1.heap.size; omega) (fun k hk => by have := HB1.out.size; exact gI hk this) (Nat.lt_irrefl _), HBX2.out⟩
end
section
open Go.RowKit

set_option maxHeartbeats 4000000 in
set_option maxRecDepth 100000 in
theorem xB (v : Sc) (s : Sy) (n : List UInt8) (w : World) (hs : rP w v s) (hf : ∀ c ∈ s.cs, c.ns.length ≤ 1000) (hyl : v.ys.length ≤ 20) :
  Calls Tryz.prog 65 #[.agg #[.slice v.a1 v.n1 v.c1, .slice v.hc.az 2 v.hc.cz, .slice v.hc.am 2 v.hc.cm, .int .i64 s.h.aF, .slice v.hc.al v.hc.lc.length v.hc.cl, .slice v.hc.av s.h.live.length v.hc.cv, .slice v.a2 v.ys.length v.c2], .string ⟨n.toArray⟩] w fun ev w' => ev = .returned (.tuple #[.int .i64 (bZ (fun c => c.ns.contains n) s.cs), .bool (decide (0 ≤ bZ (fun c => c.ns.contains n) s.cs))]) ∧ Below w.heap.size w w' := by
 have eg : ∀ args w, (callFunc 118 args).run Tryz.prog w = .ok (.enter 118 args) w := enters_of Tryz.func118 (by kernel_rfl) rfl
 obtain ⟨K1, K2, F1, F2, hsz, hbw⟩ := boxes2 w #[.slice v.a1 v.n1 v.c1, .slice v.hc.az 2 v.hc.cz, .slice v.hc.am 2 v.hc.cm, .int .i64 (s.h.aF : Int), .slice v.hc.al v.hc.lc.length v.hc.cl, .slice v.hc.av s.h.live.length v.hc.cv, .slice v.a2 v.ys.length v.c2] 47 #[.string ⟨n.toArray⟩] 9
 have k6 := K1 6
 have p0 := K2 0
 simp only [gB, gC, gD] at k6 p0
 have hs1 := hs.below hbw
 have hfi : bZ (fun y : Cc => y.c.ns.contains n) v.ys = bZ (fun c => c.ns.contains n) s.cs := by
  rw [← hs.cy]
  unfold bZ
  rw [List.findIdx?_map]
  rfl
 have hcall := qC v.a2 v.ys.length v.c2 v.ys 118 #[.pointer (some ⟨w.heap.size + 1, 0, none⟩)] (fun y => y.c.ns.contains n) _ rfl (by omega) hs1.rc eg (fun W hW y hy => MK y n (w.heap.size + 1) W ((hs1.below hW).ca y hy) (by
  have h1 := (hs1.ca y hy).l1
  have h2 := hf y.c (by rw [← hs.cy]; exact List.mem_map_of_mem hy)
  omega) (gI hsz hW.size) ((hW.cell (p := ⟨w.heap.size + 1, 0, none⟩) hsz).trans p0))
 rw [hfi] at hcall
 have HC := gO hcall
 have HB := gO hbw
 clear eg K1 K2 F1 F2 hbw hs hs1 hcall hfi
 go_enter Tryz.func65, Tryz.ntmps65
 go_wp2_with (go_at_call 66; refine HC.out.mono ?_; rintro e w' ⟨rfl, hb'⟩)
 refine bodyPost_ret (v := .tuple #[.int .i64 (bZ (fun c => c.ns.contains n) s.cs), .bool (decide (0 ≤ bZ (fun c => c.ns.contains n) s.cs))]) (by simp [results, Tryz.results65, go_sem]) rfl ⟨rfl, Below.step HB.out hb'⟩

def Ud (v' : Sc) (s : Sy) (i : Nat) : Value := .tuple #[.agg (v'.vals s), .int .i64 (i : Int), .int .i64 0]
set_option maxHeartbeats 8000000 in
set_option maxRecDepth 100000 in
theorem Eh (v : Sc) (s : Sy) (n : List UInt8) (cpu i : Nat) (w : World) (hs : rP w v s) (hk : fC s) (hf : ∀ c ∈ s.cs, c.ns.length ≤ 1000) (hi : s.named n = some i) (fH : cpu < s.h.aF) :
  Calls Tryz.prog 71 #[.agg #[.slice v.a1 v.n1 v.c1, .slice v.hc.az 2 v.hc.cz, .slice v.hc.am 2 v.hc.cm, .int .i64 s.h.aF, .slice v.hc.al v.hc.lc.length v.hc.cl, .slice v.hc.av s.h.live.length v.hc.cv, .slice v.a2 v.ys.length v.c2], .string ⟨n.toArray⟩, .int .i64 cpu] w fun ev w' => ∃ v', ev = .returned (Ud v' s i) ∧ kH w' w.heap.size s v' ∧ Below w.heap.size w w' := by
 obtain ⟨K1, K2, F1, F2, hsz, hbw⟩ := boxes2 w #[.slice v.a1 v.n1 v.c1, .slice v.hc.az 2 v.hc.cz, .slice v.hc.am 2 v.hc.cm, .int .i64 (s.h.aF : Int), .slice v.hc.al v.hc.lc.length v.hc.cl, .slice v.hc.av s.h.live.length v.hc.cv, .slice v.a2 v.ys.length v.c2] 47 #[.slice none 0 0, .slice none 0 0, .slice none 0 0, .int .i64 0, .slice none 0 0, .slice none 0 0, .slice none 0 0] 47
 have hs1 := hs.below hbw
 have hyl : v.ys.length ≤ 20 := by have := congrArg List.length hs.cy; rw [List.length_map] at this; rw [this]; exact hk.cl
 have hfi : bZ (fun c : Ca => c.ns.contains n) s.cs = (i : Int) := by
  unfold Sy.named at hi
  unfold bZ
  rw [hi]
 obtain ⟨k0, k1, k2, k3, k4, k5, k6⟩ := gA7 K1
 have HF := gO hf
 have HK := gO hk
 have HS1 := gO hs1
 have HB1 := gO hbw
 have HK1 := gO K1
 have HK2 := gO K2
 have HF2 := gO F2
 have hc0 : ¬ (cpu : Int) < 0 := by omega
 have hc1 : ¬ (s.h.aF : Int) ≤ cpu := by omega
 have hi0 : (0 : Int) ≤ i := by omega
 have ZX : w.heap.size < ((w.alloc (.cells #[.slice v.a1 v.n1 v.c1, .slice v.hc.az 2 v.hc.cz, .slice v.hc.am 2 v.hc.cm, .int .i64 (s.h.aF : Int), .slice v.hc.al v.hc.lc.length v.hc.cl, .slice v.hc.av s.h.live.length v.hc.cv, .slice v.a2 v.ys.length v.c2] 47)).alloc (.cells #[.slice none 0 0, .slice none 0 0, .slice none 0 0, .int .i64 0, .slice none 0 0, .slice none 0 0, .slice none 0 0] 47)).heap.size := by simp; omega
 clear hs hk hf hi K1 K2 F1 F2 hs1 hbw
 go_enter Tryz.func71, Tryz.ntmps71
 go_upto_region 1 with fail
 generalize (w.alloc (.cells #[.slice v.a1 v.n1 v.c1, .slice v.hc.az 2 v.hc.cz, .slice v.hc.am 2 v.hc.cm, .int .i64 (s.h.aF : Int), .slice v.hc.al v.hc.lc.length v.hc.cl, .slice v.hc.av s.h.live.length v.hc.cv, .slice v.a2 v.ys.length v.c2] 47)).alloc (.cells #[.slice none 0 0, .slice none 0 0, .slice none 0 0, .int .i64 0, .slice none 0 0, .slice none 0 0, .slice none 0 0] 47) = w2 at *
 go_upto_region 4 with (go_at_call 38; refine (rE v s w2 HS1.out HK.out HF.out).mono ?_; rintro ev w3 ⟨rfl, hb3⟩)
 have hs3 := gO (HS1.out.below hb3)
 have K13 := gO (aC HK1.out ZX hb3)
 have QA := gI ZX hb3.size
 clear k0 k1 k2 k3 k4 k5 k6
 obtain ⟨k0, k1, k2, k3, k4, k5, k6⟩ := gA7 K13.out
 have hnamed := xB v s n w3 hs3.out HF.out hyl
 rw [hfi, decide_eq_true hi0] at hnamed
 have Vp := gO hnamed
 have HB3 := gO hb3
 clear hnamed hfi
 go_upto_region 9 with (go_at_call 65; refine Vp.out.mono ?_; rintro ev w4 ⟨rfl, hb4⟩; have k34 := (hb4.cell (p := ⟨w.heap.size, 3, none⟩) QA).trans k3)
 have hs4 := hs3.out.below hb4
 have K14 := aC K13.out QA hb4
 have aE5 := gI QA hb4.size
 clear k0 k1 k2 k3 k4 k5 k6 k34
 obtain ⟨k0, k1, k2, k3, k4, k5, k6⟩ := gA7 K14
 have HCP := gO (Gs v s w4 hs4 HK.out HF.out)
 have HB4 := gO (Below.step HB3.out hb4)
 have hT1 : w.heap.size + 1 < w2.heap.size := hsz
 clear hs4 K14 hb4 K13 Vp
 have ZY := HB4.out.size
 go_wp2_with (go_at_call 39; refine HCP.out.mono ?_; rintro ev w5 ⟨v', he, hnew, hb5⟩; unfold Sc.vals at he; subst he; have K25 := aC HK2.out hT1 (Below.step HB4.out hb5); have F25 := aJ HF2.out hT1 (Below.step HB4.out hb5); obtain ⟨y0, y1, y2, y3, y4, y5, y6⟩ := gA7 K25; obtain ⟨f0, f1, f2, f3, f4, f5, f6⟩ := gF7 F25; skip)
 have hX1 : (fun k => k < w4.heap.size) (w.heap.size + 1) := gI hT1 ZY
 have hsw : w.heap.size ≤ w2.heap.size := by omega
 have aC3 := Below.step HB4.out hb5
 have KX := (aG (aG (aG (aG (aG (aG (aG K25 0 (.slice v'.a1 v'.n1 v'.c1)) 1 (.slice v'.hc.az 2 v'.hc.cz)) 2 (.slice v'.hc.am 2 v'.hc.cm)) 3 (.int .i64 (s.h.aF : Int))) 4 (.slice v'.hc.al v'.hc.lc.length v'.hc.cl)) 5 (.slice v'.hc.av s.h.live.length v'.hc.cv)) 6 (.slice v'.a2 v'.ys.length v'.c2))
 simp only [gE, gG, gH] at KX
 have qJ := (SR.dZ (SR.dZ (SR.dZ (SR.dZ (SR.dZ (SR.dZ (SR.dZ hnew hX1 0 (.slice v'.a1 v'.n1 v'.c1)) hX1 1 (.slice v'.hc.az 2 v'.hc.cz)) hX1 2 (.slice v'.hc.am 2 v'.hc.cm)) hX1 3 (.int .i64 (s.h.aF : Int))) hX1 4 (.slice v'.hc.al v'.hc.lc.length v'.hc.cl)) hX1 5 (.slice v'.hc.av s.h.live.length v'.hc.cv)) hX1 6 (.slice v'.a2 v'.ys.length v'.c2))
 have hle1 : w.heap.size ≤ w.heap.size + 1 := Nat.le_succ _
 have HBX2 := gO (Below.setCell (Below.setCell (Below.setCell (Below.setCell (Below.setCell (Below.setCell (Below.setCell (Below.trans HB1.out (aC3.mono hsw)) (show w.heap.size ≤ (⟨w.heap.size + 1, 0, none⟩ : Addr).block from hle1) (.slice v'.a1 v'.n1 v'.c1)) (show w.heap.size ≤ (⟨w.heap.size + 1, 1, none⟩ : Addr).block from hle1) (.slice v'.hc.az 2 v'.hc.cz)) (show w.heap.size ≤ (⟨w.heap.size + 1, 2, none⟩ : Addr).block from hle1) (.slice v'.hc.am 2 v'.hc.cm)) (show w.heap.size ≤ (⟨w.heap.size + 1, 3, none⟩ : Addr).block from hle1) (.int .i64 (s.h.aF : Int))) (show w.heap.size ≤ (⟨w.heap.size + 1, 4, none⟩ : Addr).block from hle1) (.slice v'.hc.al v'.hc.lc.length v'.hc.cl)) (show w.heap.size ≤ (⟨w.heap.size + 1, 5, none⟩ : Addr).block from hle1) (.slice v'.hc.av s.h.live.length v'.hc.cv)) (show w.heap.size ≤ (⟨w.heap.size + 1, 6, none⟩ : Addr).block from hle1) (.slice v'.a2 v'.ys.length v'.c2))
 generalize ((((((w5.setCell ⟨w.heap.size + 1, 0, none⟩ (.slice v'.a1 v'.n1 v'.c1)).setCell ⟨w.heap.size + 1, 1, none⟩ (.slice v'.hc.az 2 v'.hc.cz)).setCell ⟨w.heap.size + 1, 2, none⟩ (.slice v'.hc.am 2 v'.hc.cm)).setCell ⟨w.heap.size + 1, 3, none⟩ (.int .i64 (s.h.aF : Int))).setCell ⟨w.heap.size + 1, 4, none⟩ (.slice v'.hc.al v'.hc.lc.length v'.hc.cl)).setCell ⟨w.heap.size + 1, 5, none⟩ (.slice v'.hc.av s.h.live.length v'.hc.cv)).setCell ⟨w.heap.size + 1, 6, none⟩ (.slice v'.a2 v'.ys.length v'.c2) = wx at *
 refine bodyPost_ret (v := .tuple #[.agg #[.slice v'.a1 v'.n1 v'.c1, .slice v'.hc.az 2 v'.hc.cz, .slice v'.hc.am 2 v'.hc.cm, .int .i64 (s.h.aF : Int), .slice v'.hc.al v'.hc.lc.length v'.hc.cl, .slice v'.hc.av s.h.live.length v'.hc.cv, .slice v'.a2 v'.ys.length v'.c2], .int .i64 (i : Int), .int .i64 0]) (by simp [results, Tryz.results71, go_sem, KX]) rfl ⟨v', rfl, qJ.toX (by show w.heap.size < w4.heap.size; omega) (fun k hk => gI hk (gQ hsw ZY)) (Nat.lt_irrefl _), HBX2.out⟩
end
end Go.Proofs.YtcmpmobhongkiaaGreatDoor
