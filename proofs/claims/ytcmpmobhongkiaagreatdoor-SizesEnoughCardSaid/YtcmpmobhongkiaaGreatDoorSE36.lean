/- texts of this claim, joined. -/
import Derived.Test.YtcmpmobhongkiaaGreatDoorSE0
import Derived.Test.YtcmpmobhongkiaaGreatDoorSE33
import Derived.Test.YtcmpmobhongkiaaGreatDoorSE35
set_option linter.unusedVariables false
set_option linter.unusedSimpArgs false
namespace Go.Proofs.YtcmpmobhongkiaaGreatDoor
section
open Go.RowKit

section
variable {W W' W1 Wm We : World} {G : Nat} {X Y : Nat → Prop} {s s' : Sy} {v v' : Sc}
theorem SR.start {a : Option Addr} {n c : Nat} {xs : List Int} {h : Hp} {hc : Hc} (ho : W.ownsRow 0 3 1 (.slice a n c) n (xs.map vI)) (hr : HR W G X h hc) (hg : ∀ g, (Value.slice a n c).ownBlock = some g → g ≠ G ∧ ¬ X g ∧ ∀ q ∈ hc.rows h ++ hc.reads h, q.v.ownBlock ≠ some g) :
  SR W G X ⟨xs, h, []⟩ ⟨a, n, c, hc, none, 0, []⟩ := by
 have hn : ∀ g, (kH ⟨a, n, c, hc, none, 0, []⟩).v.ownBlock ≠ some g := fun g e => by cases e
 refine ⟨⟨fun r hr' => ?_, ?_⟩, fun r hr' g h1 => ?_, hr, fun r hr' q hq g h1 h2 => ?_, rfl⟩
 ·rcases List.mem_cons.1 hr' with rfl | hr'
  ·exact ho
  ·obtain rfl : r = kH ⟨a, n, c, hc, none, 0, []⟩ := by simpa using hr'
   exact World.ownsRow_nil _ _ _ _
 ·show [_, _].Pairwise _
  simp only [List.pairwise_cons, List.mem_singleton, forall_eq, List.not_mem_nil, false_imp_iff, implies_true, List.Pairwise.nil, and_true]
  exact fun g h1 h2 => hn g h2
 ·rcases List.mem_cons.1 hr' with rfl | hr'
  ·exact ⟨(hg g h1).1, (hg g h1).2.1⟩
  ·obtain rfl : r = kH ⟨a, n, c, hc, none, 0, []⟩ := by simpa using hr'
   exact absurd h1 (hn g)
 ·rcases List.mem_cons.1 hr' with rfl | hr'
  ·exact (hg g h1).2.2 q hq h2
  ·obtain rfl : r = kH ⟨a, n, c, hc, none, 0, []⟩ := by simpa using hr'
   exact absurd h1 (hn g)
theorem yX {iU bm be ge n : Nat} {am : Option Addr} {cm : Nat} {xs : List Int} {h : Hp} {hc : Hc} (xC : Wm.ownsRow bm 3 1 (.slice am n cm) n (xs.map vI)) (hse : HS We ge (fun k => k < be) h hc) (h1 : iU ≤ bm) (h2 : Wm.heap.size ≤ be) (h3 : Wm.heap.size ≤ We.heap.size) (h4 : iU ≤ be) (hbm : Below Wm.heap.size Wm W) (hbe : Below We.heap.size We W) (hG : iU ≤ G ∧ G < W.heap.size) (hg : G < bm ∨ (Wm.heap.size ≤ G ∧ G < be) ∨ We.heap.size ≤ G) (hg2 : G < be ∨ We.heap.size ≤ G) :
  SR W G (fun k => k < iU) ⟨xs, h, []⟩ ⟨am, n, cm, hc, none, 0, []⟩ := by
 have hr := hse.r.below hbe
 have hq : ∀ q ∈ hc.rows h ++ hc.reads h, ∀ k, q.v.ownBlock = some k → be ≤ k ∧ k < We.heap.size := fun q hq k e => by
  refine ⟨?_, hse.r.lt q hq k e⟩
  rcases List.mem_append.1 hq with hq | hq
  ·exact Nat.le_of_not_lt (hse.r.og q hq k e).2
  ·exact Nat.le_of_not_lt (hse.r.rx q hq k e)
 refine SR.start (own_base (own_below xC hbm (Nat.le_refl _)) (Nat.zero_le _)) (hr.any hG.2 (fun q h k e => ?_) (fun k hk => by omega) (by omega)) fun g e => ?_
 ·have := hq q h k e
  omega
 ·have := xC.lt g e
  refine ⟨by omega, by omega, fun q h e' => ?_⟩
  have := hq q h g e'
  omega
theorem SS.put7 (hr : SR W G X s v) {a0 a1 a2 a3 a4 a5 a6 : Value} (K : ∀ o, W.cell? ⟨G, o, none⟩ = (#[a0, a1, a2, a3, a4, a5, a6] : Array Value)[o]?) (F : ∀ o, W.frozen? ⟨G, o, none⟩ = false) :
  SS (((((((W.setCell ⟨G, 0, none⟩ (.slice v.a1 v.n1 v.c1)).setCell ⟨G, 1, none⟩ (.slice v.hc.az 2 v.hc.cz)).setCell ⟨G, 2, none⟩ (.slice v.hc.am 2 v.hc.cm)).setCell ⟨G, 3, none⟩ (.int .i64 (s.h.aF : Int))).setCell ⟨G, 4, none⟩ (.slice v.hc.al v.hc.lc.length v.hc.cl)).setCell ⟨G, 5, none⟩ (.slice v.hc.av s.h.live.length v.hc.cv)).setCell ⟨G, 6, none⟩ (.slice v.a2 v.ys.length v.c2)) G X s v := by
 have F0 := aG F ⟨G, 0, none⟩ (.slice v.a1 v.n1 v.c1)
 have F1 := aG F0 ⟨G, 1, none⟩ (.slice v.hc.az 2 v.hc.cz)
 have F2 := aG F1 ⟨G, 2, none⟩ (.slice v.hc.am 2 v.hc.cm)
 have F3 := aG F2 ⟨G, 3, none⟩ (.int .i64 (s.h.aF : Int))
 have F4 := aG F3 ⟨G, 4, none⟩ (.slice v.hc.al v.hc.lc.length v.hc.cl)
 have F5 := aG F4 ⟨G, 5, none⟩ (.slice v.hc.av s.h.live.length v.hc.cv)
 have F6 := aG F5 ⟨G, 6, none⟩ (.slice v.a2 v.ys.length v.c2)
 have K0 := aH K 0 (.slice v.a1 v.n1 v.c1)
 have K1 := aH K0 1 (.slice v.hc.az 2 v.hc.cz)
 have K2 := aH K1 2 (.slice v.hc.am 2 v.hc.cm)
 have K3 := aH K2 3 (.int .i64 (s.h.aF : Int))
 have K4 := aH K3 4 (.slice v.hc.al v.hc.lc.length v.hc.cl)
 have K5 := aH K4 5 (.slice v.hc.av s.h.live.length v.hc.cv)
 have K6 := aH K5 6 (.slice v.a2 v.ys.length v.c2)
 simp only [gE, gG, gH] at K6
 exact ⟨((((((hr.jL 0 _).jL 1 _).jL 2 _).jL 3 _).jL 4 _).jL 5 _).jL 6 _, K6, F6⟩
end

theorem Jw : (Tryz.prog.info? 94).map (fun i => (i.zero, i.size, i.bytes)) = some (some (.agg #[.slice none 0 0, .int .i64 0, .int .i64 0, .int .i64 0, .slice none 0 0, .slice none 0 0]), 6, 96) := by kernel_rfl
set_option maxHeartbeats 8000000 in
set_option maxRecDepth 100000 in
theorem yY (v : Sc) (s : Sy) (w : World) (hs : oU w v s) (hk : fH s) (hf : ∀ c ∈ s.cs, c.ns.length ≤ 1000) :
  Calls Tryz.prog 39 #[.agg #[.slice v.a1 v.n1 v.c1, .slice v.hc.az 2 v.hc.cz, .slice v.hc.am 2 v.hc.cm, .int .i64 (s.h.aF : Int), .slice v.hc.al v.hc.lc.length v.hc.cl, .slice v.hc.av s.h.live.length v.hc.cv, .slice v.a2 v.ys.length v.c2]] w fun ev w' => ∃ v', ev = .returned (.agg (v'.vals s)) ∧ kS w' w.heap.size s v' ∧ Below w.heap.size w w' := by
 obtain ⟨K1, K2, F1, F2, hsz, hbw⟩ := boxes2 w #[.slice v.a1 v.n1 v.c1, .slice v.hc.az 2 v.hc.cz, .slice v.hc.am 2 v.hc.cm, .int .i64 (s.h.aF : Int), .slice v.hc.al v.hc.lc.length v.hc.cl, .slice v.hc.av s.h.live.length v.hc.cv, .slice v.a2 v.ys.length v.c2] 47 #[.slice none 0 0, .slice none 0 0, .slice none 0 0, .int .i64 0, .slice none 0 0, .slice none 0 0, .slice none 0 0] 47
 have HLW := gO hs.lw
 have hn1 : v.n1 ≤ 4096 := by rw [← hs.lw, hk.wl]; omega
 have HS := gO hs
 have HK := gO hk
 have HHK := gO hk.hk
 have HB1 := gO hbw
 have Hy : s.h.live.length ≤ 1000 := gQ hk.hk.jV (by decide)
 have hyl : v.ys.length ≤ 20 := by have := congrArg List.length hs.cy; rw [List.length_map] at this; rw [this]; exact hk.cl
 have Yj : Hid (((w.alloc (.cells #[.slice v.a1 v.n1 v.c1, .slice v.hc.az 2 v.hc.cz, .slice v.hc.am 2 v.hc.cm, .int .i64 (s.h.aF : Int), .slice v.hc.al v.hc.lc.length v.hc.cl, .slice v.hc.av s.h.live.length v.hc.cv, .slice v.a2 v.ys.length v.c2] 47)).alloc (.cells #[.slice none 0 0, .slice none 0 0, .slice none 0 0, .int .i64 0, .slice none 0 0, .slice none 0 0, .slice none 0 0] 47)).heap.size = w.heap.size + 2) := by unfold Hid; simp
 clear hs hk
 go_enter Tryz.func39, Tryz.ntmps39
 go_upto_region 1 with fail
 generalize (w.alloc (.cells #[.slice v.a1 v.n1 v.c1, .slice v.hc.az 2 v.hc.cz, .slice v.hc.am 2 v.hc.cm, .int .i64 (s.h.aF : Int), .slice v.hc.al v.hc.lc.length v.hc.cl, .slice v.hc.av s.h.live.length v.hc.cv, .slice v.a2 v.ys.length v.c2] 47)).alloc (.cells #[.slice none 0 0, .slice none 0 0, .slice none 0 0, .int .i64 0, .slice none 0 0, .slice none 0 0, .slice none 0 0] 47) = w1 at *
 have q1 : Row w1 v.a1 (flat encI s.w) := by rw [kG]; exact (HS.out.below HB1.out).rw
 have HHH := gO (HS.out.below HB1.out).hh
 have LK0 : ∀ W, Below w1.heap.size w1 W → ∀ o, W.cell? ⟨w.heap.size, o, none⟩ = (#[.slice v.a1 v.n1 v.c1, .slice v.hc.az 2 v.hc.cz, .slice v.hc.am 2 v.hc.cm, .int .i64 (s.h.aF : Int), .slice v.hc.al v.hc.lc.length v.hc.cl, .slice v.hc.av s.h.live.length v.hc.cv, .slice v.a2 v.ys.length v.c2] : Array Value)[o]? := fun W h o => aB K1 (by omega) h o
 go_cut [3] (fun s3 wx => ∃ (g : Nat) (a1' : Option Addr) (c1' : Nat) (hc' : Hc), s3 = .pointer (some ⟨g, 0, none⟩) ∧ Hid (SS wx g (fun k => k < w1.heap.size) { s with cs := [] } ⟨a1', v.n1, c1', hc', none, 0, []⟩) ∧ Hid (Below w1.heap.size w1 wx))
 case first =>
  go_region_held3 (fun W => Below w1.heap.size w1 W) ((repeat (first | with_reducible assumption | with_reducible exact Below.refl _ _ | with_reducible refine Below.setCell ?_ ?_ _ | with_reducible apply Below.drew | with_reducible refine Below.step ?_ (aC _ _) | with_reducible refine Below.step ?_ (by with_reducible assumption) | (simp only; omega)))) (first | (go_at_call 85; refine (Px _ v.n1 _ s.w _ HLW.out (by omega) (q1.below (by assumption))).mono ?_; rintro e wm ⟨LP, LU, rfl, xC, hbm⟩; (try ((have hx : Below ((w1.alloc (.cells (#[.slice none 0 0, .slice none 0 0, .slice none 0 0, .int .i64 0, .slice none 0 0, .slice none 0 0, .slice none 0 0] : Array Value) 47)).drew).heap.size ((w1.alloc (.cells (#[.slice none 0 0, .slice none 0 0, .slice none 0 0, .int .i64 0, .slice none 0 0, .slice none 0 0, .slice none 0 0] : Array Value) 47)).drew) wm := by with_reducible exact hbm); have KA := aB (w1 := ((w1.alloc (.cells (#[.slice none 0 0, .slice none 0 0, .slice none 0 0, .int .i64 0, .slice none 0 0, .slice none 0 0, .slice none 0 0] : Array Value) 47)).drew)) (vs := #[.slice none 0 0, .slice none 0 0, .slice none 0 0, .int .i64 0, .slice none 0 0, .slice none 0 0, .slice none 0 0]) (fun o => aY w1 #[.slice none 0 0, .slice none 0 0, .slice none 0 0, .int .i64 0, .slice none 0 0, .slice none 0 0, .slice none 0 0] 47 o) (show w1.heap.size < ((w1.alloc (.cells (#[.slice none 0 0, .slice none 0 0, .slice none 0 0, .int .i64 0, .slice none 0 0, .slice none 0 0, .slice none 0 0] : Array Value) 47)).drew).heap.size by simp) hx; have FA := aJ (w1 := ((w1.alloc (.cells (#[.slice none 0 0, .slice none 0 0, .slice none 0 0, .int .i64 0, .slice none 0 0, .slice none 0 0, .slice none 0 0] : Array Value) 47)).drew)) (fun o => dK w1 #[.slice none 0 0, .slice none 0 0, .slice none 0 0, .int .i64 0, .slice none 0 0, .slice none 0 0, .slice none 0 0] 47 o) (show w1.heap.size < ((w1.alloc (.cells (#[.slice none 0 0, .slice none 0 0, .slice none 0 0, .int .i64 0, .slice none 0 0, .slice none 0 0, .slice none 0 0] : Array Value) 47)).drew).heap.size by simp) hx; have SA : w1.heap.size < wm.heap.size := gI (show w1.heap.size < ((w1.alloc (.cells (#[.slice none 0 0, .slice none 0 0, .slice none 0 0, .int .i64 0, .slice none 0 0, .slice none 0 0, .slice none 0 0] : Array Value) 47)).drew).heap.size by simp) hx.size)); (first | have SM : w1.heap.size ≤ wm.heap.size := gR SA | have SM : w1.heap.size ≤ wm.heap.size := hbm.size)) | (go_at_call 86; refine (ER _ _ _ _ v.hc.cz v.hc.cm v.hc.cl v.hc.cv _ _ _ _ _ s.h _ (HHH.out.below (by assumption)) HHK.out Hy).mono ?_; rintro e we ⟨ge, hc', he, hse, hge, hbe⟩; unfold Hc.vals at he; subst he; (try first | (have KB := aB KA SA hbe; have FB := aJ FA SA hbe) | ((have hx : Below (wm.alloc (.cells (#[.slice none 0 0, .slice none 0 0, .slice none 0 0, .int .i64 0, .slice none 0 0, .slice none 0 0, .slice none 0 0] : Array Value) 47)).heap.size (wm.alloc (.cells (#[.slice none 0 0, .slice none 0 0, .slice none 0 0, .int .i64 0, .slice none 0 0, .slice none 0 0, .slice none 0 0] : Array Value) 47)) we := by with_reducible exact hbe); have KB := aB (w1 := (wm.alloc (.cells (#[.slice none 0 0, .slice none 0 0, .slice none 0 0, .int .i64 0, .slice none 0 0, .slice none 0 0, .slice none 0 0] : Array Value) 47))) (vs := #[.slice none 0 0, .slice none 0 0, .slice none 0 0, .int .i64 0, .slice none 0 0, .slice none 0 0, .slice none 0 0]) (fun o => aY wm #[.slice none 0 0, .slice none 0 0, .slice none 0 0, .int .i64 0, .slice none 0 0, .slice none 0 0, .slice none 0 0] 47 o) (show wm.heap.size < (wm.alloc (.cells (#[.slice none 0 0, .slice none 0 0, .slice none 0 0, .int .i64 0, .slice none 0 0, .slice none 0 0, .slice none 0 0] : Array Value) 47)).heap.size by simp) hx; have FB := aJ (w1 := (wm.alloc (.cells (#[.slice none 0 0, .slice none 0 0, .slice none 0 0, .int .i64 0, .slice none 0 0, .slice none 0 0, .slice none 0 0] : Array Value) 47))) (fun o => dK wm #[.slice none 0 0, .slice none 0 0, .slice none 0 0, .int .i64 0, .slice none 0 0, .slice none 0 0, .slice none 0 0] 47 o) (show wm.heap.size < (wm.alloc (.cells (#[.slice none 0 0, .slice none 0 0, .slice none 0 0, .int .i64 0, .slice none 0 0, .slice none 0 0, .slice none 0 0] : Array Value) 47)).heap.size by simp) hx))))
  all_goals (go_wp2_with fail; go_meet)
  ·rw [kG] at xC
   have hsr := yX (W := we.alloc (.cells #[.slice LP v.n1 LU, .slice hc'.az 2 hc'.cz, .slice hc'.am 2 hc'.cm, .int .i64 (s.h.aF : Int), .slice hc'.al hc'.lc.length hc'.cl, .slice hc'.av s.h.live.length hc'.cv, .slice none 0 0] 47)) (G := we.heap.size) (iU := w1.heap.size) xC hse (Nat.le_refl _) (Nat.le_refl _) hbe.size SM (Below.step hbe (aC _ _)) (aC _ _) ⟨gQ SM hbe.size, by simp⟩ (.inr (.inr (Nat.le_refl _))) (.inr (Nat.le_refl _))
   exact ⟨we.heap.size, LP, LU, hc', rfl, ⟨hsr, aY _ _ _, dK _ _ _⟩, by assumption⟩
  ·rw [kG] at xC
   have hs := hbe.size
   simp at hs
   have hsr := yX (W := we) (G := wm.heap.size) (iU := w1.heap.size) xC hse (Nat.le_refl _) (by simp) (by omega) (by simp; omega) (Below.step (aC _ _) hbe) (Below.refl _ _) ⟨SM, by omega⟩ (.inr (.inl ⟨Nat.le_refl _, by simp⟩)) (.inl (by simp))
   have hfin := SS.put7 hsr KB FB
   refine ⟨wm.heap.size, LP, LU, hc', rfl, ?_, by assumption⟩
   exact hfin
  ·rw [kG] at xC
   have hs := hbe.size
   have hsr := yX (W := we) (G := w1.heap.size) (iU := w1.heap.size) xC hse (by simp) (Nat.le_refl _) hbe.size SM hbe (Below.refl _ _) ⟨Nat.le_refl _, by omega⟩ (.inl (by simp)) (.inl SA)
   have hfin := SS.put7 hsr KB FB
   refine ⟨w1.heap.size, LP, LU, hc', rfl, ?_, by assumption⟩
   exact hfin
 case rest =>
  obtain ⟨g, a1', c1', hc', rfl, VB, mQ⟩ := hcut
  clear q1
  have K2h := gO K2
  have F2h := gO F2
  have k6 := LK0 wc mQ.out 6
  have LKH := gO LK0
  simp only [gB, gC, gD] at k6
  clear LK0 K1 K2 F1 F2 hbw
  have aA0 := mQ.out.size
  have hBw : w.heap.size < wc.heap.size := by have := Yj.out; omega
  go_wp2_with fail
  clear k6
  go_loopw [16] (fun s16 wr => ∃ (i : Nat) (vi : Sc), i ≤ v.ys.length ∧ s16 = .int .i64 (i : Int) ∧ vi.ys.length = i ∧ Hid (SS wr g (fun k => k < w1.heap.size) { s with cs := s.cs.take i } vi) ∧ Hid (Below w1.heap.size w1 wr)) (fun s16 _ => v.ys.length - (intOf s16).toNat)
  case atStart => exact ⟨0, _, Nat.zero_le _, rfl, rfl, VB, mQ⟩
  case round =>
   obtain ⟨i, vi, hi, rfl, hvi, l7, oJ⟩ := hrel
   clear VB mQ
   subst hvi
   by_cases hlt : vi.ys.length < v.ys.length
   ·have Hr : (vi.ys.length : Int) < v.ys.length := by omega
    have hA := HS.out.below (Below.trans HB1.out (oJ.out.mono (HB1.out.size)))
    obtain ⟨bb, off, hba, hbb, hbc⟩ := aK dR (by decide) hA.rc hlt
    obtain ⟨e0, e1, e2, e3, e4, e5⟩ := kQ hbc
    have hic : vi.ys.length < s.cs.length := by rw [← HS.out.cy, List.length_map]; exact hlt
    have hel : v.ys[vi.ys.length].c = s.cs[vi.ys.length] := by
     have h1 := congrArg (·[vi.ys.length]?) HS.out.cy
     simp [hlt, hic] at h1
     exact h1
    have hcy := hA.ca _ (gL hlt)
    have hn1' : v.ys[vi.ys.length].c.ns.length ≤ 1000 := by rw [hel]; exact hf _ (gL hic)
    have aBd : v.ys[vi.ys.length].c.sl.length ≤ 256 := by rw [hel]; exact (HK.out.ck _ (gL hic)).nR HK.out.hk
    have aBe : v.ys[vi.ys.length].c.ac.length ≤ 4 := by rw [hel, (HK.out.ck _ (gL hic)).ac]; exact HK.out.hk.cp.2
    obtain ⟨y, hy⟩ : ∃ y, v.ys[vi.ys.length] = y := ⟨_, rfl⟩
    rw [hy] at e0 e1 e2 e3 e4 e5 hcy hel hn1' aBd aBe
    have HEL := gO hel
    have Ud := gO hcy
    have VE : w1.heap.size ≤ wr.heap.size := oJ.out.size
    rw [hba]
    clear hbc hba hel hA hy hcy hbb
    go_upto_region 5 with fail
    obtain ⟨E1, EF1, CX, oD⟩ := boxes1 wr #[.slice y.a1 y.n1 y.c1, .int .i64 (y.c.z : Int), .int .i64 (y.c.r : Int), .int .i64 (y.c.o : Int), .slice y.a2 y.n2 y.c2, .slice y.a3 y.n3 y.c3] 94
    have HS5 := gO (l7.out.new oD)
    have HB5 := gO (Below.step oJ.out oD)
    have HC5 := gO (Ud.out.below oD)
    clear e0 e1 e2 e3 e4 e5
    have e0 := E1 0
    have e4 := E1 4
    have e5 := E1 5
    simp only [gB, gC, gD] at e0 e4 e5
    have HE := gO E1
    have ZR := gO EF1
    clear E1 EF1 oD Ud l7 oJ
    generalize wr.alloc (.cells #[.slice y.a1 y.n1 y.c1, .int .i64 (y.c.z : Int), .int .i64 (y.c.r : Int), .int .i64 (y.c.o : Int), .slice y.a2 y.n2 y.c2, .slice y.a3 y.n3 y.c3] 94) = w5 at *
    generalize wr.heap.size = T7 at *
    have hd5 := (Below.refl w5.heap.size w5).drew
    have HR1 : Hid (Row w5.drew y.a1 (flat encS y.c.ns)) := HC5.out.r1.below hd5
    have HR2 : Hid (Row w5.drew y.a2 (flat aW y.c.sl)) := HC5.out.r2.below hd5
    have HR3 : Hid (Row w5.drew y.a3 (flat encI y.c.ac)) := by
     unfold Hid
     rw [kG]
     exact HC5.out.r3.below hd5
    have hl1 := HC5.out.l1
    have hl2 := HC5.out.l2
    have hl3 := HC5.out.l3
    have hb1 : y.n1 * 16 ≤ 140737488355328 := by omega
    have hb2 : y.n2 * 24 ≤ 140737488355328 := by omega
    have hb3 : y.n3 * 8 ≤ 140737488355328 := by omega
    have HL1 := gO hl1
    have HL2 := gO hl2
    have HL3 := gO hl3
    have HD5 := gO hd5
    have HED := gO (aB HE.out CX hd5)
    have RP := gO (aJ ZR.out CX hd5)
    have RQ : T7 < w5.drew.heap.size := CX
    clear hl1 hl2 hl3 hd5
    go_cut [29] (fun s29 wx => ∃ (DC DF DI : Option Addr) (DJ DK DL : Nat), Hid (SS wx g (fun k => k < w1.heap.size ∨ T7 ≤ k ∧ k < w5.heap.size) { s with cs := s.cs.take vi.ys.length } vi) ∧ Hid (dA wx 0 (nK (⟨DC, y.n1, DJ, DF, y.n2, DK, DI, y.n3, DL, y.c⟩ : Cc) :: kY (⟨DC, y.n1, DJ, DF, y.n2, DK, DI, y.n3, DL, y.c⟩ : Cc) :: nI (⟨DC, y.n1, DJ, DF, y.n2, DK, DI, y.n3, DL, y.c⟩ : Cc) :: vi.rows { s with cs := s.cs.take vi.ys.length })) ∧ Hid (∀ r ∈ fB (⟨DC, y.n1, DJ, DF, y.n2, DK, DI, y.n3, DL, y.c⟩ : Cc), ∀ b, r.v.ownBlock = some b → vi.fr { s with cs := s.cs.take vi.ys.length } g (fun k => k < w1.heap.size ∨ T7 ≤ k ∧ k < w5.heap.size) b) ∧ Hid (∀ o, wx.cell? ⟨T7, o, none⟩ = (#[.slice DC y.n1 DJ, .int .i64 (y.c.z : Int), .int .i64 (y.c.r : Int), .int .i64 (y.c.o : Int), .slice DF y.n2 DK, .slice DI y.n3 DL] : Array Value)[o]?) ∧ T7 < wx.heap.size ∧ Hid (Below w1.heap.size w1 wx))
    case first =>
     go_region_law (first | (go_simp; go_at_call 87; refine (cloneS y.a1 y.n1 y.c1 y.c.ns _ HL1.out hb1 HR1.out).mono ?_; rintro ev wa ⟨DC, DJ, rfl, hoa, hba⟩; have KA := aB HED.out RQ hba; have FA := aJ RP.out RQ hba; have SA := gI RQ hba.size; have ka4 := KA 4; have ka5 := KA 5; simp only [gB, gC, gD] at ka4 ka5) | (go_simp; go_at_call 88; refine (RJ y.a2 y.n2 y.c2 y.c.sl _ HL2.out hb2 (HR2.out.below hba)).mono ?_; rintro ev wb ⟨DF, DK, rfl, hob, hbb⟩; have KB := aB KA SA hbb; have FB := aJ FA SA hbb; have SB := gI SA hbb.size; have kb5 := KB 5; simp only [gB, gC, gD] at kb5) | (go_simp; go_at_call 85; refine (Px y.a3 y.n3 y.c3 y.c.ac _ HL3.out hb3 (HR3.out.below (Below.step hba hbb))).mono ?_; rintro ev wc' ⟨DI, DL, rfl, hoc, hbc⟩; have KC := aB KB SB hbc; have FC := aJ FB SB hbc; have SC := gI SB hbc.size; have fc0 := FC 0; have fc4 := FC 4; have fc5 := FC 5; have kc0 := KC 0; have kc4 := KC 4; have kc5 := KC 5; simp only [gB, gC, gD] at kc0 kc4 kc5))
     all_goals
      have KX := aH (aH (aH KC 0 (.slice DC y.n1 DJ)) 4 (.slice DF y.n2 DK)) 5 (.slice DI y.n3 DL)
      simp only [gE, gG, gH] at KX
      have aBf := Below.step HD5.out (Below.step hba (Below.step hbb hbc))
      have mQ := Below.setCell (Below.setCell (Below.setCell (Below.step HB5.out aBf) (show w1.heap.size ≤ (⟨T7, 0, none⟩ : Addr).block from VE) (.slice DC y.n1 DJ)) (show w1.heap.size ≤ (⟨T7, 4, none⟩ : Addr).block from VE) (.slice DF y.n2 DK)) (show w1.heap.size ≤ (⟨T7, 5, none⟩ : Addr).block from VE) (.slice DI y.n3 DL)
      have hsx : T7 < (((wc'.setCell ⟨T7, 0, none⟩ (.slice DC y.n1 DJ)).setCell ⟨T7, 4, none⟩ (.slice DF y.n2 DK)).setCell ⟨T7, 5, none⟩ (.slice DI y.n3 DL)).heap.size := by simp; exact SC
      obtain ⟨t1, t2, t3⟩ := HS5.out.three (y := (⟨DC, y.n1, DJ, DF, y.n2, DK, DI, y.n3, DL, y.c⟩ : Cc)) (.inr ⟨Nat.le_refl _, CX⟩) HD5.out hba hbb hbc hoa hob hoc 0 4 5 (.slice DC y.n1 DJ) (.slice DF y.n2 DK) (.slice DI y.n3 DL)
      clear kc0 kc4 kc5 ka4 ka5 kb5 fc0 fc4 fc5 e0 e4 e5
      go_wp2_with fail
      go_meet
      exact ⟨DC, DF, DI, DJ, DK, DL, t1, t2, t3, KX, hsx, mQ⟩
    case rest =>
     clear HE ZR HR1 HR2 HR3 hb1 hb2 hb3 HL1 HL2 HL3 HD5 HED RP RQ e0 e4 e5 HS5 HB5 HC5
     obtain ⟨DC, DF, DI, DJ, DK, DL, ZV, HOx, HFx, VF, hsx, HBx⟩ := hcut
     have k6 := ZV.out.k 6
     have q0 := VF.out 0
     have q1 := VF.out 1
     have q2 := VF.out 2
     have q3 := VF.out 3
     have q4 := VF.out 4
     have q5 := VF.out 5
     unfold Sc.vals at k6
     simp only [gB, gC, gD] at k6 q0 q1 q2 q3 q4 q5
     have ba := aC wc (.cells #[.slice DC y.n1 DJ, .int .i64 (y.c.z : Int), .int .i64 (y.c.r : Int), .int .i64 (y.c.o : Int), .slice DF y.n2 DK, .slice DI y.n3 DL] 94)
     have H8 := gO (ZV.out.below ba)
     have HO8 := gO (HOx.out.below ba)
     have hnw := (World.news_of_block (heap_alloc_new wc (.cells #[.slice DC y.n1 DJ, .int .i64 (y.c.z : Int), .int .i64 (y.c.r : Int), .int .i64 (y.c.o : Int), .slice DF y.n2 DK, .slice DI y.n3 DL] 94)))
     have LV := gO hnw
     have HB8 := gO (Below.step HBx.out ba)
     obtain ⟨ti, hti, htz, hts, htb⟩ := info_parts Jw
     have QF : Hid ((kH vi).v.ownBlock ≠ some g) := fun e => (H8.out.r.og _ (fO vi _) g e).1 rfl
     have Yr : (kH vi).on (wc.alloc (.cells #[.slice DC y.n1 DJ, .int .i64 (y.c.z : Int), .int .i64 (y.c.r : Int), .int .i64 (y.c.o : Int), .slice DF y.n2 DK, .slice DI y.n3 DL] 94)) 0 := H8.out.r.own.each _ (fO vi _)
     have Yt := gO Yr
     have hgs := ZV.out.r.hr.gs
     have hvl : vi.ys.length ≤ 20 := by omega
     have aEW : w1.heap.size ≤ wc.heap.size := HBx.out.size
     clear hnw ba VF ZV HOx HBx Yr
     go_wp2_with (at_builtin; refine wpList_append_lies _ rfl _ _ 45 rfl 0 94 ti (.agg #[.slice none 0 0, .int .i64 0, .int .i64 0, .int .i64 0, .slice none 0 0, .slice none 0 0]) 6 96 Tryz.underlying45 hti htz hts htb rfl (by decide) (.slice vi.a2 vi.ys.length vi.c2) vi.ys.length (flat dP vi.ys) rfl Yt.out ⟨wc.heap.size, 0, none⟩ 1 1 [.slice DC y.n1 DJ, .int .i64 (y.c.z : Int), .int .i64 (y.c.r : Int), .int .i64 (y.c.o : Int), .slice DF y.n2 DK, .slice DI y.n3 DL] rfl rfl LV.out (by simp [Value.oneCell']) (by decide) (by unfold maxLen; omega) (by omega) (Nat.zero_le _) _ rfl ?_; intro g9 cap9 w9 ho9 hg9 hl9 RI; have q9 := (bJ H8.out.k H8.out.r.hr.gs hg9 (fun e => QF.out e.symm) 6).trans (show _ = some (.slice vi.a2 vi.ys.length vi.c2) from rfl); have f9 := bK H8.out.fz H8.out.r.hr.gs hg9 (fun e => QF.out e.symm) 6)
     obtain ⟨hs9, sf9⟩ := H8.out.XF (y := (⟨DC, y.n1, DJ, DF, y.n2, DK, DI, y.n3, DL, y.c⟩ : Cc)) HO8.out HFx.out hg9 (by rw [aT, eP]; exact ho9) (by
      rcases hl9 with h1 | h1
      ·exact .inl h1
      ·exact .inr (Nat.le_of_eq h1.symm))
     have Yu : s.cs.take vi.ys.length ++ [y.c] = s.cs.take (vi.ys.length + 1) := by
      rw [List.take_succ_eq_append_getElem hic, HEL.out]
     simp only [Yu] at hs9
     have HS9 := gO (hs9.sub (Y := fun k => k < w1.heap.size) fun k hk => .inl hk)
     have hgb : w1.heap.size ≤ g := Nat.le_of_not_lt fun h => H8.out.r.hr.xg (.inl h)
     have HB9 : Hid (Below w1.heap.size w1 (w9.setCell ⟨g, 6, none⟩ (.slice (some ⟨g9, 0, none⟩) (vi.ys.length + 1) cap9))) := Below.setCell (Below.grown HB8.out hg9 HB8.out.size (fun k hk => Nat.le_of_not_lt fun h => (H8.out.r.og _ (fO vi _) k hk).2 (.inl h))) (show w1.heap.size ≤ (⟨g, 6, none⟩ : Addr).block from hgb) (.slice (some ⟨g9, 0, none⟩) (vi.ys.length + 1) cap9)
     clear hs9 sf9 Yu ho9 hg9 hl9 H8 HO8 LV HB8 QF Yt HFx q9 f9 RI
     go_roundw
     case rel => exact ⟨vi.ys.length + 1, _, by omega, by go_num, by simp, HS9, HB9⟩
     case measure => simp [intOf]; omega
   ·have hie : vi.ys.length = v.ys.length := by omega
    have HS9 : Hid (SS wr g (fun k => k < w1.heap.size) s vi) := by
     have h1 := l7.out
     rw [hie, List.take_of_length_le (by rw [← HS.out.cy, List.length_map]; exact Nat.le_refl _)] at h1
     exact h1
    have x0 := HS9.out.k 0
    have x1 := HS9.out.k 1
    have x2 := HS9.out.k 2
    have x3 := HS9.out.k 3
    have x4 := HS9.out.k 4
    have x5 := HS9.out.k 5
    have x6 := HS9.out.k 6
    unfold Sc.vals at x0 x1 x2 x3 x4 x5 x6
    have wQ := aB K2h.out hsz oJ.out
    have ZT := aJ F2h.out hsz oJ.out
    have y0 := wQ 0
    have y1 := wQ 1
    have y2 := wQ 2
    have y3 := wQ 3
    have y4 := wQ 4
    have y5 := wQ 5
    have y6 := wQ 6
    obtain ⟨f0, f1, f2, f3, f4, f5, f6⟩ := gF7 ZT
    simp only [gB, gC, gD] at x0 x1 x2 x3 x4 x5 x6 y0 y1 y2 y3 y4 y5 y6
    have KX := (aH (aH (aH (aH (aH (aH (aH wQ 0 (.slice vi.a1 vi.n1 vi.c1)) 1 (.slice vi.hc.az 2 vi.hc.cz)) 2 (.slice vi.hc.am 2 vi.hc.cm)) 3 (.int .i64 (s.h.aF : Int))) 4 (.slice vi.hc.al vi.hc.lc.length vi.hc.cl)) 5 (.slice vi.hc.av s.h.live.length vi.hc.cv)) 6 (.slice vi.a2 vi.ys.length vi.c2))
    simp only [gE, gG, gH] at KX
    have Ag := gO (((((((HS9.out.dS hsz 0 (.slice vi.a1 vi.n1 vi.c1)).dS hsz 1 (.slice vi.hc.az 2 vi.hc.cz)).dS hsz 2 (.slice vi.hc.am 2 vi.hc.cm)).dS hsz 3 (.int .i64 (s.h.aF : Int))).dS hsz 4 (.slice vi.hc.al vi.hc.lc.length vi.hc.cl)).dS hsz 5 (.slice vi.hc.av s.h.live.length vi.hc.cv)).dS hsz 6 (.slice vi.a2 vi.ys.length vi.c2))
    have hle1 : w.heap.size ≤ w.heap.size + 1 := Nat.le_succ _
    have HBX2 := gO (Below.setCell (Below.setCell (Below.setCell (Below.setCell (Below.setCell (Below.setCell (Below.setCell (Below.trans HB1.out (oJ.out.mono (HB1.out.size))) (show w.heap.size ≤ (⟨w.heap.size + 1, 0, none⟩ : Addr).block from hle1) (.slice vi.a1 vi.n1 vi.c1)) (show w.heap.size ≤ (⟨w.heap.size + 1, 1, none⟩ : Addr).block from hle1) (.slice vi.hc.az 2 vi.hc.cz)) (show w.heap.size ≤ (⟨w.heap.size + 1, 2, none⟩ : Addr).block from hle1) (.slice vi.hc.am 2 vi.hc.cm)) (show w.heap.size ≤ (⟨w.heap.size + 1, 3, none⟩ : Addr).block from hle1) (.int .i64 (s.h.aF : Int))) (show w.heap.size ≤ (⟨w.heap.size + 1, 4, none⟩ : Addr).block from hle1) (.slice vi.hc.al vi.hc.lc.length vi.hc.cl)) (show w.heap.size ≤ (⟨w.heap.size + 1, 5, none⟩ : Addr).block from hle1) (.slice vi.hc.av s.h.live.length vi.hc.cv)) (show w.heap.size ≤ (⟨w.heap.size + 1, 6, none⟩ : Addr).block from hle1) (.slice vi.a2 vi.ys.length vi.c2))
    have hnlt : ¬ (vi.ys.length : Int) < v.ys.length := by omega
    clear hie wQ ZT hlt
    go_wp2
    generalize ((((((wr.setCell ⟨w.heap.size + 1, 0, none⟩ (.slice vi.a1 vi.n1 vi.c1)).setCell ⟨w.heap.size + 1, 1, none⟩ (.slice vi.hc.az 2 vi.hc.cz)).setCell ⟨w.heap.size + 1, 2, none⟩ (.slice vi.hc.am 2 vi.hc.cm)).setCell ⟨w.heap.size + 1, 3, none⟩ (.int .i64 (s.h.aF : Int))).setCell ⟨w.heap.size + 1, 4, none⟩ (.slice vi.hc.al vi.hc.lc.length vi.hc.cl)).setCell ⟨w.heap.size + 1, 5, none⟩ (.slice vi.hc.av s.h.live.length vi.hc.cv)).setCell ⟨w.heap.size + 1, 6, none⟩ (.slice vi.a2 vi.ys.length vi.c2) = wx at *
    refine bodyPost_ret (v := .agg #[.slice vi.a1 vi.n1 vi.c1, .slice vi.hc.az 2 vi.hc.cz, .slice vi.hc.am 2 vi.hc.cm, .int .i64 (s.h.aF : Int), .slice vi.hc.al vi.hc.lc.length vi.hc.cl, .slice vi.hc.av s.h.live.length vi.hc.cv, .slice vi.a2 vi.ys.length vi.c2]) (by simp [results, Tryz.results39, go_sem, KX]) rfl ⟨vi, rfl, Ag.out.r.ZK (by have := HB1.out.size; show w.heap.size < w1.heap.size; omega) (fun k hk => by have := HB1.out.size; exact gI hk this) (Nat.lt_irrefl _), HBX2.out⟩
end
end Go.Proofs.YtcmpmobhongkiaaGreatDoor
