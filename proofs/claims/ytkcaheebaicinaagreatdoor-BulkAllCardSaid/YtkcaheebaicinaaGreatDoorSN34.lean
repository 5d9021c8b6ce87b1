/- Pp13, Pp14: texts of this claim, joined. -/
import Derived.Test.YtkcaheebaicinaaGreatDoorSN11
import Derived.Test.YtkcaheebaicinaaGreatDoorSN20
import Derived.Test.YtkcaheebaicinaaGreatDoorSN33
import Derived.Test.YtkcaheebaicinaaGreatDoorSN7
/- Contract of package pages: drain, on the heap behind a pointer. -/
namespace Go.Proofs.YtkcaheebaicinaaGreatDoor
open Go.RowKit
set_option linter.unusedVariables false

set_option maxHeartbeats 8000000 in
set_option maxRecDepth 100000 in
theorem drain_pg (G : Nat) (X : Nat → Prop) (h : Hp) (c : Hc) (w : World) (hs : HS w G X h c) (hk : HOk h) :
    Calls Tryz.prog 80 #[.pointer (some ⟨G, 0, none⟩)] w fun ev w' => ev = .returned (.tuple #[]) ∧ (∃ c', HS w' G X h.drain c') ∧ Safe X w w' := by
  have HS0 := Hid.mk hs
  have HK := Hid.mk hk
  have HLN := Hid.mk (lc_len hs.r)
  have hn24 := hk.ls_len
  have hc24 : c.lc.length ≤ 24 := by rw [HLN.out]; exact hn24
  obtain ⟨k0, k1, k2, k3, k4⟩ := hs.words
  have hGs := hs.r.gs
  clear hs hk
  go_enter Tryz.func80, Tryz.ntmps80
  go_wp2_with fail
  clear k0 k1 k2 k3 k4
  obtain ⟨n, hn⟩ : ∃ n, c.lc.length = n := ⟨_, rfl⟩
  have HN := Hid.mk hn
  obtain ⟨A, hA⟩ : ∃ A, c.al = A := ⟨_, rfl⟩
  have HA := Hid.mk hA
  rw [hn] at hc24 ⊢
  rw [hA]
  clear hn hA
  go_loopw [11] (fun s11 wr => ∃ (i : Nat) (y0 y1 : Zc), i ≤ n ∧ s11 = .int .i64 (i : Int) ∧ Hid (HS wr G X (drainL h (h.ls.take i)) { c with y0 := y0, y1 := y1 }) ∧ Hid (Safe X w wr)) (fun s11 _ => n - (intOf s11).toNat)
  case atStart => exact ⟨0, c.y0, c.y1, Nat.zero_le _, rfl, HS0, Safe.refl _ _⟩
  case round =>
    obtain ⟨i, y0, y1, hi, rfl, HSr, SFr⟩ := hrel
    clear HS0
    have hGr : G < wr.heap.size := HSr.out.r.gs
    by_cases hlt : i < n
    · have hlt2 : (i : Int) < n := by omega
      have hi1 : i < c.lc.length := by rw [HN.out]; exact hlt
      have hi2 : i < h.ls.length := by rw [← HLN.out]; exact hi1
      obtain ⟨gl, hgl, hgls, hglG, hglX, hglf⟩ := HSr.out.r.lblock (show 0 < c.lc.length by omega)
      obtain ⟨x0, x1, x2, x3⟩ := HSr.out.r.lcells hgl hi1
      have h7 : c.lc[i].l = h.ls[i] := by
        have h8 := lc_get HSr.out.r hi1 (by rw [(drainL_all h _).1]; exact hi2)
        simp only [(drainL_all h _).1] at h8
        exact h8
      have hgl' : c.al = some ⟨gl, 0, none⟩ := hgl
      have x0' : wr.cell? ⟨gl, i * 4, none⟩ = some (.int .i64 (c.lc[i].l.c : Int)) := x0
      have x1' : wr.cell? ⟨gl, i * 4 + 1, none⟩ = some (.int .i64 (c.lc[i].l.z : Int)) := x1
      have x2' : wr.cell? ⟨gl, i * 4 + 2, none⟩ = some (.int .i64 (c.lc[i].l.t : Int)) := x2
      have x3' : wr.cell? ⟨gl, i * 4 + 3, none⟩ = some (.slice c.lc[i].a c.lc[i].n c.lc[i].c) := x3
      clear x0 x1 x2 x3 hgl hglf
      have hrm : c.lc[i] ∈ c.lc := List.getElem_mem hi1
      have HOWN := HSr.out.r.pgs _ hrm
      have hlen := pg_len HOWN
      have hok := HK.out.lr _ (List.getElem_mem hi2)
      have h88 := hok.2.2.2.2.1
      have hpos := hok.2.2.2.1
      have HRDY : Hid (∀ j (hj : j < h.ls[i].p.length), _) := fun j hj => drain_ready HK.out hi2 hj
      have HNX := Hid.mk (drainL_next h h.ls hi2)
      rw [h7] at hlen
      have HOWN' : Hid ((pgR c.lc[i]).on wr 0) := HOWN
      have H7 := Hid.mk h7
      obtain rfl : A = some ⟨gl, 0, none⟩ := HA.out.symm.trans hgl'
      have HRM := Hid.mk hrm
      clear HOWN h7 hok hrm
      obtain ⟨r, hr⟩ : ∃ r, c.lc[i] = r := ⟨_, rfl⟩
      simp only [hr] at x0' x1' x2' x3' hlen HOWN' H7 HRM
      obtain ⟨pb, poff, hpa, _, _⟩ := row_elem encT_length (by decide) (own_row HOWN'.out) (j := 0) (by show 0 < r.l.p.length; rw [H7.out]; omega)
      rw [hpa] at x3'
      have HPA := Hid.mk hpa
      clear hr hpa hgl'
      go_wp2_with fail
      have hbw := below_alloc wr (.cells #[.int .i64 (r.l.c : Int), .int .i64 (r.l.z : Int), .int .i64 (r.l.t : Int), .slice (some ⟨pb, poff, none⟩) r.n r.c] 157)
      have HS5 := Hid.mk (HSr.out.below hbw)
      have SF5 := Hid.mk (SFr.out.then hbw)
      obtain ⟨we, rfl⟩ : ∃ we, we = wr := ⟨_, rfl⟩
      clear hbw HSr SFr x0' x1' x2' x3' hGr hgls
      generalize we.alloc (.cells #[.int .i64 (r.l.c : Int), .int .i64 (r.l.z : Int), .int .i64 (r.l.t : Int), .slice (some ⟨pb, poff, none⟩) r.n r.c] 157) = w5 at *
      go_loopw [18] (fun s18 wq => ∃ (j : Nat) (z0 z1 : Zc), j ≤ r.n ∧ s18 = .int .i64 (j : Int) ∧ Hid (HS wq G X (backAll (drainL h (h.ls.take i)) (h.ls[i].p.take j)) { c with y0 := z0, y1 := z1 }) ∧ Hid (Safe X w wq)) (fun s18 _ => r.n - (intOf s18).toNat)
      case atStart => exact ⟨0, y0, y1, Nat.zero_le _, rfl, HS5, SF5⟩
      case round =>
        obtain ⟨j, z0, z1, hj, rfl, HSq, SFq⟩ := hrel
        clear HS5 SF5
        by_cases hjl : j < r.n
        · have hjl2 : (j : Int) < r.n := by omega
          have hjp : j < h.ls[i].p.length := by omega
          have hjr : j < r.l.p.length := by rw [H7.out]; exact hjp
          obtain ⟨pb', poff', hp9, hpb, hpc⟩ := row_elem encT_length (by decide) (own_row (HSq.out.r.pgs r HRM.out)) (j := j) hjr
          obtain ⟨rfl, rfl⟩ : pb = pb' ∧ poff = poff' := by
            rw [HPA.out] at hp9
            simpa using hp9
          have hpc0 := encT_cells hpc
          rw [Nat.mul_one] at hpc0
          obtain ⟨P, hP⟩ : ∃ P, r.l.p[j] = P := ⟨_, rfl⟩
          have hP2 : h.ls[i].p[j] = P := by rw [← hP]; simp only [H7.out]
          obtain ⟨g1, g2, g3⟩ := drain_ready HK.out hi2 hjp
          have HBN := Hid.mk (backAll_next (drainL h (h.ls.take i)) h.ls[i].p hjp)
          rw [hP2] at g1 g2 g3 HBN
          rw [hP] at hpc0
          have G1 := Hid.mk g1
          have G2 := Hid.mk g2
          have G3 := Hid.mk g3
          clear hpc hP hP2 g1 g2 g3 hp9
          go_wp2_with fail
          refine (back_gen G P 0 X _ _ wr HSq.out G1.out G2.out G3.out).mono ?_
          rintro ev w6 ⟨rfl, ⟨u0, u1, hs6⟩, sf6⟩
          rw [← HBN.out] at hs6
          have HS6 := Hid.mk hs6
          have SF6 := Hid.mk (SFq.out.trans sf6)
          clear hs6 sf6 hpc0
          go_wp2
          go_roundw
          case rel => exact ⟨j + 1, u0, u1, by omega, by go_num, HS6, SF6⟩
          case measure => simp [intOf]; omega
        · obtain rfl : j = r.n := by omega
          have HS6 : Hid (HS wr G X (drainL h (h.ls.take (i + 1))) { c with y0 := z0, y1 := z1 }) := by
            unfold Hid
            rw [HNX.out]
            have h1 := HSq.out
            rw [List.take_of_length_le (show h.ls[i].p.length ≤ r.n by omega)] at h1
            exact h1
          go_wp2
          go_roundw
          case rel => exact ⟨i + 1, z0, z1, by omega, by go_num, HS6, SFq⟩
          case measure => simp [intOf]; omega
    · obtain rfl : i = n := by omega
      obtain ⟨hs6, sf6⟩ := HSr.out.lists (World.grownBy.refl wr _) (al' := none) (cl' := 0) (lc' := []) ⟨rfl, .inl ⟨rfl, rfl⟩⟩ (fun k hk => by cases hk) (OwnL.nil _ _) (fun r hr => by cases hr)
      have e : ({ drainL h (h.ls.take i) with ls := ([] : List Lc).map Lc.l } : Hp) = h.drain := by
        rw [List.take_of_length_le (by rw [← HLN.out, HN.out]; exact Nat.le_refl _)]
        rfl
      rw [e] at hs6
      have HS6 : Hid (HS (wr.setCell ⟨G, 3, none⟩ (.slice none 0 0)) G X h.drain _) := hs6
      have SF6 : Hid (Safe X w (wr.setCell ⟨G, 3, none⟩ (.slice none 0 0))) := SFr.out.trans sf6
      obtain ⟨k0, k1, k2, k3, k4⟩ := HSr.out.words
      have kf := HSr.out.fz 3
      clear hs6 sf6 e
      go_wp2
      refine bodyPost_end (v := .tuple #[]) (by simp [results, Tryz.results80, go_sem]) rfl ⟨rfl, ⟨_, HS6.out⟩, SF6.out⟩
end Go.Proofs.YtkcaheebaicinaaGreatDoor
/- Contract of package pages: Copy. -/
namespace Go.Proofs.YtkcaheebaicinaaGreatDoor
open Go.RowKit
set_option linter.unusedVariables false

section
variable {W Wm Wv : World} {bas bm bv g : Nat} {am av : Option Addr} {cm cv : Nat} {m : List Nat} {v : List Bk} {cpus : Nat}
/-- the beginning of a copy: the box is laid last -/
theorem cz_new (hm : Wm.ownsRow bm 3 1 (.slice am m.length cm) m.length (flat encT m)) (hv : Wv.ownsRow bv 95 3 (.slice av v.length cv) v.length (flat encBk v)) (h1 : bas ≤ bm) (h2 : bas ≤ bv) (hbm : Below Wm.heap.size Wm W) (hbv : Below Wv.heap.size Wv W) (hd : Wm.heap.size ≤ bv ∨ Wv.heap.size ≤ bm) (hbs : bas ≤ W.heap.size) :
    CZ (W.alloc (.cells #[.slice none 0 0, .slice am m.length cm, .int .i64 (cpus : Int), .slice none 0 0, .slice av v.length cv] 35)) bas W.heap.size [] none 0 am cm m av cv v cpus := by
  have hm1 := own_below (own_below hm hbm (Nat.le_refl _)) (below_alloc W (.cells #[.slice none 0 0, .slice am m.length cm, .int .i64 (cpus : Int), .slice none 0 0, .slice av v.length cv] 35)) (Nat.le_refl _)
  have hv1 := own_below (own_below hv hbv (Nat.le_refl _)) (below_alloc W (.cells #[.slice none 0 0, .slice am m.length cm, .int .i64 (cpus : Int), .slice none 0 0, .slice av v.length cv] 35)) (Nat.le_refl _)
  have e0 : ∀ (r : Rs), (zzR none 0 []).off r := fun r k h => by cases h
  exact ⟨⟨rfl, .inl ⟨rfl, rfl⟩⟩, own_base hv1 h2, own_base hm1 h1, fun y hy => (by simp at hy), e0 _, e0 _, fun y hy => (by simp at hy), fun k h3 h4 => by
    have g1 := hm.lt k h4
    have g2 := hv.lt k h3
    omega, fun y hy => (by simp at hy), fun e => (by cases e), fun e => by have := (hv.lt _ e).2; have := hbv.size; omega, fun e => by have := (hm.lt _ e).2; have := hbm.size; omega, fun y hy => (by simp at hy), ⟨hbs, by simp⟩, box_new _ _ _, box_frz _ _ _⟩
/-- .. or earlier -/
theorem cz_set (hm : Wm.ownsRow bm 3 1 (.slice am m.length cm) m.length (flat encT m)) (hv : Wv.ownsRow bv 95 3 (.slice av v.length cv) v.length (flat encBk v)) (h1 : bas ≤ bm) (h2 : bas ≤ bv) (hbm : Below Wm.heap.size Wm W) (hbv : Below Wv.heap.size Wv W) (hd : Wm.heap.size ≤ bv ∨ Wv.heap.size ≤ bm)
    (hk : ∀ o, W.cell? ⟨g, o, none⟩ = (#[.slice none 0 0, .slice none 0 0, .int .i64 0, .slice none 0 0, .slice none 0 0] : Array Value)[o]?) (hf : ∀ o, W.frozen? ⟨g, o, none⟩ = false) (hg : bas ≤ g ∧ g < W.heap.size) (hgm : g < bm ∨ Wm.heap.size ≤ g) (hgv : g < bv ∨ Wv.heap.size ≤ g) :
    CZ (((((W.setCell ⟨g, 0, none⟩ (.slice none 0 0)).setCell ⟨g, 1, none⟩ (.slice am m.length cm)).setCell ⟨g, 2, none⟩ (.int .i64 (cpus : Int))).setCell ⟨g, 3, none⟩ (.slice none 0 0)).setCell ⟨g, 4, none⟩ (.slice av v.length cv)) bas g [] none 0 am cm m av cv v cpus := by
  have nm := own_ne hm hgm
  have nv := own_ne hv hgv
  have s5 : ∀ {b : Nat} {e : TypeId} {size : Nat} {x : Value} {n : Nat} {xs : List Value}, W.ownsRow b e size x n xs → x.ownBlock ≠ some g → (((((W.setCell ⟨g, 0, none⟩ (.slice none 0 0)).setCell ⟨g, 1, none⟩ (.slice am m.length cm)).setCell ⟨g, 2, none⟩ (.int .i64 (cpus : Int))).setCell ⟨g, 3, none⟩ (.slice none 0 0)).setCell ⟨g, 4, none⟩ (.slice av v.length cv)).ownsRow b e size x n xs := fun h hn =>
    own_set (own_set (own_set (own_set (own_set h hn _) hn _) hn _) hn _) hn _
  have hm1 := s5 (own_below hm hbm (Nat.le_refl _)) nm
  have hv1 := s5 (own_below hv hbv (Nat.le_refl _)) nv
  have e0 : ∀ (r : Rs), (zzR none 0 []).off r := fun r k h => by cases h
  exact ⟨⟨rfl, .inl ⟨rfl, rfl⟩⟩, own_base hv1 h2, own_base hm1 h1, fun y hy => (by simp at hy), e0 _, e0 _, fun y hy => (by simp at hy), fun k h3 h4 => by
    have g1 := hm.lt k h4
    have g2 := hv.lt k h3
    omega, fun y hy => (by simp at hy), fun e => (by cases e), nv, nm, fun y hy => (by simp at hy), ⟨hg.1, by simpa using hg.2⟩, box_set (box_set (box_set (box_set (box_set hk 0 _) 1 _) 2 _) 3 _) 4 _, frz_set (frz_set (frz_set (frz_set (frz_set hf _ _) _ _) _ _) _ _) _ _⟩
end

theorem copy_own {W W0 : World} {G : Nat} {X : Nat → Prop} {h : Hp} {c : Hc} {r : Lc} (hs : HR W G X h c) (ho : W.ownsRow W0.heap.size 3 1 (.slice r.a r.n r.c) r.n (flat encT r.l.p)) (h0 : HR W0 G X h c) : OwnL W 0 ((c.lc ++ [r]).map pgR) := by
  have h1 : OwnL W 0 (c.lc.map pgR) := hs.own.sub (by unfold Hc.rows; exact ((List.sublist_cons_self _ _).trans (List.sublist_cons_self _ _)).trans (List.sublist_cons_self _ _))
  have h2 : OwnL W 0 (pgR r :: c.lc.map pgR) := h1.cons (r' := pgR r) (bs := W0.heap.size) ho (Nat.zero_le _) fun s hs' g hg => by
    have h3 := h0.own.lt s (rows_pg hs') g hg
    exact h3.2
  refine h2.perm ?_
  rw [List.map_append]
  exact (List.perm_append_singleton _ _).symm
theorem copy_fresh {W W' W0 : World} {G : Nat} {X : Nat → Prop} {h : Hp} {c : Hc} {r : Lc} (ho : W.ownsRow W0.heap.size 3 1 (.slice r.a r.n r.c) r.n (flat encT r.l.p)) (h0 : HR W0 G X h c) : ∀ s ∈ (c.lc ++ [r]).map pgR, ∀ g, s.v.ownBlock = some g → (∃ r0 ∈ c.lc.map pgR, r0.v.ownBlock = some g) ∨ Fresh W' G X h c g := fun s hs g hg => by
  rw [List.map_append, List.mem_append] at hs
  rcases hs with hs | hs
  · exact .inl ⟨s, hs, hg⟩
  · obtain rfl : s = pgR r := by simpa using hs
    exact .inr (h0.fresh (ho.lt g hg).1)
theorem copy_ge {W : World} {G : Nat} {X : Nat → Prop} {h : Hp} {c : Hc} {B : Nat} (hs : HR W G X h c) (hx : ∀ k, k < B → X k) : ∀ k, (lsR c).v.ownBlock = some k → B ≤ k := fun k hk => by
  rcases Nat.lt_or_ge k B with h1 | h1
  · exact absurd (hx k h1) (hs.og _ (rows_ls c h) k hk).2
  · exact h1
theorem info_zc : (Tryz.prog.info? 110).map (fun i => (i.zero, i.size, i.bytes)) = some (some (.agg #[.int .i64 0, .int .i64 0, .slice none 0 0, .slice none 0 0]), 4, 64) := by kernel_rfl
theorem zone_len {h : Hp} (hk : HOk h) (i : Nat) : (h.zone i).l.length ≤ 256 ∧ (h.zone i).y.length ≤ 256 := by
  have hz := hk.zone i
  have h1 := OkL.length_le hz.2 (fun b hb => (hz.2.fit b hb).1.2.2.1)
  have h2 := hz.1.e2
  have h3 := hz.1.len
  omega
set_option maxHeartbeats 8000000 in
set_option maxRecDepth 100000 in
theorem copyH_pg (az am al av : Option Addr) (cz cm cl cv nl nv : Nat) (y0 y1 : Zc) (lc : List Lc) (h : Hp) (w : World) (hh : HAt w az am al av nl nv y0 y1 lc h) (hk : HOk h) (hnv : nv ≤ 1000) :
    Calls Tryz.prog 61 #[.agg #[.slice az 2 cz, .slice am 2 cm, .int .i64 h.cpus, .slice al nl cl, .slice av nv cv]] w fun ev w' => ∃ (g : Nat) (c' : Hc), ev = .returned (.agg (c'.vals h)) ∧ HS w' g (fun k => k < w.heap.size) h c' ∧ w.heap.size ≤ g ∧ Below w.heap.size w w' := by
  obtain rfl := hh.nv
  obtain ⟨K1, K2, F1, F2, hsz, hbw⟩ := boxes2 w #[.slice az 2 cz, .slice am 2 cm, .int .i64 (h.cpus : Int), .slice al nl cl, .slice av h.live.length cv] 35 #[.slice none 0 0, .slice none 0 0, .int .i64 0, .slice none 0 0, .slice none 0 0] 35
  have HH := Hid.mk hh
  have HK := Hid.mk hk
  have HB1 := Hid.mk hbw
  clear hh hk
  have hw1s : ((w.alloc (.cells #[.slice az 2 cz, .slice am 2 cm, .int .i64 (h.cpus : Int), .slice al nl cl, .slice av h.live.length cv] 35)).alloc (.cells #[.slice none 0 0, .slice none 0 0, .int .i64 0, .slice none 0 0, .slice none 0 0] 35)).heap.size = w.heap.size + 2 := by simp
  have HW1S := Hid.mk hw1s
  clear hw1s
  go_enter Tryz.func61, Tryz.ntmps61
  go_upto_region 1 with fail
  generalize (w.alloc (.cells #[.slice az 2 cz, .slice am 2 cm, .int .i64 (h.cpus : Int), .slice al nl cl, .slice av h.live.length cv] 35)).alloc (.cells #[.slice none 0 0, .slice none 0 0, .int .i64 0, .slice none 0 0, .slice none 0 0] 35) = w1 at *
  have q1 := (HH.out.below HB1.out).mr
  have q2 := (HH.out.below HB1.out).vr
  have LK0 : ∀ W, Below w1.heap.size w1 W → ∀ o, W.cell? ⟨w.heap.size, o, none⟩ = (#[.slice az 2 cz, .slice am 2 cm, .int .i64 (h.cpus : Int), .slice al nl cl, .slice av h.live.length cv] : Array Value)[o]? := fun W h o => box_step K1 (by omega) h o
  go_cut [3] (fun s3 wx => ∃ (g : Nat) (am' av' : Option Addr) (cm' cv' : Nat), s3 = .pointer (some ⟨g, 0, none⟩) ∧ Hid (CZ wx w1.heap.size g [] none 0 am' cm' [h.m0, h.m1] av' cv' h.live h.cpus) ∧ Hid (Below w1.heap.size w1 wx))
  case first =>
    go_region_held3 (fun W => Below w1.heap.size w1 W) ((repeat (first | with_reducible assumption | with_reducible exact Below.refl _ _ | with_reducible refine Below.setCell ?_ ?_ _ | with_reducible apply Below.drew | with_reducible refine Below.step ?_ (below_alloc _ _) | with_reducible refine Below.step ?_ (by with_reducible assumption) | (simp only; omega)))) (first | (go_at_call 60; refine (cloneT _ 2 _ [h.m0, h.m1] _ rfl (by decide) (q1.below (by assumption))).mono ?_; rintro e wm ⟨am', cm', rfl, hom, hbm⟩; (try ((have hx : Below ((w1.alloc (.cells (#[.slice none 0 0, .slice none 0 0, .int .i64 0, .slice none 0 0, .slice none 0 0] : Array Value) 35)).drew).heap.size ((w1.alloc (.cells (#[.slice none 0 0, .slice none 0 0, .int .i64 0, .slice none 0 0, .slice none 0 0] : Array Value) 35)).drew) wm := by with_reducible exact hbm); have KA := box_step (w1 := (w1.alloc (.cells (#[.slice none 0 0, .slice none 0 0, .int .i64 0, .slice none 0 0, .slice none 0 0] : Array Value) 35)).drew) (vs := #[.slice none 0 0, .slice none 0 0, .int .i64 0, .slice none 0 0, .slice none 0 0]) (fun o => box_new w1 #[.slice none 0 0, .slice none 0 0, .int .i64 0, .slice none 0 0, .slice none 0 0] 35 o) (show w1.heap.size < ((w1.alloc (.cells (#[.slice none 0 0, .slice none 0 0, .int .i64 0, .slice none 0 0, .slice none 0 0] : Array Value) 35)).drew).heap.size by simp) hx; have FA := frz_step (w1 := (w1.alloc (.cells (#[.slice none 0 0, .slice none 0 0, .int .i64 0, .slice none 0 0, .slice none 0 0] : Array Value) 35)).drew) (fun o => box_frz w1 #[.slice none 0 0, .slice none 0 0, .int .i64 0, .slice none 0 0, .slice none 0 0] 35 o) (show w1.heap.size < ((w1.alloc (.cells (#[.slice none 0 0, .slice none 0 0, .int .i64 0, .slice none 0 0, .slice none 0 0] : Array Value) 35)).drew).heap.size by simp) hx; have SA : w1.heap.size < wm.heap.size := Nat.lt_of_lt_of_le (show w1.heap.size < ((w1.alloc (.cells (#[.slice none 0 0, .slice none 0 0, .int .i64 0, .slice none 0 0, .slice none 0 0] : Array Value) 35)).drew).heap.size by simp) hx.size)); (first | have SM : w1.heap.size ≤ wm.heap.size := Nat.le_of_lt SA | have SM : w1.heap.size ≤ wm.heap.size := hbm.size)) | (go_at_call 98; refine (cloneBk _ _ _ h.live _ rfl (by omega) (q2.below (by assumption))).mono ?_; rintro e wv ⟨av', cv', rfl, hov, hbv⟩; (try first | (have KB := box_step KA SA hbv; have FB := frz_step FA SA hbv) | ((have hx : Below (wm.alloc (.cells (#[.slice none 0 0, .slice none 0 0, .int .i64 0, .slice none 0 0, .slice none 0 0] : Array Value) 35)).heap.size (wm.alloc (.cells (#[.slice none 0 0, .slice none 0 0, .int .i64 0, .slice none 0 0, .slice none 0 0] : Array Value) 35)) wv := by with_reducible exact hbv); have KB := box_step (w1 := wm.alloc (.cells (#[.slice none 0 0, .slice none 0 0, .int .i64 0, .slice none 0 0, .slice none 0 0] : Array Value) 35)) (vs := #[.slice none 0 0, .slice none 0 0, .int .i64 0, .slice none 0 0, .slice none 0 0]) (fun o => box_new wm #[.slice none 0 0, .slice none 0 0, .int .i64 0, .slice none 0 0, .slice none 0 0] 35 o) (show wm.heap.size < (wm.alloc (.cells (#[.slice none 0 0, .slice none 0 0, .int .i64 0, .slice none 0 0, .slice none 0 0] : Array Value) 35)).heap.size by simp) hx; have FB := frz_step (w1 := wm.alloc (.cells (#[.slice none 0 0, .slice none 0 0, .int .i64 0, .slice none 0 0, .slice none 0 0] : Array Value) 35)) (fun o => box_frz wm #[.slice none 0 0, .slice none 0 0, .int .i64 0, .slice none 0 0, .slice none 0 0] 35 o) (show wm.heap.size < (wm.alloc (.cells (#[.slice none 0 0, .slice none 0 0, .int .i64 0, .slice none 0 0, .slice none 0 0] : Array Value) 35)).heap.size by simp) hx))))
    all_goals (go_wp2_with fail; go_meet)
    · exact ⟨wv.heap.size, am', av', cm', cv', rfl, cz_new (m := [h.m0, h.m1]) hom hov (Nat.le_refl _) SM hbv (Below.refl _ _) (.inl (Nat.le_refl _)) (Nat.le_trans SM hbv.size), by assumption⟩
    · have hs := hbv.size
      simp at hs
      exact ⟨wm.heap.size, am', av', cm', cv', rfl, cz_set (m := [h.m0, h.m1]) hom hov (Nat.le_refl _) (by simp; omega) (Below.step (below_alloc _ _) hbv) (Below.refl _ _) (.inl (by simp)) KB FB ⟨SM, by omega⟩ (.inr (Nat.le_refl _)) (.inl (by simp)), by assumption⟩
    · have hs := hbv.size
      exact ⟨w1.heap.size, am', av', cm', cv', rfl, cz_set (m := [h.m0, h.m1]) hom hov (by simp) SM hbv (Below.refl _ _) (.inl (Nat.le_refl _)) KB FB ⟨Nat.le_refl _, by omega⟩ (.inl (by simp)) (.inl SA), by assumption⟩
  case rest =>
    obtain ⟨g, am', av', cm', cv', rfl, HCZ, HBX⟩ := hcut
    clear q1 q2
    have K2h := Hid.mk K2
    have F2h := Hid.mk F2
    have k0 := LK0 wc HBX.out 0
    have LKH := Hid.mk LK0
    simp only [List.getElem?_toArray, List.getElem?_cons_zero] at k0
    clear LK0 K1 K2 F1 F2 hbw
    obtain ⟨qb, qo, ha1, _, _⟩ := row_elem encZc_length (by decide) HH.out.zr (j := 0) (by simp)
    obtain rfl := ha1
    have hwcs := HBX.out.size
    have hBw : w.heap.size < wc.heap.size := by omega
    go_wp2_with fail
    go_loopw [20] (fun s20 wr => ∃ (i : Nat) (zs : List Zc) (az' : Option Addr) (cz' : Nat), i ≤ 2 ∧ s20 = .int .i64 (i : Int) ∧ zs.length = i ∧ Hid (∀ j (hj : j < zs.length), zs[j].z = h.zone j) ∧ Hid (CZ wr w1.heap.size g zs az' cz' am' cm' [h.m0, h.m1] av' cv' h.live h.cpus) ∧ Hid (Below w1.heap.size w1 wr)) (fun s20 _ => 2 - (intOf s20).toNat)
    case atStart => exact ⟨0, [], none, 0, Nat.zero_le _, rfl, rfl, fun j hj => (by simp at hj), HCZ, HBX⟩
    case round =>
      obtain ⟨i, zs, az', cz', hi, rfl, hzl, HZE, HC, HB⟩ := hrel
      clear HCZ HBX k0
      by_cases hlt : i < 2
      · subst hzl
        have hlt2 : ((zs.length : Nat) : Int) < 2 := by omega
        obtain ⟨y, hyz, hya, hrow⟩ : ∃ y : Zc, y.z = h.zone zs.length ∧ ZAt wr y.a1 y.a2 y.n1 y.n2 (h.zone zs.length) ∧ (wr.cell? ⟨qb, qo + zs.length * 4, none⟩ = some (.int .i64 (h.zone zs.length).f) ∧ wr.cell? ⟨qb, qo + zs.length * 4 + 1, none⟩ = some (.int .i64 (h.zone zs.length).e) ∧ wr.cell? ⟨qb, qo + zs.length * 4 + 2, none⟩ = some (.slice y.a1 y.n1 y.c1) ∧ wr.cell? ⟨qb, qo + zs.length * 4 + 3, none⟩ = some (.slice y.a2 y.n2 y.c2)) := by
          have hA := HH.out.below (Below.trans HB1.out (HB.out.mono (HB1.out.size)))
          obtain ⟨b1, o1, h1, h2, h3⟩ := row_elem encZc_length (by decide) hA.zr (j := zs.length) (by simp; omega)
          obtain ⟨rfl, rfl⟩ : qb = b1 ∧ qo = o1 := by simpa using h1
          have h4 := encZc_cells h3
          obtain h5 | h5 : zs.length = 0 ∨ zs.length = 1 := by omega
          · refine ⟨y0, ?_, ?_, ?_⟩
            · rw [h5]; exact hA.e0
            · rw [h5]; exact hA.t0
            · have e : [y0, y1][zs.length]'(by simp; omega) = y0 := by simp [h5]
              have e2 : h.zone zs.length = h.z0 := by rw [h5]; rfl
              rw [e, hA.e0] at h4
              rw [e2]
              exact h4
          · refine ⟨y1, ?_, ?_, ?_⟩
            · rw [h5]; exact hA.e1
            · rw [h5]; exact hA.t1
            · have e : [y0, y1][zs.length]'(by simp; omega) = y1 := by simp [h5]
              have e2 : h.zone zs.length = h.z1 := by rw [h5]; rfl
              rw [e, hA.e1] at h4
              rw [e2]
              exact h4
        obtain ⟨z0, z1, z2, z3⟩ := hrow
        have hzl2 := zone_len HK.out zs.length
        have HAT := Hid.mk hya
        have hqb : qb < wr.heap.size := World.block_lt_of_cell? _ _ z0
        have hnn := hya.l1
        have hnn2 := hya.l2
        have hL1 : y.n1 ≤ 1000 := by omega
        have hL2 : y.n2 ≤ 1000 := by omega
        obtain ⟨z, hz⟩ : ∃ z, h.zone zs.length = z := ⟨_, rfl⟩
        rw [hz] at z0 z1 HAT
        have HZ := Hid.mk hz
        clear hya hz hyz hnn hnn2 hzl2
        go_wp2_with fail
        obtain ⟨E1, EF1, esz, ebw⟩ := boxes1 wr #[.int .i64 (z.f : Int), .int .i64 (z.e : Int), .slice y.a1 y.n1 y.c1, .slice y.a2 y.n2 y.c2] 110
        have e0 := E1 0
        have e1 := E1 1
        have e2 := E1 2
        have e3 := E1 3
        simp only [List.getElem?_toArray, List.getElem?_cons_zero, List.getElem?_cons_succ] at e0 e1 e2 e3
        have HC5 := Hid.mk (HC.out.below ebw)
        have HB5 := Hid.mk (Below.step HB.out ebw)
        have HAT5 := Hid.mk (HAT.out.below ebw)
        clear E1 EF1 ebw z0 z1 z2 z3 HC HB HAT
        generalize wr.alloc (.cells #[.int .i64 (z.f : Int), .int .i64 (z.e : Int), .slice y.a1 y.n1 y.c1, .slice y.a2 y.n2 y.c2] 110) = w5 at *
        have g0 := HC5.out.k 0
        have hgs5 := HC5.out.gs.2
        simp only [List.getElem?_toArray, List.getElem?_cons_zero] at g0
        have HC5d := Hid.mk (HC5.out.below ((Below.refl w5.heap.size w5).drew))
        have HAT5d := Hid.mk (HAT5.out.below ((Below.refl w5.heap.size w5).drew))
        have HB5d := Hid.mk HB5.out.drew
        obtain ⟨ti, hti, htz, hts, htb⟩ := info_parts info_zc
        go_region_law (first | (refine step_append_lies _ rfl _ _ 31 rfl w1.heap.size 110 ti (.agg #[.int .i64 0, .int .i64 0, .slice none 0 0, .slice none 0 0]) 4 64 Tryz.underlying31 hti htz hts htb rfl (by decide) (.slice az' zs.length cz') zs.length (flat encZc zs) rfl hc8.out.oz ⟨w6.heap.size, 0, none⟩ 1 1 [.int .i64 (z.f : Int), .int .i64 (z.e : Int), .slice a1' y.n1 c1', .slice a2' y.n2 c2'] rfl rfl hnw.out (by simp [Value.oneCell']) (by decide) (by unfold maxLen; omega) (by omega) hbs8 _ rfl ?_; intro g7 cap7 w7 ho7 hg7 hl7 hlt7; have q7 := (box_grown hc8.out.k hc8.out.gs.2 hg7 (fun e => hc8.out.gz e.symm) 0).trans (show _ = some (.slice az' zs.length cz') from rfl); have f7 := frz_grown hc8.out.fz hc8.out.gs.2 hg7 (fun e => hc8.out.gz e.symm) 0) | (go_simp; go_at_call 93; refine (copy_ok y.a1 y.a2 y.n1 y.n2 y.c1 y.c2 z.f z.e z _ HAT5d.out hL1 hL2).mono ?_; rintro ev w6 ⟨a1', a2', c1', c2', rfl, hz6, hb6⟩; have hc6 := HC5d.out.below hb6; have hg6 := hc6.gs.2; have q6' := (hc6.k 0).trans (show _ = some (.slice az' zs.length cz') from rfl); have hc8 := Hid.mk (hc6.below (below_alloc w6 (.cells #[.int .i64 (z.f : Int), .int .i64 (z.e : Int), .slice a1' y.n1 c1', .slice a2' y.n2 c2'] 110))); have hnw := Hid.mk (World.news_of_block (heap_alloc_new w6 (.cells #[.int .i64 (z.f : Int), .int .i64 (z.e : Int), .slice a1' y.n1 c1', .slice a2' y.n2 c2'] 110))); have HB6 := Hid.mk (Below.step HB5d.out hb6); have hbs8 : w1.heap.size ≤ (w6.alloc (.cells #[.int .i64 (z.f : Int), .int .i64 (z.e : Int), .slice a1' y.n1 c1', .slice a2' y.n2 c2'] 110)).heap.size := Nat.le_trans HB6.out.size (below_alloc w6 _).size; clear hc6))
        all_goals
          have hba := below_alloc w6 (.cells #[.int .i64 (z.f : Int), .int .i64 (z.e : Int), .slice a1' y.n1 c1', .slice a2' y.n2 c2'] 110)
          have ho8 : w7.ownsRow w1.heap.size 110 4 (.slice (some ⟨g7, 0, none⟩) (zs.length + 1) cap7) (zs.length + 1) (flat encZc (zs ++ [⟨z, a1', a2', y.n1, y.n2, c1', c2'⟩])) := by
            rw [flat_append, flat_one]
            exact ho7
          have C9 := Hid.mk (HC5d.out.add (Below.step hb6 hba) (hz6.below hba) ho8 hg7 hl7)
          have HB9 := Hid.mk (Below.setCell (Below.grown (Below.step HB6.out hba) hg7 hbs8 (fun k hk => (HC5d.out.oz.lt k hk).1)) (show w1.heap.size ≤ (⟨g, 0, none⟩ : Addr).block from HC5d.out.gs.1) (.slice (some ⟨g7, 0, none⟩) (zs.length + 1) cap7))
          have HZ9 : Hid (∀ j (hj : j < (zs ++ [(⟨z, a1', a2', y.n1, y.n2, c1', c2'⟩ : Zc)]).length), (zs ++ [(⟨z, a1', a2', y.n1, y.n2, c1', c2'⟩ : Zc)])[j].z = h.zone j) := fun j hj => by
            by_cases hjl : j < zs.length
            · rw [List.getElem_append_left hjl]
              exact HZE.out j hjl
            · have hje : j = zs.length := by simp at hj; omega
              subst hje
              rw [List.getElem_append_right (Nat.le_refl _)]
              simp [HZ.out]
          clear ho7 ho8 hg7 hl7 hba hc8 hnw HC5 HC5d HB5 HB5d HAT5 HAT5d hz6 hb6 q7 f7
          go_wp2
          go_roundw
          case rel => exact ⟨zs.length + 1, _, _, _, by omega, by go_num, by simp, HZ9, C9, HB9⟩
          case measure => simp [intOf]; omega
      · have hi22 : zs.length = 2 := by omega
        have hlt2 : ¬ ((i : Int) < 2) := by omega
        obtain ⟨ya, yb, rfl⟩ : ∃ ya yb, zs = [ya, yb] := by
          match zs, hi22 with
          | [a, b], _ => exact ⟨a, b, rfl⟩
        have hya := HZE.out 0 (by simp)
        have hyb := HZE.out 1 (by simp)
        have hs0 := HC.out.done (X := fun k => k < w1.heap.size) (fun k hk => hk)
        have HS0 : Hid (HS wr g (fun k => k < w1.heap.size) { h with ls := h.ls.take 0 } ⟨az', cz', am', cm', none, 0, av', cv', ya, yb, []⟩) := by
          have e0 : ya.z = h.z0 := hya
          have e1 : yb.z = h.z1 := hyb
          unfold Hid
          rw [e0, e1] at hs0
          exact hs0
        have hgb := HC.out.gs.1
        have hBr : w.heap.size < wr.heap.size := by have := HB.out.size; omega
        have k3 := LKH.out wr HB.out 3
        simp only [List.getElem?_toArray, List.getElem?_cons_zero, List.getElem?_cons_succ] at k3
        have hnl := HH.out.nl
        have hll := HH.out.ll
        have hlc := HK.out.ls_len
        have hlen : lc.length = h.ls.length := by rw [← hll, List.length_map]
        clear hs0 hya hyb HC HZE hi22
        have HI0 := Hid.mk hzl
        clear hzl hlt hi
        obtain ⟨i0, rfl⟩ : ∃ i0, i0 = i := ⟨_, rfl⟩
        obtain rfl := hnl
        have hn24 : lc.length ≤ 24 := by omega
        have HLN := Hid.mk hlen
        have HLL := Hid.mk hll
        clear hlen hll hlc
        go_wp2_with fail
        clear k3
        go_loopw [35] (fun s35 wq => ∃ (i : Nat) (ci : Hc), i ≤ lc.length ∧ s35 = .int .i64 (i : Int) ∧ Hid (HS wq g (fun k => k < w1.heap.size) { h with ls := h.ls.take i } ci) ∧ Hid (Below w1.heap.size w1 wq)) (fun s35 _ => lc.length - (intOf s35).toNat)
        case atStart => exact ⟨0, _, Nat.zero_le _, rfl, HS0, HB⟩
        case round =>
          obtain ⟨i, ci, hi, rfl, HSr, HBr⟩ := hrel
          clear HS0 HB
          by_cases hlt : i < lc.length
          · have hlt2 : (i : Int) < lc.length := by omega
            have hA := HH.out.below (Below.trans HB1.out (HBr.out.mono (HB1.out.size)))
            obtain ⟨pb, poff, hpa, hpb, hpc⟩ := row_elem encLc_length (by decide) hA.lr hlt
            obtain ⟨x0, x1, x2, x3⟩ := encLc_cells hpc
            have hpr := hA.pr _ (List.getElem_mem hlt)
            have hi2 : i < h.ls.length := by rw [← HLN.out]; exact hlt
            have h7 : lc[i].l = h.ls[i] := by
              have h3 := congrArg (·[i]?) HLL.out
              simp [hlt, hi2] at h3
              exact h3
            have h8 := (HK.out.lr _ (List.getElem_mem hi2)).2.2.2.2.1
            obtain ⟨r, hr⟩ : ∃ r, lc[i] = r := ⟨_, rfl⟩
            simp only [hr] at x0 x1 x2 x3 hpr h7
            rw [← h7] at h8
            have H7 := Hid.mk h7
            obtain ⟨hrn, hrow⟩ := hpr
            have hn8 : r.n ≤ 8 := by omega
            have HROW := Hid.mk hrow
            have hwr7 : w1.heap.size ≤ wr.heap.size := HBr.out.size
            obtain rfl := hpa
            clear hpc hA hr hrow h7
            go_wp2_with fail
            obtain ⟨E1, EF1, esz, ebw⟩ := boxes1 wr #[.int .i64 (r.l.c : Int), .int .i64 (r.l.z : Int), .int .i64 (r.l.t : Int), .slice r.a r.n r.c] 157
            have HS5 := Hid.mk (HSr.out.new ebw)
            have HB5 := Hid.mk (Below.step HBr.out ebw)
            have HROW5 := Hid.mk (HROW.out.below ebw)
            have e3 := E1 3
            simp only [List.getElem?_toArray, List.getElem?_cons_zero, List.getElem?_cons_succ] at e3
            have HE := Hid.mk E1
            have HEF := Hid.mk EF1
            clear E1 EF1 ebw x0 x1 x2 x3 HROW HSr HBr
            generalize wr.alloc (.cells #[.int .i64 (r.l.c : Int), .int .i64 (r.l.z : Int), .int .i64 (r.l.t : Int), .slice r.a r.n r.c] 157) = w5 at *
            generalize wr.heap.size = T7 at *
            have hXT : (fun k => k < w1.heap.size ∨ (T7 ≤ k ∧ k < w5.heap.size)) T7 := .inr ⟨Nat.le_refl _, esz⟩
            clear e3
            refine (cloneT r.a r.n r.c r.l.p w5 hrn (by omega) HROW5.out).mono ?_
            rintro ev w6 ⟨a', c', rfl, ho6, hb6⟩
            have HE6 := box_step HE.out esz hb6
            have HEF6 := frz_step HEF.out esz hb6
            have esz6 : T7 < w6.heap.size := Nat.lt_of_lt_of_le esz hb6.size
            have HS7 := Hid.mk ((HS5.out.below hb6).far hXT 3 (.slice a' r.n c'))
            have HO7 : Hid ((w6.setCell ⟨T7, 3, none⟩ (.slice a' r.n c')).ownsRow w5.heap.size 3 1 (.slice a' r.n c') r.n (flat encT r.l.p)) := own_set (i := 3) ho6 (own_ne ho6 (b := T7) (.inl esz)) (.slice a' r.n c')
            have K7 := box_set HE6 3 (.slice a' r.n c')
            have HB7 := Hid.mk (Below.setCell (Below.step HB5.out hb6) (show w1.heap.size ≤ (⟨T7, 3, none⟩ : Addr).block from hwr7) (.slice a' r.n c'))
            have f3 := HEF6 3
            have e3' := HE6 3
            simp only [List.getElem?_toArray, List.getElem?_cons_zero, List.getElem?_cons_succ] at e3'
            have k0' := K7 0
            have k1' := K7 1
            have k2' := K7 2
            have k3' := K7 3
            simp only [List.setIfInBounds_toArray, List.set_cons_zero, List.set_cons_succ, List.getElem?_toArray, List.getElem?_cons_zero, List.getElem?_cons_succ] at k0' k1' k2' k3'
            obtain ⟨_, _, _, q3, _⟩ := HS7.out.words
            have H8 := Hid.mk (HS7.out.below (below_alloc (w6.setCell ⟨T7, 3, none⟩ (.slice a' r.n c')) (.cells #[.int .i64 (r.l.c : Int), .int .i64 (r.l.z : Int), .int .i64 (r.l.t : Int), .slice a' r.n c'] 157)))
            have hnw := (World.news_of_block (heap_alloc_new (w6.setCell ⟨T7, 3, none⟩ (.slice a' r.n c')) (.cells #[.int .i64 (r.l.c : Int), .int .i64 (r.l.z : Int), .int .i64 (r.l.t : Int), .slice a' r.n c'] 157)))
            have HNE : Hid ((lsR ci).v.ownBlock ≠ some g) := fun e => (H8.out.r.og _ (rows_ls ci _) g e).1 rfl
            have hs67 : (w6.setCell ⟨T7, 3, none⟩ (.slice a' r.n c')).heap.size = w6.heap.size := by simp
            rw [hs67] at hnw
            have HNW := Hid.mk hnw
            clear hnw hs67
            obtain ⟨ti, hti, htz, hts, htb⟩ := info_parts info_lc
            have hcl : ci.lc.length ≤ 24 := by have h1 := lc_len H8.out.r; rw [h1]; simp; omega
            have hgs6 : g < w6.heap.size := (HS5.out.below hb6).r.gs
            have H5 := Hid.mk HS5.out
            have HB6 := Hid.mk hb6
            clear HE6 HEF6 K7 ho6 hb6
            go_wp2_with (at_builtin; refine wpList_append_lies _ rfl _ _ 32 rfl 0 157 ti (.agg #[.int .i64 0, .int .i64 0, .int .i64 0, .slice none 0 0]) 4 48 Tryz.underlying32 hti htz hts htb rfl (by decide) (.slice ci.al ci.lc.length ci.cl) ci.lc.length (flat encLc ci.lc) rfl H8.out.r.lsr ⟨w6.heap.size, 0, none⟩ 1 1 [.int .i64 (r.l.c : Int), .int .i64 (r.l.z : Int), .int .i64 (r.l.t : Int), .slice a' r.n c'] rfl rfl HNW.out (by simp [Value.oneCell']) (by decide) (by unfold maxLen; omega) (by omega) (Nat.zero_le _) _ rfl ?_; intro g9 cap9 w9 ho9 hg9 hl9 hlt9; have q9 := (box_grown H8.out.k H8.out.r.gs hg9 (fun e => HNE.out e.symm) 3).trans (show _ = some (.slice ci.al ci.lc.length ci.cl) from rfl); have f9 := frz_grown H8.out.fz H8.out.r.gs hg9 (fun e => HNE.out e.symm) 3)
            have hl1 : (ci.lc ++ [(⟨r.l, a', r.n, c'⟩ : Lc)]).length = ci.lc.length + 1 := by simp
            have hpo : OwnL ((w6.setCell ⟨T7, 3, none⟩ (.slice a' r.n c')).alloc (.cells #[.int .i64 (r.l.c : Int), .int .i64 (r.l.z : Int), .int .i64 (r.l.t : Int), .slice a' r.n c'] 157)) 0 ((ci.lc ++ [(⟨r.l, a', r.n, c'⟩ : Lc)]).map pgR) := copy_own (r := ⟨r.l, a', r.n, c'⟩) H8.out.r (own_below HO7.out (below_alloc _ _) (Nat.le_refl _)) H5.out.r
            have hpq := copy_fresh (r := ⟨r.l, a', r.n, c'⟩) (W' := (w6.setCell ⟨T7, 3, none⟩ (.slice a' r.n c')).alloc (.cells #[.int .i64 (r.l.c : Int), .int .i64 (r.l.z : Int), .int .i64 (r.l.t : Int), .slice a' r.n c'] 157)) HO7.out H5.out.r
            obtain ⟨hs9, sf9⟩ := H8.out.lists hg9 (al' := some ⟨g9, 0, none⟩) (cl' := cap9) (lc' := ci.lc ++ [(⟨r.l, a', r.n, c'⟩ : Lc)]) (by rw [hl1, flat_append, flat_one]; exact ho9) (by
              rw [hl1]
              intro k hk
              obtain rfl : g9 = k := by simpa [Value.ownBlock] using hk
              rcases hl9 with h1 | h1
              · exact .inl h1
              · exact .inr (Nat.le_of_eq h1.symm)) hpo hpq
            rw [hl1] at hs9
            have hls9 : (ci.lc ++ [(⟨r.l, a', r.n, c'⟩ : Lc)]).map Lc.l = h.ls.take (i + 1) := by
              have h1 := H8.out.r.ll
              rw [List.map_append, h1, List.take_succ_eq_append_getElem hi2, ← H7.out]
              rfl
            rw [hls9] at hs9
            have HS9 := Hid.mk (hs9.sub (Y := fun k => k < w1.heap.size) fun k hk => .inl hk)
            have HB9 : Hid (Below w1.heap.size w1 (w9.setCell ⟨g, 3, none⟩ (.slice (some ⟨g9, 0, none⟩) (ci.lc.length + 1) cap9))) := Below.setCell (Below.grown (Below.step HB7.out (below_alloc _ _)) hg9 (Nat.le_trans HB7.out.size (below_alloc _ _).size) (fun k hk => (copy_ge H5.out.r (fun k hk => .inl hk) k hk))) (show w1.heap.size ≤ (⟨g, 3, none⟩ : Addr).block from hgb) (.slice (some ⟨g9, 0, none⟩) (ci.lc.length + 1) cap9)
            go_roundw
            case rel => exact ⟨i + 1, _, by omega, by go_num, HS9, HB9⟩
            case measure => simp [intOf]; omega
          · obtain rfl : i = lc.length := by omega
            have HS9 : Hid (HS wr g (fun k => k < w1.heap.size) h ci) := by
              have h1 := HSr.out
              rw [List.take_of_length_le (by rw [HLN.out]; exact Nat.le_refl _)] at h1
              exact h1
            obtain ⟨x0, x1, x2, x3, x4⟩ := HS9.out.words
            have K2r := box_step K2h.out hsz HBr.out
            have F2r := frz_step F2h.out hsz HBr.out
            have y0' := K2r 0
            have y1' := K2r 1
            have y2' := K2r 2
            have y3' := K2r 3
            have y4' := K2r 4
            have f0 := F2r 0
            have f1 := F2r 1
            have f2 := F2r 2
            have f3 := F2r 3
            have f4 := F2r 4
            simp only [List.getElem?_toArray, List.getElem?_cons_zero, List.getElem?_cons_succ] at y0' y1' y2' y3' y4'
            have KX := box_set (box_set (box_set (box_set (box_set K2r 0 (.slice ci.az 2 ci.cz)) 1 (.slice ci.am 2 ci.cm)) 2 (.int .i64 (h.cpus : Int))) 3 (.slice ci.al ci.lc.length ci.cl)) 4 (.slice ci.av h.live.length ci.cv)
            have HSX := Hid.mk (((((HS9.out.far hsz 0 (.slice ci.az 2 ci.cz)).far hsz 1 (.slice ci.am 2 ci.cm)).far hsz 2 (.int .i64 (h.cpus : Int))).far hsz 3 (.slice ci.al ci.lc.length ci.cl)).far hsz 4 (.slice ci.av h.live.length ci.cv))
            have hle1 : w.heap.size ≤ w.heap.size + 1 := Nat.le_succ _
            have HBX2 := Hid.mk (Below.setCell (Below.setCell (Below.setCell (Below.setCell (Below.setCell (Below.trans HB1.out (HBr.out.mono (HB1.out.size))) (show w.heap.size ≤ (⟨w.heap.size + 1, 0, none⟩ : Addr).block from hle1) (.slice ci.az 2 ci.cz)) (show w.heap.size ≤ (⟨w.heap.size + 1, 1, none⟩ : Addr).block from hle1) (.slice ci.am 2 ci.cm)) (show w.heap.size ≤ (⟨w.heap.size + 1, 2, none⟩ : Addr).block from hle1) (.int .i64 (h.cpus : Int))) (show w.heap.size ≤ (⟨w.heap.size + 1, 3, none⟩ : Addr).block from hle1) (.slice ci.al ci.lc.length ci.cl)) (show w.heap.size ≤ (⟨w.heap.size + 1, 4, none⟩ : Addr).block from hle1) (.slice ci.av h.live.length ci.cv))
            go_wp2
            generalize ((((wr.setCell ⟨w.heap.size + 1, 0, none⟩ (.slice ci.az 2 ci.cz)).setCell ⟨w.heap.size + 1, 1, none⟩ (.slice ci.am 2 ci.cm)).setCell ⟨w.heap.size + 1, 2, none⟩ (.int .i64 (h.cpus : Int))).setCell ⟨w.heap.size + 1, 3, none⟩ (.slice ci.al ci.lc.length ci.cl)).setCell ⟨w.heap.size + 1, 4, none⟩ (.slice ci.av h.live.length ci.cv) = wx at *
            change ∀ o, wx.cell? ⟨w.heap.size + 1, o, none⟩ = (#[.slice ci.az 2 ci.cz, .slice ci.am 2 ci.cm, .int .i64 (h.cpus : Int), .slice ci.al ci.lc.length ci.cl, .slice ci.av h.live.length ci.cv] : Array Value)[o]? at KX
            refine bodyPost_ret (v := .agg #[.slice ci.az 2 ci.cz, .slice ci.am 2 ci.cm, .int .i64 (h.cpus : Int), .slice ci.al ci.lc.length ci.cl, .slice ci.av h.live.length ci.cv]) (by simp [results, Tryz.results61, go_sem, KX]) rfl ⟨g, ci, rfl, HSX.out.sub (fun k hk => by have := HB1.out.size; exact Nat.lt_of_lt_of_le hk this), by have := HB1.out.size; omega, HBX2.out⟩
end Go.Proofs.YtkcaheebaicinaaGreatDoor
