/- texts of this claim, joined. -/
import Derived.Test.YtcmpmobhongkiaaGreatDoorCG0
import Derived.Test.YtcmpmobhongkiaaGreatDoorCG17
import Derived.Test.YtcmpmobhongkiaaGreatDoorCG26
import Derived.Test.YtcmpmobhongkiaaGreatDoorCG5
set_option linter.unusedVariables false
set_option linter.unusedSimpArgs false
namespace Go.Proofs.YtcmpmobhongkiaaGreatDoor
section
open Go.RowKit

set_option maxHeartbeats 8000000 in
set_option maxRecDepth 100000 in
theorem QT (G : Nat) (X : Nat → Prop) (h : Hp) (c : Hc) (w : World) (hs : HS w G X h c) (hk : dX h) :
  Calls Tryz.prog 94 #[.pointer (some ⟨G, 0, none⟩)] w fun ev w' => ev = .returned (.tuple #[]) ∧ (∃ c', HS w' G X h.drain c') ∧ Safe X w w' := by
 have HS0 := gO hs
 have HK := gO hk
 have LW := gO (wU hs.r)
 have Jw := hk.sO
 have hc24 : c.lc.length ≤ 24 := by rw [LW.out]; exact Jw
 obtain ⟨k0, k1, k2, k3, k4⟩ := hs.words
 have Em := hs.r.gs
 clear hs hk
 go_enter Tryz.func94, Tryz.ntmps94
 go_wp2_with fail
 clear k0 k1 k2 k3 k4
 obtain ⟨n, hn⟩ : ∃ n, c.lc.length = n := ⟨_, rfl⟩
 have HN := gO hn
 obtain ⟨A, hA⟩ : ∃ A, c.al = A := ⟨_, rfl⟩
 have HA := gO hA
 rw [hn] at hc24 ⊢
 rw [hA]
 clear hn hA
 go_loopw [11] (fun s11 wr => ∃ (i : Nat) (y0 y1 : Zc), i ≤ n ∧ s11 = .int .i64 (i : Int) ∧ Hid (HS wr G X (bT h (h.ls.take i)) { c with y0 := y0, y1 := y1 }) ∧ Hid (Safe X w wr)) (fun s11 _ => n - (intOf s11).toNat)
 case atStart => exact ⟨0, c.y0, c.y1, Nat.zero_le _, rfl, HS0, Safe.refl _ _⟩
 case round =>
  obtain ⟨i, y0, y1, hi, rfl, jF, wW⟩ := hrel
  clear HS0
  have QH : G < wr.heap.size := jF.out.r.gs
  by_cases hlt : i < n
  ·have hlt2 : (i : Int) < n := by omega
   have hi1 : i < c.lc.length := by rw [HN.out]; exact hlt
   have hi2 : i < h.ls.length := by rw [← LW.out]; exact hi1
   obtain ⟨gl, hgl, wV, XM, XO, Ep⟩ := jF.out.r.oV (show 0 < c.lc.length by omega)
   obtain ⟨x0, x1, x2, x3⟩ := jF.out.r.sQ hgl hi1
   have h7 : c.lc[i].l = h.ls[i] := by
    have h8 := Eo jF.out.r hi1 (by rw [(zT h _).1]; exact hi2)
    simp only [(zT h _).1] at h8
    exact h8
   have BD : c.al = some ⟨gl, 0, none⟩ := hgl
   have x0' : wr.cell? ⟨gl, i * 4, none⟩ = some (.int .i64 (c.lc[i].l.c : Int)) := x0
   have x1' : wr.cell? ⟨gl, i * 4 + 1, none⟩ = some (.int .i64 (c.lc[i].l.z : Int)) := x1
   have x2' : wr.cell? ⟨gl, i * 4 + 2, none⟩ = some (.int .i64 (c.lc[i].l.t : Int)) := x2
   have x3' : wr.cell? ⟨gl, i * 4 + 3, none⟩ = some (.slice c.lc[i].a c.lc[i].n c.lc[i].c) := x3
   clear x0 x1 x2 x3 hgl Ep
   have hrm : c.lc[i] ∈ c.lc := gL hi1
   have HOWN := jF.out.r.jK _ hrm
   have hlen := sK HOWN
   have hok := HK.out.lr _ (gL hi2)
   have h88 := hok.2.2.2.2.1
   have hpos := hok.2.2.2.1
   have aAp : Hid (∀ j (hj : j < h.ls[i].p.length), _) := fun j hj => xX HK.out hi2 hj
   have XG := gO (Gt h h.ls hi2)
   rw [h7] at hlen
   have HOWN' : Hid ((jB c.lc[i]).on wr 0) := HOWN
   have H7 := gO h7
   obtain rfl : A = some ⟨gl, 0, none⟩ := HA.out.symm.trans BD
   have XP := gO hrm
   clear HOWN h7 hok hrm
   obtain ⟨r, hr⟩ : ∃ r, c.lc[i] = r := ⟨_, rfl⟩
   simp only [hr] at x0' x1' x2' x3' hlen HOWN' H7 XP
   obtain ⟨pb, jQ, hpa, _, _⟩ := aN bP (by decide) (aW HOWN'.out) (j := 0) (by show 0 < r.l.p.length; rw [H7.out]; omega)
   rw [hpa] at x3'
   have HPA := gO hpa
   clear hr hpa BD
   go_wp2_with fail
   have hbw := aC wr (.cells #[.int .i64 (r.l.c : Int), .int .i64 (r.l.z : Int), .int .i64 (r.l.t : Int), .slice (some ⟨pb, jQ, none⟩) r.n r.c] 207)
   have HS5 := gO (jF.out.below hbw)
   have SF5 := gO (wW.out.then hbw)
   obtain ⟨we, rfl⟩ : ∃ we, we = wr := ⟨_, rfl⟩
   clear hbw jF wW x0' x1' x2' x3' QH wV
   generalize we.alloc (.cells #[.int .i64 (r.l.c : Int), .int .i64 (r.l.z : Int), .int .i64 (r.l.t : Int), .slice (some ⟨pb, jQ, none⟩) r.n r.c] 207) = w5 at *
   go_loopw [18] (fun s18 wq => ∃ (j : Nat) (z0 z1 : Zc), j ≤ r.n ∧ s18 = .int .i64 (j : Int) ∧ Hid (HS wq G X (aV (bT h (h.ls.take i)) (h.ls[i].p.take j)) { c with y0 := z0, y1 := z1 }) ∧ Hid (Safe X w wq)) (fun s18 _ => r.n - (intOf s18).toNat)
   case atStart => exact ⟨0, y0, y1, Nat.zero_le _, rfl, HS5, SF5⟩
   case round =>
    obtain ⟨j, z0, z1, hj, rfl, Gl, SFq⟩ := hrel
    clear HS5 SF5
    by_cases hjl : j < r.n
    ·have XE : (j : Int) < r.n := by omega
     have hjp : j < h.ls[i].p.length := by omega
     have hjr : j < r.l.p.length := by rw [H7.out]; exact hjp
     obtain ⟨pb', zN, hp9, hpb, hpc⟩ := aN bP (by decide) (aW (Gl.out.r.jK r XP.out)) (j := j) hjr
     obtain ⟨rfl, rfl⟩ : pb = pb' ∧ jQ = zN := by
      rw [HPA.out] at hp9
      simpa using hp9
     have zO := fU hpc
     rw [Nat.mul_one] at zO
     obtain ⟨P, hP⟩ : ∃ P, r.l.p[j] = P := ⟨_, rfl⟩
     have hP2 : h.ls[i].p[j] = P := by rw [← hP]; simp only [H7.out]
     obtain ⟨g1, g2, g3⟩ := xX HK.out hi2 hjp
     have TW := gO (vG (bT h (h.ls.take i)) h.ls[i].p hjp)
     rw [hP2] at g1 g2 g3 TW
     rw [hP] at zO
     have G1 := gO g1
     have G2 := gO g2
     have G3 := gO g3
     clear hpc hP hP2 g1 g2 g3 hp9
     go_wp2_with fail
     refine (zQ G P 0 X _ _ wr Gl.out G1.out G2.out G3.out).mono ?_
     rintro ev w6 ⟨rfl, ⟨u0, u1, hs6⟩, sf6⟩
     rw [← TW.out] at hs6
     have HS6 := gO hs6
     have SF6 := gO (SFq.out.trans sf6)
     clear hs6 sf6 zO
     go_wp2
     go_roundw
     case rel => exact ⟨j + 1, u0, u1, by omega, by go_num, HS6, SF6⟩
     case measure => simp [intOf]; omega
    ·obtain rfl : j = r.n := by omega
     have HS6 : Hid (HS wr G X (bT h (h.ls.take (i + 1))) { c with y0 := z0, y1 := z1 }) := by
      unfold Hid
      rw [XG.out]
      have h1 := Gl.out
      rw [List.take_of_length_le (show h.ls[i].p.length ≤ r.n by omega)] at h1
      exact h1
     go_wp2
     go_roundw
     case rel => exact ⟨i + 1, z0, z1, by omega, by go_num, HS6, SFq⟩
     case measure => simp [intOf]; omega
  ·obtain rfl : i = n := by omega
   obtain ⟨hs6, sf6⟩ := jF.out.lists (World.grownBy.refl wr _) (al' := none) (cl' := 0) (oU := []) ⟨rfl, .inl ⟨rfl, rfl⟩⟩ (fun k hk => by cases hk) (cZ.nil _ _) (fun r hr => by cases hr)
   have e : ({ bT h (h.ls.take i) with ls := ([] : List Lc).map Lc.l } : Hp) = h.drain := by
    rw [List.take_of_length_le (by rw [← LW.out, HN.out]; exact Nat.le_refl _)]
    rfl
   rw [e] at hs6
   have HS6 : Hid (HS (wr.setCell ⟨G, 3, none⟩ (.slice none 0 0)) G X h.drain _) := hs6
   have SF6 : Hid (Safe X w (wr.setCell ⟨G, 3, none⟩ (.slice none 0 0))) := wW.out.trans sf6
   obtain ⟨k0, k1, k2, k3, k4⟩ := jF.out.words
   have kf := jF.out.fz 3
   clear hs6 sf6 e
   go_wp2
   refine bodyPost_end (v := .tuple #[]) (by simp [results, Tryz.results94, go_sem]) rfl ⟨rfl, ⟨_, HS6.out⟩, SF6.out⟩
end
section
open Go.RowKit

section
variable {W Wm Wv : World} {jI bm bv g : Nat} {am av : Option Addr} {cm cv : Nat} {m : List Nat} {v : List Bk} {aF : Nat}
theorem XQ (hm : Wm.ownsRow bm 3 1 (.slice am m.length cm) m.length (flat fH m)) (hv : Wv.ownsRow bv 63 3 (.slice av v.length cv) v.length (flat aO v)) (h1 : jI ≤ bm) (h2 : jI ≤ bv) (hbm : Below Wm.heap.size Wm W) (hbv : Below Wv.heap.size Wv W) (hd : Wm.heap.size ≤ bv ∨ Wv.heap.size ≤ bm) (hbs : jI ≤ W.heap.size) :
  CZ (W.alloc (.cells #[.slice none 0 0, .slice am m.length cm, .int .i64 (aF : Int), .slice none 0 0, .slice av v.length cv] 44)) jI W.heap.size [] none 0 am cm m av cv v aF := by
 have hm1 := own_below (own_below hm hbm (Nat.le_refl _)) (aC W (.cells #[.slice none 0 0, .slice am m.length cm, .int .i64 (aF : Int), .slice none 0 0, .slice av v.length cv] 44)) (Nat.le_refl _)
 have hv1 := own_below (own_below hv hbv (Nat.le_refl _)) (aC W (.cells #[.slice none 0 0, .slice am m.length cm, .int .i64 (aF : Int), .slice none 0 0, .slice av v.length cv] 44)) (Nat.le_refl _)
 have e0 : ∀ (r : Rs), (ER none 0 []).off r := fun r k h => by cases h
 exact ⟨⟨rfl, .inl ⟨rfl, rfl⟩⟩, own_base hv1 h2, own_base hm1 h1, fun y hy => (by simp at hy), e0 _, e0 _, fun y hy => (by simp at hy), fun k h3 h4 => by
  have g1 := hm.lt k h4
  have g2 := hv.lt k h3
  omega, fun y hy => (by simp at hy), fun e => (by cases e), fun e => by have := (hv.lt _ e).2; have := hbv.size; omega, fun e => by have := (hm.lt _ e).2; have := hbm.size; omega, fun y hy => (by simp at hy), ⟨hbs, by simp⟩, bC _ _ _, eH _ _ _⟩
theorem QU (hm : Wm.ownsRow bm 3 1 (.slice am m.length cm) m.length (flat fH m)) (hv : Wv.ownsRow bv 63 3 (.slice av v.length cv) v.length (flat aO v)) (h1 : jI ≤ bm) (h2 : jI ≤ bv) (hbm : Below Wm.heap.size Wm W) (hbv : Below Wv.heap.size Wv W) (hd : Wm.heap.size ≤ bv ∨ Wv.heap.size ≤ bm)
  (hk : ∀ o, W.cell? ⟨g, o, none⟩ = (#[.slice none 0 0, .slice none 0 0, .int .i64 0, .slice none 0 0, .slice none 0 0] : Array Value)[o]?) (hf : ∀ o, W.frozen? ⟨g, o, none⟩ = false) (hg : jI ≤ g ∧ g < W.heap.size) (hgm : g < bm ∨ Wm.heap.size ≤ g) (hgv : g < bv ∨ Wv.heap.size ≤ g) :
  CZ (((((W.setCell ⟨g, 0, none⟩ (.slice none 0 0)).setCell ⟨g, 1, none⟩ (.slice am m.length cm)).setCell ⟨g, 2, none⟩ (.int .i64 (aF : Int))).setCell ⟨g, 3, none⟩ (.slice none 0 0)).setCell ⟨g, 4, none⟩ (.slice av v.length cv)) jI g [] none 0 am cm m av cv v aF := by
 have nm := own_ne hm hgm
 have nv := own_ne hv hgv
 have s5 : ∀ {b : Nat} {e : TypeId} {size : Nat} {x : Value} {n : Nat} {xs : List Value}, W.ownsRow b e size x n xs → x.ownBlock ≠ some g → (((((W.setCell ⟨g, 0, none⟩ (.slice none 0 0)).setCell ⟨g, 1, none⟩ (.slice am m.length cm)).setCell ⟨g, 2, none⟩ (.int .i64 (aF : Int))).setCell ⟨g, 3, none⟩ (.slice none 0 0)).setCell ⟨g, 4, none⟩ (.slice av v.length cv)).ownsRow b e size x n xs := fun h hn =>
  bJ (bJ (bJ (bJ (bJ h hn _) hn _) hn _) hn _) hn _
 have hm1 := s5 (own_below hm hbm (Nat.le_refl _)) nm
 have hv1 := s5 (own_below hv hbv (Nat.le_refl _)) nv
 have e0 : ∀ (r : Rs), (ER none 0 []).off r := fun r k h => by cases h
 exact ⟨⟨rfl, .inl ⟨rfl, rfl⟩⟩, own_base hv1 h2, own_base hm1 h1, fun y hy => (by simp at hy), e0 _, e0 _, fun y hy => (by simp at hy), fun k h3 h4 => by
  have g1 := hm.lt k h4
  have g2 := hv.lt k h3
  omega, fun y hy => (by simp at hy), fun e => (by cases e), nv, nm, fun y hy => (by simp at hy), ⟨hg.1, by simpa using hg.2⟩, aG (aG (aG (aG (aG hk 0 _) 1 _) 2 _) 3 _) 4 _, aH (aH (aH (aH (aH hf _ _) _ _) _ _) _ _) _ _⟩
end

theorem QV {W W0 : World} {G : Nat} {X : Nat → Prop} {h : Hp} {c : Hc} {r : Lc} (hs : HR W G X h c) (ho : W.ownsRow W0.heap.size 3 1 (.slice r.a r.n r.c) r.n (flat fH r.l.p)) (h0 : HR W0 G X h c) : cZ W 0 ((c.lc ++ [r]).map jB) := by
 have h1 : cZ W 0 (c.lc.map jB) := hs.own.sub (by unfold Hc.rows; exact ((List.sublist_cons_self _ _).trans (List.sublist_cons_self _ _)).trans (List.sublist_cons_self _ _))
 have h2 : cZ W 0 (jB r :: c.lc.map jB) := h1.cons (r' := jB r) (bs := W0.heap.size) ho (Nat.zero_le _) fun s hs' g hg => by
  have h3 := h0.own.lt s (kG hs') g hg
  exact h3.2
 refine h2.perm ?_
 rw [List.map_append]
 exact (List.perm_append_singleton _ _).symm
theorem JA {W W' W0 : World} {G : Nat} {X : Nat → Prop} {h : Hp} {c : Hc} {r : Lc} (ho : W.ownsRow W0.heap.size 3 1 (.slice r.a r.n r.c) r.n (flat fH r.l.p)) (h0 : HR W0 G X h c) : ∀ s ∈ (c.lc ++ [r]).map jB, ∀ g, s.v.ownBlock = some g → (∃ r0 ∈ c.lc.map jB, r0.v.ownBlock = some g) ∨ FU W' G X h c g := fun s hs g hg => by
 rw [List.map_append, List.mem_append] at hs
 rcases hs with hs | hs
 ·exact .inl ⟨s, hs, hg⟩
 ·obtain rfl : s = jB r := by simpa using hs
  exact .inr (h0.fresh (ho.lt g hg).1)
theorem UJ {W : World} {G : Nat} {X : Nat → Prop} {h : Hp} {c : Hc} {B : Nat} (hs : HR W G X h c) (hx : ∀ k, k < B → X k) : ∀ k, (nP c).v.ownBlock = some k → B ≤ k := fun k hk => by
 rcases Nat.lt_or_ge k B with h1 | h1
 ·exact absurd (hx k h1) (hs.og _ (gV c h) k hk).2
 ·exact h1
theorem UK : (Tryz.prog.info? 102).map (fun i => (i.zero, i.size, i.bytes)) = some (some (.agg #[.int .i64 0, .int .i64 0, .slice none 0 0, .slice none 0 0]), 4, 64) := by kernel_rfl
theorem QW {h : Hp} (hk : dX h) (i : Nat) : (h.zone i).l.length ≤ 256 ∧ (h.zone i).y.length ≤ 256 := by
 have hz := hk.zone i
 have h1 := oK.length_le hz.2 (fun b hb => (hz.2.fit b hb).1.2.2.1)
 have h2 := hz.1.e2
 have h3 := hz.1.len
 omega
set_option maxHeartbeats 8000000 in
set_option maxRecDepth 100000 in
theorem zU (az am al av : Option Addr) (cz cm cl cv nl nv : Nat) (y0 y1 : Zc) (lc : List Lc) (h : Hp) (w : World) (hh : HAt w az am al av nl nv y0 y1 lc h) (hk : dX h) (Pv : nv ≤ 1000) :
  Calls Tryz.prog 86 #[.agg #[.slice az 2 cz, .slice am 2 cm, .int .i64 h.aF, .slice al nl cl, .slice av nv cv]] w fun ev w' => ∃ (g : Nat) (c' : Hc), ev = .returned (.agg (c'.vals h)) ∧ HS w' g (fun k => k < w.heap.size) h c' ∧ w.heap.size ≤ g ∧ Below w.heap.size w w' := by
 obtain rfl := hh.nv
 obtain ⟨K1, K2, F1, F2, hsz, hbw⟩ := boxes2 w #[.slice az 2 cz, .slice am 2 cm, .int .i64 (h.aF : Int), .slice al nl cl, .slice av h.live.length cv] 44 #[.slice none 0 0, .slice none 0 0, .int .i64 0, .slice none 0 0, .slice none 0 0] 44
 have HH := gO hh
 have HK := gO hk
 have HB1 := gO hbw
 clear hh hk
 have aAq : ((w.alloc (.cells #[.slice az 2 cz, .slice am 2 cm, .int .i64 (h.aF : Int), .slice al nl cl, .slice av h.live.length cv] 44)).alloc (.cells #[.slice none 0 0, .slice none 0 0, .int .i64 0, .slice none 0 0, .slice none 0 0] 44)).heap.size = w.heap.size + 2 := by simp
 have aAr := gO aAq
 clear aAq
 go_enter Tryz.func86, Tryz.ntmps86
 go_upto_region 1 with fail
 generalize (w.alloc (.cells #[.slice az 2 cz, .slice am 2 cm, .int .i64 (h.aF : Int), .slice al nl cl, .slice av h.live.length cv] 44)).alloc (.cells #[.slice none 0 0, .slice none 0 0, .int .i64 0, .slice none 0 0, .slice none 0 0] 44) = w1 at *
 have q1 := (HH.out.below HB1.out).mr
 have q2 := (HH.out.below HB1.out).vr
 have LK0 : ∀ W, Below w1.heap.size w1 W → ∀ o, W.cell? ⟨w.heap.size, o, none⟩ = (#[.slice az 2 cz, .slice am 2 cm, .int .i64 (h.aF : Int), .slice al nl cl, .slice av h.live.length cv] : Array Value)[o]? := fun W h o => aB K1 (by omega) h o
 go_cut [3] (fun s3 wx => ∃ (g : Nat) (Om oJ : Option Addr) (Oo cv' : Nat), s3 = .pointer (some ⟨g, 0, none⟩) ∧ Hid (CZ wx w1.heap.size g [] none 0 Om Oo [h.m0, h.m1] oJ cv' h.live h.aF) ∧ Hid (Below w1.heap.size w1 wx))
 case first =>
  go_region_held3 (fun W => Below w1.heap.size w1 W) ((repeat (first | with_reducible assumption | with_reducible exact Below.refl _ _ | with_reducible refine Below.setCell ?_ ?_ _ | with_reducible apply Below.drew | with_reducible refine Below.step ?_ (aC _ _) | with_reducible refine Below.step ?_ (by with_reducible assumption) | (simp only; omega)))) (first | (go_at_call 85; refine (DK _ 2 _ [h.m0, h.m1] _ rfl (by decide) (q1.below (by assumption))).mono ?_; rintro e wm ⟨Om, Oo, rfl, yJ, hbm⟩; (try ((have hx : Below ((w1.alloc (.cells (#[.slice none 0 0, .slice none 0 0, .int .i64 0, .slice none 0 0, .slice none 0 0] : Array Value) 44)).drew).heap.size ((w1.alloc (.cells (#[.slice none 0 0, .slice none 0 0, .int .i64 0, .slice none 0 0, .slice none 0 0] : Array Value) 44)).drew) wm := by with_reducible exact hbm); have KA := aB (w1 := (w1.alloc (.cells (#[.slice none 0 0, .slice none 0 0, .int .i64 0, .slice none 0 0, .slice none 0 0] : Array Value) 44)).drew) (vs := #[.slice none 0 0, .slice none 0 0, .int .i64 0, .slice none 0 0, .slice none 0 0]) (fun o => bC w1 #[.slice none 0 0, .slice none 0 0, .int .i64 0, .slice none 0 0, .slice none 0 0] 44 o) (show w1.heap.size < ((w1.alloc (.cells (#[.slice none 0 0, .slice none 0 0, .int .i64 0, .slice none 0 0, .slice none 0 0] : Array Value) 44)).drew).heap.size by simp) hx; have FA := aJ (w1 := (w1.alloc (.cells (#[.slice none 0 0, .slice none 0 0, .int .i64 0, .slice none 0 0, .slice none 0 0] : Array Value) 44)).drew) (fun o => eH w1 #[.slice none 0 0, .slice none 0 0, .int .i64 0, .slice none 0 0, .slice none 0 0] 44 o) (show w1.heap.size < ((w1.alloc (.cells (#[.slice none 0 0, .slice none 0 0, .int .i64 0, .slice none 0 0, .slice none 0 0] : Array Value) 44)).drew).heap.size by simp) hx; have SA : w1.heap.size < wm.heap.size := gI (show w1.heap.size < ((w1.alloc (.cells (#[.slice none 0 0, .slice none 0 0, .int .i64 0, .slice none 0 0, .slice none 0 0] : Array Value) 44)).drew).heap.size by simp) hx.size)); (first | have SM : w1.heap.size ≤ wm.heap.size := gR SA | have SM : w1.heap.size ≤ wm.heap.size := hbm.size)) | (go_at_call 132; refine (Lh _ _ _ h.live _ rfl (by omega) (q2.below (by assumption))).mono ?_; rintro e wv ⟨oJ, cv', rfl, hov, hbv⟩; (try first | (have KB := aB KA SA hbv; have FB := aJ FA SA hbv) | ((have hx : Below (wm.alloc (.cells (#[.slice none 0 0, .slice none 0 0, .int .i64 0, .slice none 0 0, .slice none 0 0] : Array Value) 44)).heap.size (wm.alloc (.cells (#[.slice none 0 0, .slice none 0 0, .int .i64 0, .slice none 0 0, .slice none 0 0] : Array Value) 44)) wv := by with_reducible exact hbv); have KB := aB (w1 := wm.alloc (.cells (#[.slice none 0 0, .slice none 0 0, .int .i64 0, .slice none 0 0, .slice none 0 0] : Array Value) 44)) (vs := #[.slice none 0 0, .slice none 0 0, .int .i64 0, .slice none 0 0, .slice none 0 0]) (fun o => bC wm #[.slice none 0 0, .slice none 0 0, .int .i64 0, .slice none 0 0, .slice none 0 0] 44 o) (show wm.heap.size < (wm.alloc (.cells (#[.slice none 0 0, .slice none 0 0, .int .i64 0, .slice none 0 0, .slice none 0 0] : Array Value) 44)).heap.size by simp) hx; have FB := aJ (w1 := wm.alloc (.cells (#[.slice none 0 0, .slice none 0 0, .int .i64 0, .slice none 0 0, .slice none 0 0] : Array Value) 44)) (fun o => eH wm #[.slice none 0 0, .slice none 0 0, .int .i64 0, .slice none 0 0, .slice none 0 0] 44 o) (show wm.heap.size < (wm.alloc (.cells (#[.slice none 0 0, .slice none 0 0, .int .i64 0, .slice none 0 0, .slice none 0 0] : Array Value) 44)).heap.size by simp) hx))))
  all_goals (go_wp2_with fail; go_meet)
  ·exact ⟨wv.heap.size, Om, oJ, Oo, cv', rfl, XQ (m := [h.m0, h.m1]) yJ hov (Nat.le_refl _) SM hbv (Below.refl _ _) (.inl (Nat.le_refl _)) (gQ SM hbv.size), by assumption⟩
  ·have hs := hbv.size
   simp at hs
   exact ⟨wm.heap.size, Om, oJ, Oo, cv', rfl, QU (m := [h.m0, h.m1]) yJ hov (Nat.le_refl _) (by simp; omega) (Below.step (aC _ _) hbv) (Below.refl _ _) (.inl (by simp)) KB FB ⟨SM, by omega⟩ (.inr (Nat.le_refl _)) (.inl (by simp)), by assumption⟩
  ·have hs := hbv.size
   exact ⟨w1.heap.size, Om, oJ, Oo, cv', rfl, QU (m := [h.m0, h.m1]) yJ hov (by simp) SM hbv (Below.refl _ _) (.inl (Nat.le_refl _)) KB FB ⟨Nat.le_refl _, by omega⟩ (.inl (by simp)) (.inl SA), by assumption⟩
 case rest =>
  obtain ⟨g, Om, oJ, Oo, cv', rfl, HCZ, kK⟩ := hcut
  clear q1 q2
  have K2h := gO K2
  have F2h := gO F2
  have k0 := LK0 wc kK.out 0
  have LKH := gO LK0
  simp only [gB, gC] at k0
  clear LK0 K1 K2 F1 F2 hbw
  obtain ⟨qb, qo, ha1, _, _⟩ := aN fO (by decide) HH.out.zr (j := 0) (by simp)
  obtain rfl := ha1
  have aDv := kK.out.size
  have hBw : w.heap.size < wc.heap.size := by omega
  go_wp2_with fail
  go_loopw [20] (fun s20 wr => ∃ (i : Nat) (zs : List Zc) (YW : Option Addr) (YX : Nat), i ≤ 2 ∧ s20 = .int .i64 (i : Int) ∧ zs.length = i ∧ Hid (∀ j (hj : j < zs.length), zs[j].z = h.zone j) ∧ Hid (CZ wr w1.heap.size g zs YW YX Om Oo [h.m0, h.m1] oJ cv' h.live h.aF) ∧ Hid (Below w1.heap.size w1 wr)) (fun s20 _ => 2 - (intOf s20).toNat)
  case atStart => exact ⟨0, [], none, 0, Nat.zero_le _, rfl, rfl, fun j hj => (by simp at hj), HCZ, kK⟩
  case round =>
   obtain ⟨i, zs, YW, YX, hi, rfl, hzl, YV, HC, HB⟩ := hrel
   clear HCZ kK k0
   by_cases hlt : i < 2
   ·subst hzl
    have hlt2 : ((zs.length : Nat) : Int) < 2 := by omega
    obtain ⟨y, hyz, hya, hrow⟩ : ∃ y : Zc, y.z = h.zone zs.length ∧ DL wr y.a1 y.a2 y.n1 y.n2 (h.zone zs.length) ∧ (wr.cell? ⟨qb, qo + zs.length * 4, none⟩ = some (.int .i64 (h.zone zs.length).f) ∧ wr.cell? ⟨qb, qo + zs.length * 4 + 1, none⟩ = some (.int .i64 (h.zone zs.length).e) ∧ wr.cell? ⟨qb, qo + zs.length * 4 + 2, none⟩ = some (.slice y.a1 y.n1 y.c1) ∧ wr.cell? ⟨qb, qo + zs.length * 4 + 3, none⟩ = some (.slice y.a2 y.n2 y.c2)) := by
     have hA := HH.out.below (Below.trans HB1.out (HB.out.mono (HB1.out.size)))
     obtain ⟨b1, o1, h1, h2, h3⟩ := aN fO (by decide) hA.zr (j := zs.length) (by simp; omega)
     obtain ⟨rfl, rfl⟩ : qb = b1 ∧ qo = o1 := by simpa using h1
     have h4 := jV h3
     obtain h5 | h5 : zs.length = 0 ∨ zs.length = 1 := by omega
     ·refine ⟨y0, ?_, ?_, ?_⟩
      ·rw [h5]; exact hA.e0
      ·rw [h5]; exact hA.t0
      ·have e : [y0, y1][zs.length]'(by simp; omega) = y0 := by simp [h5]
       have e2 : h.zone zs.length = h.z0 := by rw [h5]; rfl
       rw [e, hA.e0] at h4
       rw [e2]
       exact h4
     ·refine ⟨y1, ?_, ?_, ?_⟩
      ·rw [h5]; exact hA.e1
      ·rw [h5]; exact hA.t1
      ·have e : [y0, y1][zs.length]'(by simp; omega) = y1 := by simp [h5]
       have e2 : h.zone zs.length = h.z1 := by rw [h5]; rfl
       rw [e, hA.e1] at h4
       rw [e2]
       exact h4
    obtain ⟨z0, z1, z2, z3⟩ := hrow
    have aDw := QW HK.out zs.length
    have HAT := gO hya
    have Pq : qb < wr.heap.size := World.block_lt_of_cell? _ _ z0
    have hnn := hya.l1
    have aDx := hya.l2
    have hL1 : y.n1 ≤ 1000 := by omega
    have hL2 : y.n2 ≤ 1000 := by omega
    obtain ⟨z, hz⟩ : ∃ z, h.zone zs.length = z := ⟨_, rfl⟩
    rw [hz] at z0 z1 HAT
    have HZ := gO hz
    clear hya hz hyz hnn aDx aDw
    go_wp2_with fail
    obtain ⟨E1, EF1, Ei, oZ⟩ := boxes1 wr #[.int .i64 (z.f : Int), .int .i64 (z.e : Int), .slice y.a1 y.n1 y.c1, .slice y.a2 y.n2 y.c2] 102
    have e0 := E1 0
    have e1 := E1 1
    have e2 := E1 2
    have e3 := E1 3
    simp only [gB, gC, gD] at e0 e1 e2 e3
    have HC5 := gO (HC.out.below oZ)
    have HB5 := gO (Below.step HB.out oZ)
    have HAT5 := gO (HAT.out.below oZ)
    clear E1 EF1 oZ z0 z1 z2 z3 HC HB HAT
    generalize wr.alloc (.cells #[.int .i64 (z.f : Int), .int .i64 (z.e : Int), .slice y.a1 y.n1 y.c1, .slice y.a2 y.n2 y.c2] 102) = w5 at *
    have g0 := HC5.out.k 0
    have aHC := HC5.out.gs.2
    simp only [gB, gC] at g0
    have QX := gO (HC5.out.below ((Below.refl w5.heap.size w5).drew))
    have Wl := gO (HAT5.out.below ((Below.refl w5.heap.size w5).drew))
    have aAs := gO HB5.out.drew
    obtain ⟨ti, hti, htz, hts, htb⟩ := info_parts UK
    go_region_law (first | (refine step_append_lies _ rfl _ _ 40 rfl w1.heap.size 102 ti (.agg #[.int .i64 0, .int .i64 0, .slice none 0 0, .slice none 0 0]) 4 64 Tryz.underlying40 hti htz hts htb rfl (by decide) (.slice YW zs.length YX) zs.length (flat kJ zs) rfl hc8.out.oz ⟨w6.heap.size, 0, none⟩ 1 1 [.int .i64 (z.f : Int), .int .i64 (z.e : Int), .slice a1' y.n1 c1', .slice a2' y.n2 c2'] rfl rfl hnw.out (by simp [Value.oneCell']) (by decide) (by unfold maxLen; omega) (by omega) aAt _ rfl ?_; intro g7 cap7 w7 ho7 hg7 hl7 Oq; have q7 := (bH hc8.out.k hc8.out.gs.2 hg7 (fun e => hc8.out.gz e.symm) 0).trans (show _ = some (.slice YW zs.length YX) from rfl); have f7 := bI hc8.out.fz hc8.out.gs.2 hg7 (fun e => hc8.out.gz e.symm) 0) | (go_simp; go_at_call 133; refine (yN y.a1 y.a2 y.n1 y.n2 y.c1 y.c2 z.f z.e z _ Wl.out hL1 hL2).mono ?_; rintro ev w6 ⟨a1', a2', c1', c2', rfl, hz6, hb6⟩; have hc6 := QX.out.below hb6; have hg6 := hc6.gs.2; have q6' := (hc6.k 0).trans (show _ = some (.slice YW zs.length YX) from rfl); have hc8 := gO (hc6.below (aC w6 (.cells #[.int .i64 (z.f : Int), .int .i64 (z.e : Int), .slice a1' y.n1 c1', .slice a2' y.n2 c2'] 102))); have hnw := gO (World.news_of_block (heap_alloc_new w6 (.cells #[.int .i64 (z.f : Int), .int .i64 (z.e : Int), .slice a1' y.n1 c1', .slice a2' y.n2 c2'] 102))); have HB6 := gO (Below.step aAs.out hb6); have aAt : w1.heap.size ≤ (w6.alloc (.cells #[.int .i64 (z.f : Int), .int .i64 (z.e : Int), .slice a1' y.n1 c1', .slice a2' y.n2 c2'] 102)).heap.size := gQ HB6.out.size (aC w6 _).size; clear hc6))
    all_goals
     have hba := aC w6 (.cells #[.int .i64 (z.f : Int), .int .i64 (z.e : Int), .slice a1' y.n1 c1', .slice a2' y.n2 c2'] 102)
     have ho8 : w7.ownsRow w1.heap.size 102 4 (.slice (some ⟨g7, 0, none⟩) (zs.length + 1) cap7) (zs.length + 1) (flat kJ (zs ++ [⟨z, a1', a2', y.n1, y.n2, c1', c2'⟩])) := by
      rw [aT, fF]
      exact ho7
     have C9 := gO (QX.out.add (Below.step hb6 hba) (hz6.below hba) ho8 hg7 hl7)
     have HB9 := gO (Below.setCell (Below.grown (Below.step HB6.out hba) hg7 aAt (fun k hk => (QX.out.oz.lt k hk).1)) (show w1.heap.size ≤ (⟨g, 0, none⟩ : Addr).block from QX.out.gs.1) (.slice (some ⟨g7, 0, none⟩) (zs.length + 1) cap7))
     have HZ9 : Hid (∀ j (hj : j < (zs ++ [(⟨z, a1', a2', y.n1, y.n2, c1', c2'⟩ : Zc)]).length), (zs ++ [(⟨z, a1', a2', y.n1, y.n2, c1', c2'⟩ : Zc)])[j].z = h.zone j) := fun j hj => by
      by_cases hjl : j < zs.length
      ·rw [List.getElem_append_left hjl]
       exact YV.out j hjl
      ·have hje : j = zs.length := by simp at hj; omega
       subst hje
       rw [List.getElem_append_right (Nat.le_refl _)]
       simp [HZ.out]
     clear ho7 ho8 hg7 hl7 hba hc8 hnw HC5 QX HB5 aAs HAT5 Wl hz6 hb6 q7 f7
     go_wp2
     go_roundw
     case rel => exact ⟨zs.length + 1, _, _, _, by omega, by go_num, by simp, HZ9, C9, HB9⟩
     case measure => simp [intOf]; omega
   ·have hi22 : zs.length = 2 := by omega
    have hlt2 : ¬ ((i : Int) < 2) := by omega
    obtain ⟨ya, yb, rfl⟩ : ∃ ya yb, zs = [ya, yb] := by
     match zs, hi22 with
     | [a, b], _ => exact ⟨a, b, rfl⟩
    have hya := YV.out 0 (by simp)
    have hyb := YV.out 1 (by simp)
    have hs0 := HC.out.done (X := fun k => k < w1.heap.size) (fun k hk => hk)
    have HS0 : Hid (HS wr g (fun k => k < w1.heap.size) { h with ls := h.ls.take 0 } ⟨YW, YX, Om, Oo, none, 0, oJ, cv', ya, yb, []⟩) := by
     have e0 : ya.z = h.z0 := hya
     have e1 : yb.z = h.z1 := hyb
     unfold Hid
     rw [e0, e1] at hs0
     exact hs0
    have hgb := HC.out.gs.1
    have hBr : w.heap.size < wr.heap.size := by have := HB.out.size; omega
    have k3 := LKH.out wr HB.out 3
    simp only [gB, gC, gD] at k3
    have hnl := HH.out.nl
    have hll := HH.out.ll
    have hlc := HK.out.sO
    have hlen : lc.length = h.ls.length := by rw [← hll, List.length_map]
    clear hs0 hya hyb HC YV hi22
    have HI0 := gO hzl
    clear hzl hlt hi
    obtain ⟨i0, rfl⟩ : ∃ i0, i0 = i := ⟨_, rfl⟩
    obtain rfl := hnl
    have Jw : lc.length ≤ 24 := by omega
    have LW := gO hlen
    have Px := gO hll
    clear hlen hll hlc
    go_wp2_with fail
    clear k3
    go_loopw [35] (fun s35 wq => ∃ (i : Nat) (ci : Hc), i ≤ lc.length ∧ s35 = .int .i64 (i : Int) ∧ Hid (HS wq g (fun k => k < w1.heap.size) { h with ls := h.ls.take i } ci) ∧ Hid (Below w1.heap.size w1 wq)) (fun s35 _ => lc.length - (intOf s35).toNat)
    case atStart => exact ⟨0, _, Nat.zero_le _, rfl, HS0, HB⟩
    case round =>
     obtain ⟨i, ci, hi, rfl, jF, lK⟩ := hrel
     clear HS0 HB
     by_cases hlt : i < lc.length
     ·have hlt2 : (i : Int) < lc.length := by omega
      have hA := HH.out.below (Below.trans HB1.out (lK.out.mono (HB1.out.size)))
      obtain ⟨pb, jQ, hpa, hpb, hpc⟩ := aN aP (by decide) hA.lr hlt
      obtain ⟨x0, x1, x2, x3⟩ := lC hpc
      have hpr := hA.pr _ (gL hlt)
      have hi2 : i < h.ls.length := by rw [← LW.out]; exact hlt
      have h7 : lc[i].l = h.ls[i] := by
       have h3 := congrArg (·[i]?) Px.out
       simp [hlt, hi2] at h3
       exact h3
      have h8 := (HK.out.lr _ (gL hi2)).2.2.2.2.1
      obtain ⟨r, hr⟩ : ∃ r, lc[i] = r := ⟨_, rfl⟩
      simp only [hr] at x0 x1 x2 x3 hpr h7
      rw [← h7] at h8
      have H7 := gO h7
      obtain ⟨hrn, hrow⟩ := hpr
      have hn8 : r.n ≤ 8 := by omega
      have Gu := gO hrow
      have Qn : w1.heap.size ≤ wr.heap.size := lK.out.size
      obtain rfl := hpa
      clear hpc hA hr hrow h7
      go_wp2_with fail
      obtain ⟨E1, EF1, Ei, oZ⟩ := boxes1 wr #[.int .i64 (r.l.c : Int), .int .i64 (r.l.z : Int), .int .i64 (r.l.t : Int), .slice r.a r.n r.c] 207
      have HS5 := gO (jF.out.new oZ)
      have HB5 := gO (Below.step lK.out oZ)
      have HROW5 := gO (Gu.out.below oZ)
      have e3 := E1 3
      simp only [gB, gC, gD] at e3
      have HE := gO E1
      have HEF := gO EF1
      clear E1 EF1 oZ x0 x1 x2 x3 Gu jF lK
      generalize wr.alloc (.cells #[.int .i64 (r.l.c : Int), .int .i64 (r.l.z : Int), .int .i64 (r.l.t : Int), .slice r.a r.n r.c] 207) = w5 at *
      generalize wr.heap.size = T7 at *
      have hXT : (fun k => k < w1.heap.size ∨ (T7 ≤ k ∧ k < w5.heap.size)) T7 := .inr ⟨Nat.le_refl _, Ei⟩
      clear e3
      refine (DK r.a r.n r.c r.l.p w5 hrn (by omega) HROW5.out).mono ?_
      rintro ev w6 ⟨a', c', rfl, ho6, hb6⟩
      have HE6 := aB HE.out Ei hb6
      have HEF6 := aJ HEF.out Ei hb6
      have esz6 : T7 < w6.heap.size := gI Ei hb6.size
      have HS7 := gO ((HS5.out.below hb6).far hXT 3 (.slice a' r.n c'))
      have HO7 : Hid ((w6.setCell ⟨T7, 3, none⟩ (.slice a' r.n c')).ownsRow w5.heap.size 3 1 (.slice a' r.n c') r.n (flat fH r.l.p)) := bJ (i := 3) ho6 (own_ne ho6 (b := T7) (.inl Ei)) (.slice a' r.n c')
      have K7 := aG HE6 3 (.slice a' r.n c')
      have HB7 := gO (Below.setCell (Below.step HB5.out hb6) (show w1.heap.size ≤ (⟨T7, 3, none⟩ : Addr).block from Qn) (.slice a' r.n c'))
      have f3 := HEF6 3
      have e3' := HE6 3
      simp only [gB, gC, gD] at e3'
      have k0' := K7 0
      have k1' := K7 1
      have k2' := K7 2
      have k3' := K7 3
      simp only [gE, gG, gH, gB, gC, gD] at k0' k1' k2' k3'
      obtain ⟨_, _, _, q3, _⟩ := HS7.out.words
      have H8 := gO (HS7.out.below (aC (w6.setCell ⟨T7, 3, none⟩ (.slice a' r.n c')) (.cells #[.int .i64 (r.l.c : Int), .int .i64 (r.l.z : Int), .int .i64 (r.l.t : Int), .slice a' r.n c'] 207)))
      have hnw := (World.news_of_block (heap_alloc_new (w6.setCell ⟨T7, 3, none⟩ (.slice a' r.n c')) (.cells #[.int .i64 (r.l.c : Int), .int .i64 (r.l.z : Int), .int .i64 (r.l.t : Int), .slice a' r.n c'] 207)))
      have Py : Hid ((nP ci).v.ownBlock ≠ some g) := fun e => (H8.out.r.og _ (gV ci _) g e).1 rfl
      have aAu : (w6.setCell ⟨T7, 3, none⟩ (.slice a' r.n c')).heap.size = w6.heap.size := by simp
      rw [aAu] at hnw
      have Ot := gO hnw
      clear hnw aAu
      obtain ⟨ti, hti, htz, hts, htb⟩ := info_parts vF
      have hcl : ci.lc.length ≤ 24 := by have h1 := wU H8.out.r; rw [h1]; simp; omega
      have aHF : g < w6.heap.size := (HS5.out.below hb6).r.gs
      have H5 := gO HS5.out
      have HB6 := gO hb6
      clear HE6 HEF6 K7 ho6 hb6
      go_wp2_with (at_builtin; refine wpList_append_lies _ rfl _ _ 41 rfl 0 207 ti (.agg #[.int .i64 0, .int .i64 0, .int .i64 0, .slice none 0 0]) 4 48 Tryz.underlying41 hti htz hts htb rfl (by decide) (.slice ci.al ci.lc.length ci.cl) ci.lc.length (flat bG ci.lc) rfl H8.out.r.Xz ⟨w6.heap.size, 0, none⟩ 1 1 [.int .i64 (r.l.c : Int), .int .i64 (r.l.z : Int), .int .i64 (r.l.t : Int), .slice a' r.n c'] rfl rfl Ot.out (by simp [Value.oneCell']) (by decide) (by unfold maxLen; omega) (by omega) (Nat.zero_le _) _ rfl ?_; intro g9 cap9 w9 ho9 hg9 hl9 UL; have q9 := (bH H8.out.k H8.out.r.gs hg9 (fun e => Py.out e.symm) 3).trans (show _ = some (.slice ci.al ci.lc.length ci.cl) from rfl); have f9 := bI H8.out.fz H8.out.r.gs hg9 (fun e => Py.out e.symm) 3)
      have hl1 : (ci.lc ++ [(⟨r.l, a', r.n, c'⟩ : Lc)]).length = ci.lc.length + 1 := by simp
      have hpo : cZ ((w6.setCell ⟨T7, 3, none⟩ (.slice a' r.n c')).alloc (.cells #[.int .i64 (r.l.c : Int), .int .i64 (r.l.z : Int), .int .i64 (r.l.t : Int), .slice a' r.n c'] 207)) 0 ((ci.lc ++ [(⟨r.l, a', r.n, c'⟩ : Lc)]).map jB) := QV (r := ⟨r.l, a', r.n, c'⟩) H8.out.r (own_below HO7.out (aC _ _) (Nat.le_refl _)) H5.out.r
      have hpq := JA (r := ⟨r.l, a', r.n, c'⟩) (W' := (w6.setCell ⟨T7, 3, none⟩ (.slice a' r.n c')).alloc (.cells #[.int .i64 (r.l.c : Int), .int .i64 (r.l.z : Int), .int .i64 (r.l.t : Int), .slice a' r.n c'] 207)) HO7.out H5.out.r
      obtain ⟨hs9, sf9⟩ := H8.out.lists hg9 (al' := some ⟨g9, 0, none⟩) (cl' := cap9) (oU := ci.lc ++ [(⟨r.l, a', r.n, c'⟩ : Lc)]) (by rw [hl1, aT, fF]; exact ho9) (by
       rw [hl1]
       intro k hk
       obtain rfl : g9 = k := by simpa [Value.ownBlock] using hk
       rcases hl9 with h1 | h1
       ·exact .inl h1
       ·exact .inr (Nat.le_of_eq h1.symm)) hpo hpq
      rw [hl1] at hs9
      have aDy : (ci.lc ++ [(⟨r.l, a', r.n, c'⟩ : Lc)]).map Lc.l = h.ls.take (i + 1) := by
       have h1 := H8.out.r.ll
       rw [List.map_append, h1, List.take_succ_eq_append_getElem hi2, ← H7.out]
       rfl
      rw [aDy] at hs9
      have HS9 := gO (hs9.sub (Y := fun k => k < w1.heap.size) fun k hk => .inl hk)
      have HB9 : Hid (Below w1.heap.size w1 (w9.setCell ⟨g, 3, none⟩ (.slice (some ⟨g9, 0, none⟩) (ci.lc.length + 1) cap9))) := Below.setCell (Below.grown (Below.step HB7.out (aC _ _)) hg9 (gQ HB7.out.size (aC _ _).size) (fun k hk => (UJ H5.out.r (fun k hk => .inl hk) k hk))) (show w1.heap.size ≤ (⟨g, 3, none⟩ : Addr).block from hgb) (.slice (some ⟨g9, 0, none⟩) (ci.lc.length + 1) cap9)
      go_roundw
      case rel => exact ⟨i + 1, _, by omega, by go_num, HS9, HB9⟩
      case measure => simp [intOf]; omega
     ·obtain rfl : i = lc.length := by omega
      have HS9 : Hid (HS wr g (fun k => k < w1.heap.size) h ci) := by
       have h1 := jF.out
       rw [List.take_of_length_le (by rw [LW.out]; exact Nat.le_refl _)] at h1
       exact h1
      obtain ⟨x0, x1, x2, x3, x4⟩ := HS9.out.words
      have xW := aB K2h.out hsz lK.out
      have F2r := aJ F2h.out hsz lK.out
      have y0' := xW 0
      have y1' := xW 1
      have y2' := xW 2
      have y3' := xW 3
      have y4' := xW 4
      obtain ⟨f0, f1, f2, f3, f4⟩ := gF5 F2r
      simp only [gB, gC, gD] at y0' y1' y2' y3' y4'
      have KX := aG (aG (aG (aG (aG xW 0 (.slice ci.az 2 ci.cz)) 1 (.slice ci.am 2 ci.cm)) 2 (.int .i64 (h.aF : Int))) 3 (.slice ci.al ci.lc.length ci.cl)) 4 (.slice ci.av h.live.length ci.cv)
      have pI := gO (((((HS9.out.far hsz 0 (.slice ci.az 2 ci.cz)).far hsz 1 (.slice ci.am 2 ci.cm)).far hsz 2 (.int .i64 (h.aF : Int))).far hsz 3 (.slice ci.al ci.lc.length ci.cl)).far hsz 4 (.slice ci.av h.live.length ci.cv))
      have hle1 : w.heap.size ≤ w.heap.size + 1 := Nat.le_succ _
      have HBX2 := gO (Below.setCell (Below.setCell (Below.setCell (Below.setCell (Below.setCell (Below.trans HB1.out (lK.out.mono (HB1.out.size))) (show w.heap.size ≤ (⟨w.heap.size + 1, 0, none⟩ : Addr).block from hle1) (.slice ci.az 2 ci.cz)) (show w.heap.size ≤ (⟨w.heap.size + 1, 1, none⟩ : Addr).block from hle1) (.slice ci.am 2 ci.cm)) (show w.heap.size ≤ (⟨w.heap.size + 1, 2, none⟩ : Addr).block from hle1) (.int .i64 (h.aF : Int))) (show w.heap.size ≤ (⟨w.heap.size + 1, 3, none⟩ : Addr).block from hle1) (.slice ci.al ci.lc.length ci.cl)) (show w.heap.size ≤ (⟨w.heap.size + 1, 4, none⟩ : Addr).block from hle1) (.slice ci.av h.live.length ci.cv))
      go_wp2
      generalize ((((wr.setCell ⟨w.heap.size + 1, 0, none⟩ (.slice ci.az 2 ci.cz)).setCell ⟨w.heap.size + 1, 1, none⟩ (.slice ci.am 2 ci.cm)).setCell ⟨w.heap.size + 1, 2, none⟩ (.int .i64 (h.aF : Int))).setCell ⟨w.heap.size + 1, 3, none⟩ (.slice ci.al ci.lc.length ci.cl)).setCell ⟨w.heap.size + 1, 4, none⟩ (.slice ci.av h.live.length ci.cv) = wx at *
      change ∀ o, wx.cell? ⟨w.heap.size + 1, o, none⟩ = (#[.slice ci.az 2 ci.cz, .slice ci.am 2 ci.cm, .int .i64 (h.aF : Int), .slice ci.al ci.lc.length ci.cl, .slice ci.av h.live.length ci.cv] : Array Value)[o]? at KX
      refine bodyPost_ret (v := .agg #[.slice ci.az 2 ci.cz, .slice ci.am 2 ci.cm, .int .i64 (h.aF : Int), .slice ci.al ci.lc.length ci.cl, .slice ci.av h.live.length ci.cv]) (by simp [results, Tryz.results86, go_sem, KX]) rfl ⟨g, ci, rfl, pI.out.sub (fun k hk => by have := HB1.out.size; exact gI hk this), by have := HB1.out.size; omega, HBX2.out⟩
end
end Go.Proofs.YtcmpmobhongkiaaGreatDoor
