/- texts of this claim, joined. -/
import Derived.Test.YtcmpmobhongkiaaGreatDoorCM0
import Derived.Test.YtcmpmobhongkiaaGreatDoorCM16
import Derived.Test.YtcmpmobhongkiaaGreatDoorCM17
set_option linter.unusedVariables false
set_option linter.unusedSimpArgs false
namespace Go.Proofs.YtcmpmobhongkiaaGreatDoor
section
open Go.RowKit

def EL (az : Option Addr) (cz : Nat) (zs : List Zc) : Rs := ⟨102, 4, .slice az zs.length cz, zs.length, flat kK zs⟩
def Yj (av : Option Addr) (cv : Nat) (l : List Bk) : Rs := ⟨63, 3, .slice av l.length cv, l.length, flat aO l⟩
def inR (am : Option Addr) (cm : Nat) (l : List Nat) : Rs := ⟨3, 1, .slice am l.length cm, l.length, flat fK l⟩
structure CZ (W : World) (jI g : Nat) (zs : List Zc) (az : Option Addr) (cz : Nat) (am : Option Addr) (cm : Nat) (m : List Nat) (av : Option Addr) (cv : Nat) (v : List Bk) (aF : Nat) : Prop where
 oz : (EL az cz zs).on W jI
 ov : (Yj av cv v).on W jI
 om : (inR am cm m).on W jI
 rd : ∀ y ∈ zs, (Na y).on W jI ∧ (Nb y).on W jI
 zv : (EL az cz zs).off (Yj av cv v)
 zm : (EL az cz zs).off (inR am cm m)
 zy : ∀ y ∈ zs, (EL az cz zs).off (Na y) ∧ (EL az cz zs).off (Nb y)
 vm : (Yj av cv v).off (inR am cm m)
 vy : ∀ y ∈ zs, (Yj av cv v).off (Na y) ∧ (Yj av cv v).off (Nb y)
 gz : (EL az cz zs).v.ownBlock ≠ some g
 gv : (Yj av cv v).v.ownBlock ≠ some g
 gm : (inR am cm m).v.ownBlock ≠ some g
 gy : ∀ y ∈ zs, (Na y).v.ownBlock ≠ some g ∧ (Nb y).v.ownBlock ≠ some g
 gs : jI ≤ g ∧ g < W.heap.size
 k : ∀ o, W.cell? ⟨g, o, none⟩ = (#[.slice az zs.length cz, .slice am m.length cm, .int .i64 (aF : Int), .slice none 0 0, .slice av v.length cv] : Array Value)[o]?
 fz : ∀ o, W.frozen? ⟨g, o, none⟩ = false
section
variable {W W' W1 : World} {jI g : Nat} {zs : List Zc} {az : Option Addr} {cz : Nat} {am : Option Addr} {cm : Nat} {m : List Nat} {av : Option Addr} {cv : Nat} {v : List Bk} {aF : Nat}
theorem CZ.below (h : CZ W jI g zs az cz am cm m av cv v aF) (hb : Below W.heap.size W W') : CZ W' jI g zs az cz am cm m av cv v aF :=
 ⟨own_below h.oz hb (Nat.le_refl _), own_below h.ov hb (Nat.le_refl _), own_below h.om hb (Nat.le_refl _), fun y hy => ⟨own_below (h.rd y hy).1 hb (Nat.le_refl _), own_below (h.rd y hy).2 hb (Nat.le_refl _)⟩, h.zv, h.zm, h.zy, h.vm, h.vy, h.gz, h.gv, h.gm, h.gy, ⟨h.gs.1, gI h.gs.2 hb.size⟩, aC h.k h.gs.2 hb, aJ h.fz h.gs.2 hb⟩
theorem CZ.add (h : CZ W jI g zs az cz am cm m av cv v aF) (hb : Below W.heap.size W W1) {z' : Zn} {a1 a2 : Option Addr} {n1 n2 c1 c2 : Nat} (hz : fG W1 W.heap.size a1 a2 n1 n2 c1 c2 z') {g6 cap6 : Nat}
  (ho : W'.ownsRow jI 102 4 (.slice (some ⟨g6, 0, none⟩) (zs.length + 1) cap6) (zs.length + 1) (flat kK (zs ++ [⟨z', a1, a2, n1, n2, c1, c2⟩]))) (hg : W1.grownBy W' (Value.slice az zs.length cz).ownBlock) (hl : (Value.slice az zs.length cz).ownBlock = some g6 ∨ g6 = W1.heap.size) :
  CZ (W'.setCell ⟨g, 0, none⟩ (.slice (some ⟨g6, 0, none⟩) (zs.length + 1) cap6)) jI g (zs ++ [⟨z', a1, a2, n1, n2, c1, c2⟩]) (some ⟨g6, 0, none⟩) cap6 am cm m av cv v aF := by
 have h1 := h.below hb
 have hbs : jI ≤ W.heap.size := by have := h.gs; omega
 have hzo : (EL az cz zs).v.ownBlock = (Value.slice az zs.length cz).ownBlock := rfl
 have Vf : ∀ k, (Value.slice az zs.length cz).ownBlock = some k → k < W.heap.size := fun k hk => (h.oz.lt k (by rw [hzo]; exact hk)).2
 -- the row's new block is none of the others'
 have hnb : ∀ (r : Rs), (EL az cz zs).off r → (∀ k, r.v.ownBlock = some k → k < W1.heap.size) → r.v.ownBlock ≠ some g6 := fun r hoff hlt e => by
  rcases hl with h2 | h2
  ·exact hoff g6 h2 e
  ·have := hlt g6 e; omega
 have hzl : (Na ⟨z', a1, a2, n1, n2, c1, c2⟩).on W1 W.heap.size := hz.o1
 have hzy : (Nb ⟨z', a1, a2, n1, n2, c1, c2⟩).on W1 W.heap.size := hz.o2
 have hge : ∀ (r : Rs), r.on W1 W.heap.size → ∀ k, r.v.ownBlock = some k → W.heap.size ≤ k ∧ k < W1.heap.size := fun r hr k hk => hr.lt k hk
 have Zd : (EL az cz zs).off (Na ⟨z', a1, a2, n1, n2, c1, c2⟩) := fun k h2 h3 => by have := Vf k h2; have := (hge _ hzl k h3).1; omega
 have Ze : (EL az cz zs).off (Nb ⟨z', a1, a2, n1, n2, c1, c2⟩) := fun k h2 h3 => by have := Vf k h2; have := (hge _ hzy k h3).1; omega
 have Zf : g6 ≠ g := fun e => by
  rcases hl with h2 | h2
  ·exact h.gz (by rw [hzo, h2, e])
  ·have := h1.gs.2; omega
 have hgw : (Value.slice az zs.length cz).ownBlock ≠ some g := h.gz
 -- a row that is kept: own at W1, apart from the aCq row and from g
 have keep : ∀ (r : Rs) (b : Nat), r.on W1 b → (EL az cz zs).off r → r.v.ownBlock ≠ some g → r.on (W'.setCell ⟨g, 0, none⟩ (.slice (some ⟨g6, 0, none⟩) (zs.length + 1) cap6)) b := fun r b hr hoff hne =>
  dL (iF hr hg (fun k hk e => hoff k e hk)) hne _
 have hne2 : ∀ (r : Rs), r.on W1 W.heap.size → r.v.ownBlock ≠ some g := fun r hr e => by have := (hge r hr g e).1; have := h.gs.2; omega
 have hlen : (zs ++ [(⟨z', a1, a2, n1, n2, c1, c2⟩ : Zc)]).length = zs.length + 1 := by simp
 have hv : (EL (some ⟨g6, 0, none⟩) cap6 (zs ++ [⟨z', a1, a2, n1, n2, c1, c2⟩])).v = .slice (some ⟨g6, 0, none⟩) (zs.length + 1) cap6 := by unfold EL; simp only [hlen]
 have hvo : (EL (some ⟨g6, 0, none⟩) cap6 (zs ++ [⟨z', a1, a2, n1, n2, c1, c2⟩])).v.ownBlock = some g6 := by rw [hv]; rfl
 have Cm : ∀ (r : Rs), r.v.ownBlock ≠ some g6 → (EL (some ⟨g6, 0, none⟩) cap6 (zs ++ [⟨z', a1, a2, n1, n2, c1, c2⟩])).off r := fun r hr k h2 h3 => by
  rw [hvo] at h2
  obtain rfl := gP h2
  exact hr h3
 have lt1 : ∀ (r : Rs) (b : Nat), r.on W1 b → ∀ k, r.v.ownBlock = some k → k < W1.heap.size := fun r b hr k hk => (hr.lt k hk).2
 have hmem : ∀ y ∈ zs ++ [(⟨z', a1, a2, n1, n2, c1, c2⟩ : Zc)], y ∈ zs ∨ y = ⟨z', a1, a2, n1, n2, c1, c2⟩ := fun y hy => by simpa using hy
 refine ⟨?_, keep _ _ h1.ov h.zv h.gv, keep _ _ h1.om h.zm h.gm, fun y hy => ?_, Cm _ (hnb _ h.zv (lt1 _ _ h1.ov)), Cm _ (hnb _ h.zm (lt1 _ _ h1.om)), fun y hy => ?_, h.vm, fun y hy => ?_, by rw [hvo]; exact fun e => Zf (gP e), h.gv, h.gm, fun y hy => ?_, ⟨h.gs.1, by simpa using gI h1.gs.2 hg.size⟩, ?_, aH (bI h1.fz h1.gs.2 hg (fun e => hgw e.symm)) _ _⟩
 ·have h2 := dL ho (b := g) (i := 0) (by intro e; exact Zf (by simpa [Value.ownBlock] using e)) (.slice (some ⟨g6, 0, none⟩) (zs.length + 1) cap6)
  unfold Rs.on EL
  simp only [hlen]
  exact h2
 ·rcases hmem y hy with h2 | rfl
  ·exact ⟨keep _ _ (h1.rd y h2).1 (h.zy y h2).1 (h.gy y h2).1, keep _ _ (h1.rd y h2).2 (h.zy y h2).2 (h.gy y h2).2⟩
  ·exact ⟨own_base (keep _ _ hzl Zd (hne2 _ hzl)) hbs, own_base (keep _ _ hzy Ze (hne2 _ hzy)) hbs⟩
 ·rcases hmem y hy with h2 | rfl
  ·exact ⟨Cm _ (hnb _ (h.zy y h2).1 (lt1 _ _ (h1.rd y h2).1)), Cm _ (hnb _ (h.zy y h2).2 (lt1 _ _ (h1.rd y h2).2))⟩
  ·exact ⟨Cm _ (hnb _ Zd (lt1 _ _ hzl)), Cm _ (hnb _ Ze (lt1 _ _ hzy))⟩
 ·rcases hmem y hy with h2 | rfl
  ·exact h.vy y h2
  ·exact ⟨fun k h3 h4 => by have := (h.ov.lt k h3).2; have := (hge _ hzl k h4).1; omega, fun k h3 h4 => by have := (h.ov.lt k h3).2; have := (hge _ hzy k h4).1; omega⟩
 ·rcases hmem y hy with h2 | rfl
  ·exact h.gy y h2
  ·exact ⟨hne2 _ hzl, hne2 _ hzy⟩
 ·have h2 := aG (bH h1.k h1.gs.2 hg (fun e => hgw e.symm)) 0 (.slice (some ⟨g6, 0, none⟩) (zs.length + 1) cap6)
  rw [hlen]
  exact h2
theorem CZ.done {y0 y1 : Zc} {m0 m1 : Nat} (h : CZ W jI g [y0, y1] az cz am cm [m0, m1] av cv v aF) {X : Nat → Prop} (hX : ∀ k, X k → k < jI) :
  HS W g X ⟨y0.z, y1.z, m0, m1, aF, [], v⟩ ⟨az, cz, am, cm, none, 0, av, cv, y0, y1, []⟩ := by
 have m0 : y0 ∈ [y0, y1] := by simp
 have m1 : y1 ∈ [y0, y1] := by simp
 have hl : (nR ⟨az, cz, am, cm, none, 0, av, cv, y0, y1, []⟩).v.ownBlock = none := rfl
 have base0 : ∀ (r : Rs), r.on W jI → r.on W 0 := fun r hr => own_base hr (Nat.zero_le _)
 refine ⟨⟨⟨fun r hr => ?_, ?_⟩, fun r hr => ?_, fun r hr s hs => ?_, fun r hr k hk => ?_, fun r hr => ?_, fun r hr k hk hx => ?_, h.gs.2, fun e => by have := hX _ e; have := h.gs.1; omega, fun k hk => by have := hX k hk; have := h.gs; omega, rfl, rfl, rfl⟩, h.k, h.fz⟩
 ·simp only [Hc.rows, List.map_nil, List.mem_cons, List.not_mem_nil, or_false] at hr
  rcases hr with rfl | rfl | rfl
  ·exact base0 _ h.oz
  ·exact ⟨rfl, .inl ⟨rfl, rfl⟩⟩
  ·exact base0 _ h.ov
 ·unfold Hc.rows
  refine List.pairwise_cons.2 ⟨fun r hr => ?_, List.pairwise_cons.2 ⟨fun r hr k h2 => (by rw [hl] at h2; cases h2), List.pairwise_cons.2 ⟨fun r hr => (by simp at hr), List.Pairwise.nil⟩⟩⟩
  simp only [List.map_nil, List.mem_cons, List.not_mem_nil, or_false] at hr
  rcases hr with rfl | rfl
  ·exact fun k _ h3 => by rw [hl] at h3; cases h3
  ·exact h.zv
 ·simp only [Hc.reads, List.mem_cons, List.not_mem_nil, or_false] at hr
  rcases hr with rfl | rfl | rfl | rfl | rfl
  ·exact base0 _ h.om
  ·exact base0 _ (h.rd y0 m0).1
  ·exact base0 _ (h.rd y0 m0).2
  ·exact base0 _ (h.rd y1 m1).1
  ·exact base0 _ (h.rd y1 m1).2
 ·simp only [Hc.reads, List.mem_cons, List.not_mem_nil, or_false] at hr
  simp only [Hc.rows, List.map_nil, List.mem_cons, List.not_mem_nil, or_false] at hs
  rcases hs with rfl | rfl | rfl
  ·rcases hr with rfl | rfl | rfl | rfl | rfl
   ·exact h.zm.symm
   ·exact (h.zy y0 m0).1.symm
   ·exact (h.zy y0 m0).2.symm
   ·exact (h.zy y1 m1).1.symm
   ·exact (h.zy y1 m1).2.symm
  ·exact fun k _ h3 => by rw [hl] at h3; cases h3
  ·rcases hr with rfl | rfl | rfl | rfl | rfl
   ·exact h.vm.symm
   ·exact (h.vy y0 m0).1.symm
   ·exact (h.vy y0 m0).2.symm
   ·exact (h.vy y1 m1).1.symm
   ·exact (h.vy y1 m1).2.symm
 ·simp only [Hc.rows, List.map_nil, List.mem_cons, List.not_mem_nil, or_false] at hr
  rcases hr with rfl | rfl | rfl
  ·exact ⟨fun e => h.gz (by rw [← e]; exact hk), fun e => by have := hX k e; have := (h.oz.lt k hk).1; omega⟩
  ·rw [hl] at hk; cases hk
  ·exact ⟨fun e => h.gv (by rw [← e]; exact hk), fun e => by have := hX k e; have := (h.ov.lt k hk).1; omega⟩
 ·simp only [Hc.reads, List.mem_cons, List.not_mem_nil, or_false] at hr
  rcases hr with rfl | rfl | rfl | rfl | rfl
  ·exact h.gm
  ·exact (h.gy y0 m0).1
  ·exact (h.gy y0 m0).2
  ·exact (h.gy y1 m1).1
  ·exact (h.gy y1 m1).2
 ·have h5 := hX k hx
  simp only [Hc.reads, List.mem_cons, List.not_mem_nil, or_false] at hr
  rcases hr with rfl | rfl | rfl | rfl | rfl
  ·have := (h.om.lt k hk).1; omega
  ·have := ((h.rd y0 m0).1.lt k hk).1; omega
  ·have := ((h.rd y0 m0).2.lt k hk).1; omega
  ·have := ((h.rd y1 m1).1.lt k hk).1; omega
  ·have := ((h.rd y1 m1).2.lt k hk).1; omega
end
end
section
open Go.RowKit

def Bd (done : List Bk) (p : Nat) : Bool := decide (0 < cnt done p)
theorem Qb (done : List Bk) (b : Bk) (p : Nat) : marked (Bd done) b.a b.fin p = Bd (done ++ [b]) p := by
 unfold marked Bd
 rw [bJ]
 have h1 : cnt [b] p = hit b p := by simp [cnt]
 rw [h1]
 unfold hit
 by_cases h : b.a ≤ p ∧ p < b.fin
 ·rw [if_pos h, decide_eq_true h, Bool.or_true, decide_eq_true (by omega)]
 ·rw [if_neg h, decide_eq_false h, Bool.or_false, Nat.add_zero]
theorem zN (G : Nat) (b : Bk) (done : List Bk) (w : World) (hm : wS w G (Bd done) false) (h1 : ∀ p, cnt (done ++ [b]) p ≤ 1) (hb : b.fin ≤ 256) (v : Int) (hv : v = ((2 ^ b.o : Nat) : Int)) :
  Calls Tryz.prog 128 #[.pointer (some ⟨G, 0, none⟩), .int .i64 b.a, .int .i64 v] w fun ev w' => ev = .returned (.tuple #[]) ∧ wS w' G (Bd (done ++ [b])) false ∧ Safe (fun k => k ≠ G) w w' := by
 subst hv
 have hpo := dM b.o
 have hfin : b.fin = b.a + 2 ^ b.o := rfl
 refine (TG G b.a (2 ^ b.o) (Bd done) false w hm (by omega) (by omega) (fun p h2 h3 => ?_)).mono fun ev w' h => ⟨h.1, h.2.1.congr fun p _ => by rw [← hfin]; exact Qb done b p, h.2.2⟩
 have h4 := h1 p
 rw [bJ] at h4
 have h5 : cnt [b] p = 1 := by
  simp only [cnt, Nat.add_zero]
  exact jE.2 ⟨h2, h3⟩
 unfold Bd
 exact decide_eq_false (by omega)
end
section
open Go.RowKit

theorem FY {l : List Ls} {i : Nat} (h : i < l.length) : lsB (l.take (i + 1)) = lsB (l.take i) ++ jJ l[i].p := by
  have happ : ∀ a b : List Ls, lsB (a ++ b) = lsB a ++ lsB b := fun a b => by
    induction a with
    | nil => rfl
    | cons x a ih => simp only [List.cons_append, lsB, ih, List.append_assoc]
  rw [List.take_succ_eq_append_getElem h, happ]
  simp [lsB]
theorem Nk (l : List Ls) (i : Nat) : lsB l = lsB (l.take i) ++ lsB (l.drop i) := by
  have happ : ∀ a b : List Ls, lsB (a ++ b) = lsB a ++ lsB b := fun a b => by
    induction a with
    | nil => rfl
    | cons x a ih => simp only [List.cons_append, lsB, ih, List.append_assoc]
  rw [← happ, List.take_append_drop]
theorem KN (done : List Bk) (l : List Nat) (j : Nat) (hj : j < l.length) : done ++ jJ (l.take (j + 1)) = (done ++ jJ (l.take j)) ++ [⟨l[j], 0, 0⟩] := by
  rw [List.take_succ_eq_append_getElem hj, List.append_assoc]
  unfold jJ
  rw [List.map_append]
  rfl
theorem TI {done r : List Bk} {l : List Nat} (h : ∀ p, cnt (done ++ (jJ l ++ r)) p ≤ 1) {j : Nat} (hj : j < l.length) (p : Nat) : cnt ((done ++ jJ (l.take j)) ++ [⟨l[j], 0, 0⟩]) p ≤ 1 := by
  rw [← KN done l j hj]
  have h1 : jJ l = jJ (l.take (j + 1)) ++ jJ (l.drop (j + 1)) := by unfold jJ; rw [← List.map_append, List.take_append_drop]
  have h2 := h p
  rw [h1, bJ, bJ, bJ] at h2
  rw [bJ]
  omega

set_option maxHeartbeats 4000000 in
set_option maxRecDepth 100000 in
theorem Qc (az am al av : Option Addr) (cz cm cl cv nl nv G : Nat) (y0 y1 : Zc) (lc : List Lc) (h : Hp) (done : List Bk) (w0 w : World) (hh : HAt w0 az am al av nl nv y0 y1 lc h) (hw0 : w0.heap.size ≤ G) (hb0 : Below w0.heap.size w0 w) (hk : dW h) (hnl : nl ≤ 1000) (hm : wS w G (Bd done) false) (hone : ∀ p, cnt (done ++ lsB h.ls) p ≤ 1) :
    Calls Tryz.prog 129 #[.agg #[.slice az 2 cz, .slice am 2 cm, .int .i64 h.aF, .slice al nl cl, .slice av nv cv], .pointer (some ⟨G, 0, none⟩)] w fun ev w' => ev = .returned (.bool true) ∧ wS w' G (Bd (done ++ lsB h.ls)) false ∧ Safe (fun k => k ≠ G) w w' := by
  obtain ⟨K2, F2, hsz, hbw⟩ := boxes1 w #[.slice az 2 cz, .slice am 2 cm, .int .i64 (h.aF : Int), .slice al nl cl, .slice av nv cv] 44
  have hGw := hm.hi
  have HM := gO (hm.below hbw)
  have HH := gO hh
  have hbx := gO (hb0.trans (hbw.mono hb0.size))
  have hlen : lc.length = nl := hh.nl
  have aCv : h.ls.length = nl := by rw [← hh.ll, List.length_map, hlen]
  have TB := gO hh.ll
  have FW : Hid (jL h.ls) := hk.lk
  have HLR := gO hk.lr
  have aCA := gO hone
  have TJ := gO (Safe.fP (X := fun k => k ≠ G) hbw)
  clear hh hm hb0 hone hbw
  go_enter Tryz.func129, Tryz.ntmps129
  go_wp2
  generalize w.alloc (.cells #[.slice az 2 cz, .slice am 2 cm, .int .i64 (h.aF : Int), .slice al nl cl, .slice av nv cv] 44) = w1 at *
  go_loopw [12] (fun s12 wr => ∃ i : Nat, i ≤ nl ∧ s12 = .int .i64 (i : Int) ∧ Hid (wS wr G (Bd (done ++ lsB (h.ls.take i))) false) ∧ Hid (Safe (fun k => k ≠ G) w1 wr)) (fun s12 _ => nl - (intOf s12).toNat)
  case atStart => exact ⟨0, Nat.zero_le _, rfl, by simpa [Hid, lsB] using HM.out, Safe.refl _ _⟩
  case round =>
    obtain ⟨i, hi, rfl, HK, HS⟩ := hrel
    have hne : w.heap.size ≠ G := by omega
    have xY := HS.out.box K2 hsz hne
    have Po := HS.out.size
    have hw1 : w.heap.size < wr.heap.size := by omega
    have hB := gO (HS.out.after hbx.out (B := w0.heap.size) (fun k hk => by omega) (by have := hbx.out.size; omega))
    have k20 := xY 0
    have k21 := xY 1
    have k22 := xY 2
    have k23 := xY 3
    have k24 := xY 4
    simp only [gB, gC, gD] at k20 k21 k22 k23 k24
    clear xY
    by_cases hlt : i < nl
    · have hlt2 : (i : Int) < nl := by omega
      have hi2 : i < lc.length := by omega
      have hi3 : i < h.ls.length := by omega
      have hel : ∀ j (h1 : j < lc.length) (h2 : j < h.ls.length), lc[j].l = h.ls[j] := fun j h1 h2 => by
        have h3 := congrArg (·[j]?) TB.out
        simp [h1, h2] at h3
        exact h3
      have HAr := gO (HH.out.below hB.out)
      obtain ⟨bb, off, ha1, hbb, hc⟩ := aN aP (by decide) HAr.out.lr hi2
      obtain rfl := ha1
      obtain ⟨hc0, hc1, hc2, hc3⟩ := lC hc
      have hpr := HAr.out.pr _ (gL hi2)
      have hok := HLR.out _ (gL hi3)
      have hpre : Hid (0 < i → ∃ k, k + 1 = i ∧ ∃ y : Lc, (∀ j v, (bF y)[j]? = some v → wr.cell? ⟨bb, off + k * 4 + j, none⟩ = some v) ∧ y.l.key < h.ls[i].key ∧ y.l.z < 2 ∧ y.l.t < 3) := fun h0 => by
        obtain ⟨bb', off', ha2, Wy, hc'⟩ := aN aP (by decide) HAr.out.lr (j := i - 1) (by omega)
        obtain ⟨rfl, rfl⟩ : bb = bb' ∧ off = off' := by simpa using ha2
        have h5 := hel (i - 1) (by omega) (by omega)
        have h6 := HLR.out _ (gL (show i - 1 < h.ls.length by omega))
        refine ⟨i - 1, by omega, lc[i - 1], hc', ?_, ?_⟩
        · rw [h5]
          exact List.pairwise_iff_getElem.1 FW.out (i - 1) i (by omega) (by omega) (by omega)
        · rw [h5]; exact ⟨h6.2.1, h6.2.2.1⟩
      have Zr := hel i hi2 hi3
      rw [Zr] at hc0 hc1 hc2 hpr
      have hnext := gO (FY hi3)
      have hpz : Hid (∀ p ∈ h.ls[i].p, p < 256 ∧ h.iD p = h.ls[i].z) := fun p hp => by
        have h7 := hok.2.2.2.2.2 p hp
        have h8 := hok.2.1
        refine ⟨h7.1, ?_⟩
        unfold Hp.iD
        by_cases h9 : p < h.z0.e
        · rw [if_pos h9]; exact (h7.2.1 h9).symm
        · rw [if_neg h9]; have := fun e => h9 (h7.2.2 e); omega
      have HC1 : Hid (∀ p, cnt ((done ++ lsB (h.ls.take i)) ++ (jJ h.ls[i].p ++ lsB (h.ls.drop (i + 1)))) p ≤ 1) := fun p => by
        have h1 := aCA.out p
        have h2 : lsB h.ls = lsB (h.ls.take i) ++ (jJ h.ls[i].p ++ lsB (h.ls.drop (i + 1))) := by
          rw [← List.append_assoc, ← FY hi3]
          exact Nk h.ls (i + 1)
        rw [h2, ← List.append_assoc] at h1
        exact h1
      have fH := hok.1
      have hzz := hok.2.1
      have htt := hok.2.2.1
      have hp1 := hok.2.2.2.1
      have hp8 := hok.2.2.2.2.1
      obtain ⟨hpn, Zt⟩ := hpr
      have Zu := HH.out.pr _ (gL hi2)
      have HPR : Hid (Row w0 lc[i].a (flat fK lc[i].l.p)) := Zu.2
      clear Zu
      rw [Zr] at HPR
      generalize h.ls[i] = y at *
      clear hc hel hok
      generalize lc[i] = r at *
      obtain ⟨pb, jS, hp9, _, _⟩ := aN bM (by decide) HPR.out (j := 0) (show 0 < y.p.length by omega)
      generalize r.a = ra at *
      obtain rfl := hp9
      rw [hpn] at hp1 hp8
      have g1 : decide ((y.c : Int) < 0) = false := decide_eq_false (by omega)
      have g3 : decide ((y.z : Int) < 0) = false := decide_eq_false (by omega)
      have g5 : decide ((y.t : Int) < 0) = false := decide_eq_false (by omega)
      have g4 : decide ((1 : Int) < y.z) = false := decide_eq_false (by omega)
      have g6 : decide ((3 : Int) ≤ y.t) = false := decide_eq_false (by omega)
      have g8 : decide ((8 : Int) < r.n) = false := decide_eq_false (by omega)
      have gg2 : decide (h.aF ≤ y.c) = false := decide_eq_false (by omega)
      have gg4 : decide (1 < y.z) = false := decide_eq_false (by omega)
      have gg6 : decide (3 ≤ y.t) = false := decide_eq_false (by omega)
      have gg7 : ((r.n : Int) == 0) = false := by rw [beq_eq_false_iff_ne]; omega
      have gg8 : decide (8 < r.n) = false := decide_eq_false (by omega)
      go_wp2_with fail
      obtain ⟨E2, EF2, DY, o7⟩ := boxes1 wr #[.int .i64 (y.c : Int), .int .i64 (y.z : Int), .int .i64 (y.t : Int), .slice (some ⟨pb, jS, none⟩) r.n r.c] 207
      have e0 := E2 0
      have e1 := E2 1
      have e2 := E2 2
      have e3 := E2 3
      simp only [gB, gC, gD] at e0 e1 e2 e3
      have q0 := (o7.cell (p := ⟨w.heap.size, 0, none⟩) hw1).trans k20
      have q2 := (o7.cell (p := ⟨w.heap.size, 2, none⟩) hw1).trans k22
      have q3 := (o7.cell (p := ⟨w.heap.size, 3, none⟩) hw1).trans k23
      have TD : w.heap.size < (wr.alloc (.cells #[.int .i64 (y.c : Int), .int .i64 (y.z : Int), .int .i64 (y.t : Int), .slice (some ⟨pb, jS, none⟩) r.n r.c] 207)).heap.size := by omega
      have hpx : Hid (0 < i → ∃ k : Nat, (i : Int) - 1 = k ∧ (k : Int) < nl ∧ k < nl ∧ bb < (wr.alloc (.cells #[.int .i64 (y.c : Int), .int .i64 (y.z : Int), .int .i64 (y.t : Int), .slice (some ⟨pb, jS, none⟩) r.n r.c] 207)).heap.size ∧ ∃ x : Lc, x.l.key < y.key ∧ (x.l.z < 2 ∧ x.l.t < 3) ∧ (wr.alloc (.cells #[.int .i64 (y.c : Int), .int .i64 (y.z : Int), .int .i64 (y.t : Int), .slice (some ⟨pb, jS, none⟩) r.n r.c] 207)).cell? ⟨bb, off + k * 4, none⟩ = some (.int .i64 x.l.c) ∧ (wr.alloc (.cells #[.int .i64 (y.c : Int), .int .i64 (y.z : Int), .int .i64 (y.t : Int), .slice (some ⟨pb, jS, none⟩) r.n r.c] 207)).cell? ⟨bb, off + k * 4 + 1, none⟩ = some (.int .i64 x.l.z) ∧ (wr.alloc (.cells #[.int .i64 (y.c : Int), .int .i64 (y.z : Int), .int .i64 (y.t : Int), .slice (some ⟨pb, jS, none⟩) r.n r.c] 207)).cell? ⟨bb, off + k * 4 + 2, none⟩ = some (.int .i64 x.l.t) ∧ (wr.alloc (.cells #[.int .i64 (y.c : Int), .int .i64 (y.z : Int), .int .i64 (y.t : Int), .slice (some ⟨pb, jS, none⟩) r.n r.c] 207)).cell? ⟨bb, off + k * 4 + 3, none⟩ = some (.slice x.a x.n x.c)) := fun h0 => by
        obtain ⟨k, hki, x, hxc, hxk, hxz⟩ := hpre.out h0
        obtain ⟨x0, x1, x2, x3⟩ := lC hxc
        exact ⟨k, by omega, by omega, by omega, gI hbb o7.size, x, hxk, hxz, (o7.cell (p := ⟨bb, off + k * 4, none⟩) hbb).trans x0, (o7.cell (p := ⟨bb, off + k * 4 + 1, none⟩) hbb).trans x1, (o7.cell (p := ⟨bb, off + k * 4 + 2, none⟩) hbb).trans x2, (o7.cell (p := ⟨bb, off + k * 4 + 3, none⟩) hbb).trans x3⟩
      have HE2 := gO E2
      have HK5 := gO (HK.out.below o7)
      have HS5 := gO (HS.out.then o7)
      have HB5 := gO (xM o7 hB.out (by have := hbx.out.size; have := hB.out.size; omega))
      clear E2 EF2 hpre HK HS hB HAr hc0 hc1 hc2 hc3 o7 k20 k21 k22 k23 k24 Zt
      generalize wr.alloc (.cells #[.int .i64 (y.c : Int), .int .i64 (y.z : Int), .int .i64 (y.t : Int), .slice (some ⟨pb, jS, none⟩) r.n r.c] 207) = w5 at *
      by_cases h0 : 0 < i
      all_goals first
        | (obtain ⟨k, hik, hkn, hkn2, aCx, x, hxk, hxz, x0, x1, x2, x3⟩ := hpx.out h0
           have g9 : decide ((0 : Int) < i) = true := decide_eq_true (by omega)
           have gg9 : decide (0 < i) = true := decide_eq_true h0
           have gl : decide (x.l.key < y.key) = true := decide_eq_true hxk
           have hyz : y.z < 2 ∧ y.t < 3 := ⟨hzz, htt⟩
           refine aS (by kernel_rfl) (by kernel_rfl) ?_
           repeat (go_big_quiet_step ((go_at_call 165; exact Calls.bP (uY x.l y _ _ _ _ _ _ _ hxz hyz)))))
        | (have g9 : decide ((0 : Int) < i) = false := decide_eq_false (by omega)
           have gg9 : decide (0 < i) = false := decide_eq_false (by omega)
           refine aS (by kernel_rfl) (by kernel_rfl) ?_
           repeat (go_big_quiet_step (fail)))
      all_goals
        refine wpQuiet_nil ?_
        rintro _ ⟨wx, rfl⟩
        try clear gl hxk
        have Nl := aQ w5 wx
        have K6 := aC HE2.out DY Nl
        have HK6 := gO (HK5.out.below Nl)
        have HS6 := gO (HS5.out.then Nl)
        have HB6 := gO (xM Nl HB5.out (by have := HB5.out.size; omega))
        have Np : wr.heap.size < (ext w5 wx).heap.size := gI DY Nl.size
        have Zv : G < wr.heap.size := by omega
        have f3 := K6 3
        simp only [gB, gC, gD] at f3
        generalize ext w5 wx = w6 at *
        clear Nl
        go_wp2_with fail
        obtain ⟨we, rfl⟩ : ∃ we, we = wr := ⟨_, rfl⟩
        go_loopw [77] (fun s77 wq => ∃ j : Nat, j ≤ r.n ∧ s77 = .int .i64 (j : Int) ∧ Hid (wS wq G (Bd ((done ++ lsB (h.ls.take i)) ++ jJ (y.p.take j))) false) ∧ Hid (Safe (fun k => k ≠ G) w6 wq)) (fun s77 _ => r.n - (intOf s77).toNat)
        case atStart => exact ⟨0, Nat.zero_le _, rfl, by simpa [Hid, jJ] using HK6.out, Safe.refl _ _⟩
        case round =>
          obtain ⟨j, hj, rfl, HQ, FZ⟩ := hrel
          have WR := FZ.out.size
          have aCC : we.heap.size ≠ G := by omega
          by_cases hjl : j < r.n
          · have WS : (j : Int) < r.n := by omega
            have hjp : j < y.p.length := by omega
            have nD := gO (FZ.out.after HB6.out (B := w0.heap.size) (fun k hk => by omega) (by have := HB6.out.size; omega))
            obtain ⟨pb', zO, hp9, hpb, hpc⟩ := aN bM (by decide) (HPR.out.below (nD.out)) (j := j) hjp
            obtain ⟨rfl, rfl⟩ : pb = pb' ∧ jS = zO := by simpa using hp9
            have zQ := gV hpc
            have hpp := hpz.out _ (gL hjp)
            have hcn := gO (TI HC1.out hjp)
            have hnx := gO (KN (done ++ lsB (h.ls.take i)) y.p j hjp)
            obtain ⟨P, hP⟩ : ∃ P, y.p[j] = P := ⟨_, rfl⟩
            rw [hP] at zQ hpp
            have HP := gO hP
            clear hpc hP
            rw [Nat.mul_one] at zQ
            go_wp2_with fail
            refine (zN G ⟨P, 0, 0⟩ _ _ HQ.out (fun p => by have h1 := hcn.out p; rw [HP.out] at h1; exact h1) (by show P + 1 ≤ 256; omega) 1 rfl).mono ?_
            rintro ev w7 ⟨rfl, hm7, hs7⟩
            have HM7 : Hid (wS w7 G (Bd ((done ++ lsB (h.ls.take i)) ++ jJ (y.p.take (j + 1)))) false) := by
              unfold Hid
              rw [hnx.out, HP.out]
              exact hm7
            have HS7 := gO (FZ.out.trans hs7)
            have hB7 := HS7.out.after HB6.out (B := w0.heap.size) (fun k hk => by omega) (by have := HB6.out.size; omega)
            have HAT7 := gO (HH.out.below hB7)
            have b7 := (hm7.k 256).trans (vK _ _)
            have hG7 := hm7.hi
            have hw7 : w.heap.size < w7.heap.size := by have := HS7.out.size; omega
            have aGs : we.heap.size < w7.heap.size := by have := HS7.out.size; omega
            have H7 := HS7.out.box K6 Np aCC
            have L7 := (HS6.out.trans HS7.out).box K2 hsz hne
            have l70 := L7 0
            have l71 := L7 1
            have l72 := L7 2
            have l73 := L7 3
            have l74 := L7 4
            have r71 := H7 1
            simp only [gB, gC, gD] at l70 l71 l72 l73 l74 r71
            clear H7 L7 hm7 hs7 hB7 zQ
            have gz : (((h.iD P : Nat) : Int) != (y.z : Int)) = false := by simp [hpp.2]
            go_wp2_with fail
            refine aS (by kernel_rfl) (by kernel_rfl) ?_
            repeat (go_big_quiet_step ((go_at_call 136; exact Calls.bP (DT _ _ _ _ _ _ _ _ _ _ _ _ _ h P _ (HAT7.out.below (aQ w7 _))))))
            refine wpQuiet_nil ?_
            rintro _ ⟨wy, rfl⟩
            have HS8 := gO (HS7.out.then (aQ w7 wy))
            have HM8 := gO (HM7.out.below (aQ w7 wy))
            generalize ext w7 wy = w8 at *
            go_wp2
            go_roundw
            case rel => exact ⟨j + 1, by omega, by go_num, HM8, HS8⟩
            case measure => simp [intOf]; omega
          · obtain rfl : j = r.n := by omega
            have hend : Hid (wS wr G (Bd (done ++ lsB (h.ls.take (i + 1)))) false) := by
              unfold Hid
              rw [hnext.out, ← List.append_assoc]
              have h1 := HQ.out
              rw [List.take_of_length_le (show y.p.length ≤ r.n by omega)] at h1
              exact h1
            have hsend := gO (HS6.out.trans FZ.out)
            go_wp2_with fail
            go_roundw
            case rel => exact ⟨i + 1, by omega, by go_num, hend, hsend⟩
            case measure => simp [intOf]; omega
    · obtain rfl : i = nl := by omega
      have hend : Hid (wS wr G (Bd (done ++ lsB h.ls)) false) := by
        have h1 := HK.out
        rw [List.take_of_length_le (by omega)] at h1
        exact h1
      go_wp2
      go_ret
      exact ⟨rfl, hend.out, TJ.out.trans HS.out⟩
end
end Go.Proofs.YtcmpmobhongkiaaGreatDoor
