/- texts of this claim, joined. -/
import Derived.Test.YtcmpmobhongkiaaGreatDoorSE0
import Derived.Test.YtcmpmobhongkiaaGreatDoorSE33
import Derived.Test.YtcmpmobhongkiaaGreatDoorSE36
set_option linter.unusedVariables false
set_option linter.unusedSimpArgs false
namespace Go.Proofs.YtcmpmobhongkiaaGreatDoor
section
open Go.RowKit
section
variable {W W' W1 W2 : World} {G : Nat} {X Y : Nat → Prop} {s s' : Sy} {v v' : Sc}
theorem SS.Wj (hs : SS W G X s v) {i : Nat} (hi : i < v.ys.length) {y : Cc} (hy : v.ys[i] = y) {l' : List (List UInt8)} {a' : Option Addr} {n' c' : Nat} (hown : W2.ownsRow 0 9 1 (.slice a' n' c') n' (flat encS l')) (hg : W.grownBy W2 (nI y).v.ownBlock)
  (hl : ∀ k, (Value.slice a' n' c').ownBlock = some k → (nI y).v.ownBlock = some k ∨ W.heap.size ≤ k) {gc : Nat} (hgc : v.a2 = some ⟨gc, 0, none⟩) :
  ∃ v', SS (W2.setCell ⟨gc, i * 6, none⟩ (.slice a' n' c')) G X (s.jO i { y.c with ns := l' }) v' ∧ Safe X W (W2.setCell ⟨gc, i * 6, none⟩ (.slice a' n' c')) ∧ v'.a2 = v.a2 := by
 subst hy
 have h := hs.XI hi hown hg hl hgc
 exact ⟨_, h.1, h.2, rfl⟩
theorem SR.YT (hs : SR W G X s v) {i : Nat} (hi : i < v.ys.length) {y : Cc} (hy : v.ys[i] = y) {gc : Nat} (hgc : v.a2 = some ⟨gc, 0, none⟩) : (nI y).v.ownBlock ≠ some gc := fun e => by
 subst hy
 have h := (hs.Lh hi).off (i := 1) (j := 2) (by simp) (by simp) (by decide) gc (by show (kH v).v.ownBlock = _; unfold kH; rw [hgc]; rfl)
 exact h e
end
end
section
open Go.RowKit
section
variable {w W W' : World} {G B T U : Nat} {X : Nat → Prop} {s s2 : Sy} {v v2 : Sc} {E : Array Value}
theorem SR.put7 (hs : SR W G X s v) (hT : X T) (v2 : Sc) (s2 : Sy) : SR (((((((W.setCell ⟨T, 0, none⟩ (.slice v2.a1 v2.n1 v2.c1)).setCell ⟨T, 1, none⟩ (.slice v2.hc.az 2 v2.hc.cz)).setCell ⟨T, 2, none⟩ (.slice v2.hc.am 2 v2.hc.cm)).setCell ⟨T, 3, none⟩ (.int .i64 (s2.h.aF : Int))).setCell ⟨T, 4, none⟩ (.slice v2.hc.al v2.hc.lc.length v2.hc.cl)).setCell ⟨T, 5, none⟩ (.slice v2.hc.av s2.h.live.length v2.hc.cv)).setCell ⟨T, 6, none⟩ (.slice v2.a2 v2.ys.length v2.c2)) G X s v :=
 SR.dS (SR.dS (SR.dS (SR.dS (SR.dS (SR.dS (SR.dS hs hT 0 _) hT 1 _) hT 2 _) hT 3 _) hT 4 _) hT 5 _) hT 6 _
theorem zN {b : Nat} (hb : Below b w W) (hT : b ≤ T) (v2 : Sc) (s2 : Sy) : Below b w (((((((W.setCell ⟨T, 0, none⟩ (.slice v2.a1 v2.n1 v2.c1)).setCell ⟨T, 1, none⟩ (.slice v2.hc.az 2 v2.hc.cz)).setCell ⟨T, 2, none⟩ (.slice v2.hc.am 2 v2.hc.cm)).setCell ⟨T, 3, none⟩ (.int .i64 (s2.h.aF : Int))).setCell ⟨T, 4, none⟩ (.slice v2.hc.al v2.hc.lc.length v2.hc.cl)).setCell ⟨T, 5, none⟩ (.slice v2.hc.av s2.h.live.length v2.hc.cv)).setCell ⟨T, 6, none⟩ (.slice v2.a2 v2.ys.length v2.c2)) :=
 Below.setCell (Below.setCell (Below.setCell (Below.setCell (Below.setCell (Below.setCell (Below.setCell hb (show b ≤ (⟨T, 0, none⟩ : Addr).block from hT) _) (show b ≤ (⟨T, 1, none⟩ : Addr).block from hT) _) (show b ≤ (⟨T, 2, none⟩ : Addr).block from hT) _) (show b ≤ (⟨T, 3, none⟩ : Addr).block from hT) _) (show b ≤ (⟨T, 4, none⟩ : Addr).block from hT) _) (show b ≤ (⟨T, 5, none⟩ : Addr).block from hT) _) (show b ≤ (⟨T, 6, none⟩ : Addr).block from hT) _
theorem WA {a0 a1 a2 a3 a4 a5 a6 : Value} (K : ∀ o, W.cell? ⟨T, o, none⟩ = (#[a0, a1, a2, a3, a4, a5, a6] : Array Value)[o]?) (v : Sc) (s : Sy) : ∀ o, (((((((W.setCell ⟨T, 0, none⟩ (.slice v.a1 v.n1 v.c1)).setCell ⟨T, 1, none⟩ (.slice v.hc.az 2 v.hc.cz)).setCell ⟨T, 2, none⟩ (.slice v.hc.am 2 v.hc.cm)).setCell ⟨T, 3, none⟩ (.int .i64 (s.h.aF : Int))).setCell ⟨T, 4, none⟩ (.slice v.hc.al v.hc.lc.length v.hc.cl)).setCell ⟨T, 5, none⟩ (.slice v.hc.av s.h.live.length v.hc.cv)).setCell ⟨T, 6, none⟩ (.slice v.a2 v.ys.length v.c2)).cell? ⟨T, o, none⟩ = (#[.slice v.a1 v.n1 v.c1, .slice v.hc.az 2 v.hc.cz, .slice v.hc.am 2 v.hc.cm, .int .i64 (s.h.aF : Int), .slice v.hc.al v.hc.lc.length v.hc.cl, .slice v.hc.av s.h.live.length v.hc.cv, .slice v.a2 v.ys.length v.c2] : Array Value)[o]? := by
 have KX := (aH (aH (aH (aH (aH (aH (aH K 0 (.slice v.a1 v.n1 v.c1)) 1 (.slice v.hc.az 2 v.hc.cz)) 2 (.slice v.hc.am 2 v.hc.cm)) 3 (.int .i64 (s.h.aF : Int))) 4 (.slice v.hc.al v.hc.lc.length v.hc.cl)) 5 (.slice v.hc.av s.h.live.length v.hc.cv)) 6 (.slice v.a2 v.ys.length v.c2))
 simp only [gE, gG, gH] at KX
 exact KX
theorem JH (K : ∀ o, W.cell? ⟨U, o, none⟩ = E[o]?) (hne : U ≠ T) (v : Sc) (s : Sy) : ∀ o, (((((((W.setCell ⟨T, 0, none⟩ (.slice v.a1 v.n1 v.c1)).setCell ⟨T, 1, none⟩ (.slice v.hc.az 2 v.hc.cz)).setCell ⟨T, 2, none⟩ (.slice v.hc.am 2 v.hc.cm)).setCell ⟨T, 3, none⟩ (.int .i64 (s.h.aF : Int))).setCell ⟨T, 4, none⟩ (.slice v.hc.al v.hc.lc.length v.hc.cl)).setCell ⟨T, 5, none⟩ (.slice v.hc.av s.h.live.length v.hc.cv)).setCell ⟨T, 6, none⟩ (.slice v.a2 v.ys.length v.c2)).cell? ⟨U, o, none⟩ = E[o]? :=
 aA (aA (aA (aA (aA (aA (aA K hne 0 _) hne 1 _) hne 2 _) hne 3 _) hne 4 _) hne 5 _) hne 6 _
theorem WB (F : ∀ o, W.frozen? ⟨U, o, none⟩ = false) (v : Sc) (s : Sy) : ∀ o, (((((((W.setCell ⟨T, 0, none⟩ (.slice v.a1 v.n1 v.c1)).setCell ⟨T, 1, none⟩ (.slice v.hc.az 2 v.hc.cz)).setCell ⟨T, 2, none⟩ (.slice v.hc.am 2 v.hc.cm)).setCell ⟨T, 3, none⟩ (.int .i64 (s.h.aF : Int))).setCell ⟨T, 4, none⟩ (.slice v.hc.al v.hc.lc.length v.hc.cl)).setCell ⟨T, 5, none⟩ (.slice v.hc.av s.h.live.length v.hc.cv)).setCell ⟨T, 6, none⟩ (.slice v.a2 v.ys.length v.c2)).frozen? ⟨U, o, none⟩ = false :=
 aG (aG (aG (aG (aG (aG (aG F ⟨T, 0, none⟩ _) ⟨T, 1, none⟩ _) ⟨T, 2, none⟩ _) ⟨T, 3, none⟩ _) ⟨T, 4, none⟩ _) ⟨T, 5, none⟩ _) ⟨T, 6, none⟩ _
theorem kS.put7 (hn : kS W B s v) (hT : T < B) (hB : G < B) : kS (((((((W.setCell ⟨T, 0, none⟩ (.slice v.a1 v.n1 v.c1)).setCell ⟨T, 1, none⟩ (.slice v.hc.az 2 v.hc.cz)).setCell ⟨T, 2, none⟩ (.slice v.hc.am 2 v.hc.cm)).setCell ⟨T, 3, none⟩ (.int .i64 (s.h.aF : Int))).setCell ⟨T, 4, none⟩ (.slice v.hc.al v.hc.lc.length v.hc.cl)).setCell ⟨T, 5, none⟩ (.slice v.hc.av s.h.live.length v.hc.cv)).setCell ⟨T, 6, none⟩ (.slice v.a2 v.ys.length v.c2)) G s v :=
 (SR.put7 (X := fun k => k < B) hn hT v s).ZK hB (fun k hk => Nat.lt_trans hk hB) (Nat.lt_irrefl _)
theorem SR.heap2 (hs : SR W G X s v) {h : Hp} {c : Hc} (hr : HR W G X h c) (hd : ∀ r ∈ v.rows s, ∀ q ∈ c.rows h ++ c.reads h, r.off q) : SR W G X { s with h := h } { v with hc := c } := ⟨hs.own, hs.og, hr, hd, hs.cy⟩
theorem SS.putH2 (hs : SS W G X s v) {h' : Hp} {hc' : Hc} (hr : HR W G X h' hc') (hd : ∀ r ∈ v.rows s, ∀ q ∈ hc'.rows h' ++ hc'.reads h', r.off q) :
  SS (((((W.setCell ⟨G, 1, none⟩ (.slice hc'.az 2 hc'.cz)).setCell ⟨G, 2, none⟩ (.slice hc'.am 2 hc'.cm)).setCell ⟨G, 3, none⟩ (.int .i64 (h'.aF : Int))).setCell ⟨G, 4, none⟩ (.slice hc'.al hc'.lc.length hc'.cl)).setCell ⟨G, 5, none⟩ (.slice hc'.av h'.live.length hc'.cv)) G X { s with h := h' } { v with hc := hc' } ∧ Safe X W (((((W.setCell ⟨G, 1, none⟩ (.slice hc'.az 2 hc'.cz)).setCell ⟨G, 2, none⟩ (.slice hc'.am 2 hc'.cm)).setCell ⟨G, 3, none⟩ (.int .i64 (h'.aF : Int))).setCell ⟨G, 4, none⟩ (.slice hc'.al hc'.lc.length hc'.cl)).setCell ⟨G, 5, none⟩ (.slice hc'.av h'.live.length hc'.cv)) := by
 have h1 := hs.r.heap2 hr hd
 have K1 := aH hs.k 1 (.slice hc'.az 2 hc'.cz)
 have F1 := aG hs.fz ⟨G, 1, none⟩ (.slice hc'.az 2 hc'.cz)
 have K2 := aH K1 2 (.slice hc'.am 2 hc'.cm)
 have F2 := aG F1 ⟨G, 2, none⟩ (.slice hc'.am 2 hc'.cm)
 have K3 := aH K2 3 (.int .i64 (h'.aF : Int))
 have F3 := aG F2 ⟨G, 3, none⟩ (.int .i64 (h'.aF : Int))
 have K4 := aH K3 4 (.slice hc'.al hc'.lc.length hc'.cl)
 have F4 := aG F3 ⟨G, 4, none⟩ (.slice hc'.al hc'.lc.length hc'.cl)
 have K5 := aH K4 5 (.slice hc'.av h'.live.length hc'.cv)
 have F5 := aG F4 ⟨G, 5, none⟩ (.slice hc'.av h'.live.length hc'.cv)
 unfold Sc.vals at K5
 simp only [gE, gG, gH] at K5
 exact ⟨⟨(((((h1.jL 1 _).jL 2 _).jL 3 _).jL 4 _).jL 5 _), K5, F5⟩, ((((((Safe.refl X W).set hs.r.hr.xg 1 _).set hs.r.hr.xg 2 _).set hs.r.hr.xg 3 _).set hs.r.hr.xg 4 _).set hs.r.hr.xg 5 _)⟩
theorem kS.Tq {B1 : Nat} (hn : kS W B1 s v) {Wh : World} {h : Hp} {c : Hc} (hr : HR Wh G X h c) (hB : Wh.heap.size ≤ B1) : ∀ r ∈ v.rows s, ∀ q ∈ c.rows h ++ c.reads h, r.off q := fun r hr' q hq g h1 h2 => by
 have h3 := (hn.og r hr' g h1).2
 have h4 := hr.lt q hq g h2
 exact h3 (gI h4 hB)
end
end
end Go.Proofs.YtcmpmobhongkiaaGreatDoor
