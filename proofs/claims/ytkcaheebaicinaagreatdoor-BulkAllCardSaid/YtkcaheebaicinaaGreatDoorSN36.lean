/- Hp9, Pi: texts of this claim, joined. -/
import Derived.Test.YtkcaheebaicinaaGreatDoorSN11
import Derived.Test.YtkcaheebaicinaaGreatDoorSN33
import Derived.Test.YtkcaheebaicinaaGreatDoorSN4
/- Heaps: what Free computes, part by part. No program in sight. -/
namespace Go.Proofs.YtkcaheebaicinaaGreatDoor
set_option linter.unusedVariables false
theorem HOk.erase {h : Hp} (hk : HOk h) {i : Nat} (hi : i < h.live.length) :
    HOk { h with live := h.live.eraseIdx i } ∧ ∀ q, cnt ({ h with live := h.live.eraseIdx i } : Hp).all q + hit ⟨h.live[i].a, h.live[i].o, 0⟩ q = cnt h.all q := by
  have hce : ∀ q, cnt ({ h with live := h.live.eraseIdx i } : Hp).all q + hit ⟨h.live[i].a, h.live[i].o, 0⟩ q = cnt h.all q := fun q => by
    have h1 := cnt_erase hi q
    have h2 : hit ⟨h.live[i].a, h.live[i].o, 0⟩ q = hit h.live[i] q := rfl
    rw [cnt_all, cnt_all, h2]
    simp only
    omega
  exact ⟨⟨hk.o0, hk.o1, hk.f0, hk.e0, hk.e1, hk.m0, hk.m1, hk.cp, hk.lk, hk.lr, fun b hb => hk.lv b ((List.eraseIdx_sublist _ _).subset hb), hk.vs.sublist (List.eraseIdx_sublist _ _), fun q => by have := hce q; have := hk.one q; omega⟩, hce⟩
theorem freeB_big {h : Hp} {cpu i : Nat} {b : Bk} (ho : 0 < b.o) : h.freeB cpu i b = ({ h with live := h.live.eraseIdx i } : Hp).backB b.a b.o := by
  unfold Hp.freeB
  simp only
  rw [if_pos ho]
theorem freeB_one {h : Hp} {cpu i : Nat} {b : Bk} (ho : b.o = 0) : h.freeB cpu i b = ({ h with live := h.live.eraseIdx i } : Hp).give cpu b.a := by
  unfold Hp.freeB
  simp only
  rw [if_neg (by omega)]
/-- the type of a page -/
def Hp.typ (h : Hp) (p : Nat) : Nat := (h.zone (h.zof p)).y.getD ((p - (h.zone (h.zof p)).f) / 8) 0
theorem HOk.typ_lt {h : Hp} (hk : HOk h) (p : Nat) : h.typ p < 3 := by
  unfold Hp.typ
  have hz := (hk.zone (h.zof p)).1.typ
  rw [List.getD_eq_getElem?_getD]
  cases hg : (h.zone (h.zof p)).y[(p - (h.zone (h.zof p)).f) / 8]? with
  | none => simp
  | some u => exact hz u (List.mem_of_getElem? hg)
/-- what a page that comes back finds -/
theorem HOk.giving {h : Hp} (hk : HOk h) {cpu p : Nat} (hc : cpu < h.cpus) (hp : p < 256) (hd : ∀ q, cnt h.all q + hit ⟨p, 0, 0⟩ q ≤ 1) {l : Ls} (hl : l = ⟨cpu, h.zof p, h.typ p, []⟩) :
    (l.c < h.cpus ∧ l.z < 2 ∧ l.t < 3) ∧ RiseL (pushL h.ls l p) ∧ (∀ y ∈ pushL h.ls l p, y.z < 2 ∧ y.t < 3) ∧ (pushL h.ls l p).length ≤ 24 ∧ hasL (pushL h.ls l p) l.key = true ∧
    ∃ x, (pushL h.ls l p)[lbL (pushL h.ls l p) l.key]? = some x ∧ x.key = l.key ∧ x.p.length ≤ 9 ∧ h.give cpu p = (if 8 < x.p.length then { Go.Proofs.YtkcaheebaicinaaGreatDoor.backAll { h with ls := pushL h.ls l p } (x.p.take 4) with ls := (pushL h.ls l p).set (lbL (pushL h.ls l p) l.key) { x with p := x.p.drop 4 } } else { h with ls := pushL h.ls l p }) ∧ (∀ q ∈ x.p, q < 256) ∧ (∀ q, cnt ({ h with ls := [] } : Hp).all q + cnt (pgs x.p) q ≤ 1) ∧
      ∀ j (hj : j < x.p.length), (∀ (m : List Ls), (({ Go.Proofs.YtkcaheebaicinaaGreatDoor.backAll { h with ls := pushL h.ls l p } (x.p.take j) with ls := m } : Hp).zone (({ Go.Proofs.YtkcaheebaicinaaGreatDoor.backAll { h with ls := pushL h.ls l p } (x.p.take j) with ls := m } : Hp).zof x.p[j])).ok ∧ fitsB (({ Go.Proofs.YtkcaheebaicinaaGreatDoor.backAll { h with ls := pushL h.ls l p } (x.p.take j) with ls := m } : Hp).zone (({ Go.Proofs.YtkcaheebaicinaaGreatDoor.backAll { h with ls := pushL h.ls l p } (x.p.take j) with ls := m } : Hp).zof x.p[j])).f (({ Go.Proofs.YtkcaheebaicinaaGreatDoor.backAll { h with ls := pushL h.ls l p } (x.p.take j) with ls := m } : Hp).zone (({ Go.Proofs.YtkcaheebaicinaaGreatDoor.backAll { h with ls := pushL h.ls l p } (x.p.take j) with ls := m } : Hp).zof x.p[j])).e x.p[j] 0 ∧ ∀ b ∈ (({ Go.Proofs.YtkcaheebaicinaaGreatDoor.backAll { h with ls := pushL h.ls l p } (x.p.take j) with ls := m } : Hp).zone (({ Go.Proofs.YtkcaheebaicinaaGreatDoor.backAll { h with ls := pushL h.ls l p } (x.p.take j) with ls := m } : Hp).zof x.p[j])).l, apartB x.p[j] 0 b) := by
  have ht3 := hk.typ_lt p
  have hz2 : h.zof p < 2 := by unfold Hp.zof; split <;> omega
  have hz3 : p < h.z0.e ↔ h.zof p = 0 := by unfold Hp.zof; split <;> simp_all
  have hlr : l.c < h.cpus ∧ l.z < 2 ∧ l.t < 3 := by rw [hl]; exact ⟨hc, hz2, ht3⟩
  have hlz : p < 256 ∧ (p < h.z0.e ↔ l.z = 0) := by rw [hl]; exact ⟨hp, hz3⟩
  obtain ⟨x, hx, hxk, hxl⟩ := push_at hk.lk l p
  have hlen := lenL_le (k := l.key) (fun x hx => (hk.lr x hx).2.2.2.2.1)
  have h9 := push_ok (N := 8) (M := 9) hk.lr hlr hlz (by omega) (by omega) (fun y hy _ => by have := (hk.lr y hy).2.2.2.2.1; omega)
  obtain ⟨hi, hxi⟩ := List.getElem?_eq_some_iff.1 hx
  have hxm : x ∈ pushL h.ls l p := by rw [← hxi]; exact List.getElem_mem hi
  obtain ⟨q1, q2, q3, q4, q5, q6⟩ := h9 x hxm
  have hca : ∀ q, cnt ({ h with ls := [] } : Hp).all q + cnt (pgs x.p) q ≤ 1 := fun q => by
    have h1 := cnt_push h.ls l p q
    have h2 := cnt_lsB_erase hi q
    rw [hxi] at h2
    have h3 := hd q
    rw [cnt_all] at h3
    rw [cnt_all]
    simp only [lsB, cnt]
    omega
  refine ⟨hlr, push_rise hk.lk l p, fun y hy => ⟨(h9 y hy).2.1, (h9 y hy).2.2.1⟩, ?_, ?_, x, hx, hxk, q5, ?_, fun q hq => (q6 q hq).1, ?_, fun j hj m => ?_⟩
  · have hr := push_rise hk.lk l p
    refine rise_len (N := 24) hr fun y hy => ?_
    obtain ⟨g1, g2, g3, _⟩ := h9 y hy
    have := hk.cp.2
    unfold Ls.key
    omega
  · unfold hasL
    rw [hx]
    exact decide_eq_true hxk
  · unfold Hp.give
    have e : (⟨cpu, h.zof p, (h.zone (h.zof p)).y.getD ((p - (h.zone (h.zof p)).f) / 8) 0, []⟩ : Ls) = l := hl.symm
    rw [e]
    simp only
    rw [hx]
  · exact hca
  · have hpg : ∀ q, cnt (pgs x.p) q = cnt (pgs (x.p.take j)) q + cnt (pgs (x.p.drop j)) q := fun q => by rw [← cnt_pgs_append, List.take_append_drop]
    have hk0 : HOk { h with ls := [] } := hk.noLists
    obtain ⟨k1, k2, k3, k4, k5⟩ := hk0.backAll (x.p.take j) (fun q hq => (q6 q (List.mem_of_mem_take hq)).1) (fun q => by have := hca q; have := hpg q; omega)
    have hdj : ∀ q, cnt (Go.Proofs.YtkcaheebaicinaaGreatDoor.backAll ({ h with ls := [] } : Hp) (x.p.take j)).all q + hit ⟨x.p[j], 0, 0⟩ q ≤ 1 := fun q => by
      rw [k2]
      have h1 := hca q
      have h2 := hpg q
      have h3 : x.p.drop j = x.p[j] :: x.p.drop (j + 1) := List.drop_eq_getElem_cons hj
      have h4 : cnt (pgs (x.p.drop j)) q = hit ⟨x.p[j], 0, 0⟩ q + cnt (pgs (x.p.drop (j + 1))) q := by rw [h3]; rfl
      omega
    have h5 := back_ready_ls k1 m (fits_page (q6 _ (List.getElem_mem hj)).1) hdj
    have e : ({ Go.Proofs.YtkcaheebaicinaaGreatDoor.backAll ({ h with ls := [] } : Hp) (x.p.take j) with ls := m } : Hp) = { Go.Proofs.YtkcaheebaicinaaGreatDoor.backAll { h with ls := pushL h.ls l p } (x.p.take j) with ls := m } := by
      have e1 := backAll_ls (x.p.take j) h []
      have e2 := backAll_ls (x.p.take j) h (pushL h.ls l p)
      rw [e1, e2]
    rw [← e]
    exact h5
end Go.Proofs.YtkcaheebaicinaaGreatDoor
/- What holds of pages that are asked and given back. No program in sight. -/
namespace Go.Proofs.YtkcaheebaicinaaGreatDoor
set_option linter.unusedVariables false
theorem give_held {m : Nat → Nat} {h : Hp} (hk : HOk h) (hh : HeldAt m h) {cpu p : Nat} (hc : cpu < h.cpus) (hp : p < 256) (hd : ∀ q, cnt h.all q + hit ⟨p, 0, 0⟩ q ≤ 1) : HeldAt m (h.give cpu p) := by
  obtain ⟨g1, g2, g3, g4, g5, x, hx, hxk, hx9, hg, hp9, hc9, _⟩ := hk.giving hc hp hd rfl
  rw [hg]
  split
  · have h1 := backAll_held (x.p.take 4) (h := { h with ls := [] }) hk.noLists hh (fun q hq => hp9 q (List.mem_of_mem_take hq)) (fun q => by
      have h2 := hc9 q
      have h3 : cnt (pgs x.p) q = cnt (pgs (x.p.take 4)) q + cnt (pgs (x.p.drop 4)) q := by rw [← cnt_pgs_append, List.take_append_drop]
      omega)
    have e1 := backAll_ls (x.p.take 4) h []
    have e2 := backAll_ls (x.p.take 4) h (pushL h.ls ⟨cpu, h.zof p, h.typ p, []⟩ p)
    rw [e1] at h1
    rw [e2]
    exact h1
  · exact hh
theorem freeB_held {m : Nat → Nat} {h : Hp} (hk : HOk h) (hh : HeldAt m h) {cpu i : Nat} (hc : cpu < h.cpus) (hi : i < h.live.length) : HeldAt m (h.freeB cpu i h.live[i]) := by
  obtain ⟨k1, k2⟩ := hk.erase hi
  have hb := hk.lv _ (List.getElem_mem hi)
  by_cases ho : 0 < h.live[i].o
  · rw [freeB_big ho]
    exact backB_held k1 hh hb.1 (fun q => by rw [k2]; exact hk.one q)
  · have ho0 : h.live[i].o = 0 := by omega
    rw [freeB_one ho0]
    rw [ho0] at k2
    exact give_held k1 hh hc hb.1.2.2.1 (fun q => by rw [k2]; exact hk.one q)

structure PInv (h0 h : Hp) (away : List Bk) : Prop where
  ok : HOk h
  same : Same h0 h
  cn : ∀ q, cnt h.all q = cnt h0.all q
  lv : (away.map keyB).Perm (h.live.map keyB)
  t0 : ∀ b ∈ away, b.t = 0
theorem rise_lt : ∀ {l : List Bk} {k N : Nat}, Rise l → (∀ x ∈ l, k ≤ x.a ∧ x.a < N) → l.length + k ≤ N ∨ l = []
  | [], _, _, _, _ => .inr rfl
  | c :: m, k, N, q1, q2 => by
    have q3 := List.pairwise_cons.1 q1
    have q4 := q2 c (by simp)
    rcases rise_lt (k := c.a + 1) (N := N) q3.2 fun x hx => ⟨q3.1 x hx, (q2 x (by simp [hx])).2⟩ with q5 | rfl
    · simp only [List.length_cons]; exact .inl (by omega)
    · simp only [List.length_cons, List.length_nil]; exact .inl (by omega)
theorem HOk.live_len {h : Hp} (hk : HOk h) : h.live.length ≤ 256 := by
  rcases rise_lt (k := 0) (N := 256) hk.vs fun x hx => ⟨Nat.zero_le _, (hk.lv x hx).1.2.2.1⟩ with h1 | h1
  · omega
  · rw [h1]; exact Nat.zero_le _
theorem PInv.len {h0 h : Hp} {away : List Bk} (hp : PInv h0 h away) : away.length = h.live.length ∧ away.length ≤ 256 := by
  have h1 := hp.lv.length_eq
  have h2 := hp.ok.live_len
  simp only [List.length_map] at h1
  omega
theorem PInv.start {h0 : Hp} (hk : HOk h0) (hl : h0.live = []) : PInv h0 h0 [] := ⟨hk, Same.refl h0, fun _ => rfl, by rw [hl], by simp⟩
theorem perm_erase {α : Type} (l : List α) {i : Nat} (hi : i < l.length) : l.Perm (l[i] :: l.eraseIdx i) := by
  have h : l = l.take i ++ l[i] :: l.drop (i + 1) := by rw [List.getElem_cons_drop, List.take_append_drop]
  rw [List.eraseIdx_eq_take_drop_succ]
  exact (List.Perm.of_eq h).trans List.perm_middle
/-- what was asked can be given back -/
theorem PInv.has {h0 h : Hp} {away : List Bk} (hp : PInv h0 h away) {j : Nat} (hj : j < away.length) :
    ∃ hi : lb h.live away[j].a < h.live.length, h.live[lb h.live away[j].a].a = away[j].a ∧ h.live[lb h.live away[j].a].o = away[j].o ∧ hasB h.live away[j].a = true ∧ away[j].a < 256 := by
  have h1 : keyB away[j] ∈ h.live.map keyB := hp.lv.mem_iff.1 (List.mem_map_of_mem (List.getElem_mem hj))
  obtain ⟨b, hb, e⟩ := List.mem_map.1 h1
  simp only [keyB, Prod.mk.injEq] at e
  obtain ⟨e1, e2⟩ := e
  have h2 := lb_hit hp.ok.vs hb
  rw [e1] at h2
  obtain ⟨hi, h3⟩ := List.getElem?_eq_some_iff.1 h2
  refine ⟨hi, by rw [h3, e1], by rw [h3, e2], ?_, by have := (hp.ok.lv b hb).1.2.2.1; omega⟩
  exact List.any_eq_true.2 ⟨b, hb, decide_eq_true e1⟩
theorem PInv.free {h0 h : Hp} {away : List Bk} (hp : PInv h0 h away) {cpu j : Nat} (hc : cpu < h0.cpus) (hj : j < away.length) (hi : lb h.live away[j].a < h.live.length) :
    PInv h0 (h.freeB cpu (lb h.live away[j].a) h.live[lb h.live away[j].a]) (away.eraseIdx j) := by
  have hc' : cpu < h.cpus := by rw [hp.same.cpus]; exact hc
  obtain ⟨k1, k2, k3, k4⟩ := hp.ok.freeB hc' hi
  obtain ⟨_, g1, g2, _, _⟩ := hp.has hj
  refine ⟨k1, hp.same.trans k3, fun q => by rw [k2, hp.cn], ?_, fun b hb => hp.t0 b ((List.eraseIdx_sublist _ _).subset hb)⟩
  rw [k4]
  have p1 := (perm_erase away hj).map keyB
  have p2 := (perm_erase h.live hi).map keyB
  have p3 := (p1.symm.trans hp.lv).trans p2
  have e : keyB h.live[lb h.live away[j].a] = keyB away[j] := by unfold keyB; rw [g1, g2]
  simp only [List.map_cons, e] at p3
  exact p3.cons_inv
theorem PInv.drain {h0 h : Hp} {away : List Bk} (hp : PInv h0 h away) : PInv h0 h.drain away := by
  obtain ⟨k1, k2, k3, k4, k5⟩ := hp.ok.drain
  exact ⟨k1, hp.same.trans k3, fun q => by rw [k2, hp.cn], by rw [k5]; exact hp.lv, hp.t0⟩
theorem PInv.alloc {h0 h h' : Hp} {away : List Bk} (hp : PInv h0 h away) {cpu order t a : Nat} {u lo : Bool} (hc : cpu < h0.cpus) (ho : order ≤ 4) (ht : t < 3) (he : h.alloc cpu order t u lo = some (h', a)) : PInv h0 h' (away ++ [⟨a, order, 0⟩]) := by
  obtain ⟨k1, k2, k3, k4, k5⟩ := hp.ok.alloc (by rw [hp.same.cpus]; exact hc) ho ht he
  refine ⟨k1, hp.same.trans k3, fun q => by rw [k2, hp.cn], ?_, fun b hb => ?_⟩
  · rw [k4, List.map_append]
    unfold putIn
    rw [List.map_append, List.map_cons]
    have p1 : ((List.map keyB (h.live.take (lb h.live a))) ++ keyB ⟨a, order, t⟩ :: List.map keyB (h.live.drop (lb h.live a))).Perm (keyB ⟨a, order, t⟩ :: (List.map keyB (h.live.take (lb h.live a)) ++ List.map keyB (h.live.drop (lb h.live a)))) := List.perm_middle
    rw [← List.map_append, List.take_append_drop] at p1
    refine List.Perm.trans ?_ p1.symm
    refine (List.perm_append_comm).trans ?_
    exact List.Perm.cons _ hp.lv
  · rcases List.mem_append.1 hb with h1 | h1
    · exact hp.t0 b h1
    · rw [List.mem_singleton.1 h1]
end Go.Proofs.YtkcaheebaicinaaGreatDoor
