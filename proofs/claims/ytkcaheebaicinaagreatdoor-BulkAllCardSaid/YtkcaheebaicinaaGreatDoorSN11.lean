/- Rk4, Hp5, Hp6, Owns, Hp7, Hp8, Hq, Boot1, Zn5: texts of this claim, joined. -/
import Derived.Test.YtkcaheebaicinaaGreatDoorSN10
import Derived.Test.YtkcaheebaicinaaGreatDoorSN2
import Derived.Test.YtkcaheebaicinaaGreatDoorSN3
import Derived.Test.YtkcaheebaicinaaGreatDoorSN4
/- Plain facts on chains: what Chain has written, Follow follows. -/
namespace Go.Proofs.YtkcaheebaicinaaGreatDoor

/-- the first i objects' addresses -/
def objs (p k i : Nat) : List Int := (List.range i).map fun j => ((p + j * k : Nat) : Int)

theorem objs_length (p k i : Nat) : (objs p k i).length = i := by simp [objs]
theorem objs_succ (p k i : Nat) : objs p k (i + 1) = objs p k i ++ [((p + i * k : Nat) : Int)] := by simp [objs, List.range_succ]

theorem chainTo_get (xs : List Int) (p k n : Nat) (hk : 1 ≤ k) (hin : p + k * n ≤ xs.length) : ∀ j, j ≤ n → ∀ i, i < j → (chainTo xs p k n j)[p + i * k]? = some (if i + 1 < n then ((p + (i + 1) * k : Nat) : Int) else -1)
  | 0, _, i, hi => by omega
  | j + 1, hj, i, hi => by
    have hlt : ∀ i, i < n → p + i * k < xs.length := fun i hi => by
      have : i * k + k ≤ k * n := by rw [← Nat.succ_mul, Nat.mul_comm]; exact Nat.mul_le_mul_left _ hi
      omega
    unfold chainTo
    by_cases e : i = j
    · subst e
      rw [List.getElem?_set_self (by rw [chainTo_length]; exact hlt i (by omega))]
    · have hne : p + j * k ≠ p + i * k := by
        intro h
        have h1 : j * k = i * k := by omega
        exact e (Nat.eq_of_mul_eq_mul_right (by omega) h1).symm
      rw [List.getElem?_set_ne hne]
      exact chainTo_get xs p k n hk hin j (by omega) i (by omega)

theorem follow_chain_aux (xs : List Int) (p k n : Nat) (most : Int) (hk : 1 ≤ k) (hn : 1 ≤ n) (hin : p + k * n ≤ xs.length) :
    ∀ d i f, i + d = n → 1 ≤ d → d + 1 ≤ f → (i : Int) ≤ most → followF (chainTo xs p k n n) most f ((p + i * k : Nat) : Int) (objs p k i) = if (n : Int) ≤ most then some (objs p k n) else none := by
  intro d
  induction d with
  | zero => intro i f _ h; omega
  | succ d ih =>
    intro i f hid _ hf hmost
    obtain ⟨f, rfl⟩ : ∃ f', f = f' + 1 := ⟨f - 1, by omega⟩
    have hpos : ((p + i * k : Nat) : Int) ≠ -1 := by omega
    have hlt : p + i * k < xs.length := by
      have : i * k + k ≤ k * n := by rw [← Nat.succ_mul, Nat.mul_comm]; exact Nat.mul_le_mul_left _ (by omega)
      omega
    unfold followF
    rw [if_neg hpos, objs_length]
    by_cases hm : (i : Int) = most
    · rw [if_pos (Or.inl (by omega)), if_neg (by omega)]
    · have h2 : inW (chainTo xs p k n n).length ((p + i * k : Nat) : Int) 1 = true := by
        unfold inW; rw [chainTo_length]; exact decide_eq_true (by omega)
      have h3 : hasI (objs p k i) ((p + i * k : Nat) : Int) = false := by
        unfold hasI
        rw [List.contains_eq_any_beq, List.any_eq_false]
        intro x hx
        simp only [objs, List.mem_map, List.mem_range] at hx
        obtain ⟨j, hj, rfl⟩ := hx
        simp only [beq_iff_eq]
        intro h
        have h1 : i * k = j * k := by omega
        have := Nat.eq_of_mul_eq_mul_right (by omega) h1
        omega
      rw [if_neg (by rw [h2, h3]; simp; omega), Int.toNat_natCast, List.getD_eq_getElem?_getD, chainTo_get xs p k n hk hin n (Nat.le_refl _) i (by omega), Option.getD_some, ← objs_succ]
      by_cases hl : i + 1 < n
      · rw [if_pos hl]
        exact ih (i + 1) f (by omega) (by omega) (by omega) (by omega)
      · rw [if_neg hl]
        obtain rfl : n = i + 1 := by omega
        obtain ⟨f, rfl⟩ : ∃ f', f = f' + 1 := ⟨f - 1, by omega⟩
        unfold followF
        rw [if_pos rfl, if_pos (by omega)]

theorem follow_chain (xs : List Int) (p k n : Nat) (most : Int) (hk : 1 ≤ k) (hn : 1 ≤ n) (hin : p + k * n ≤ xs.length) (h0 : 0 ≤ most) :
    follow (chainTo xs p k n n) p most = if (n : Int) ≤ most then some (objs p k n) else none := by
  have hkn : n ≤ k * n := Nat.le_mul_of_pos_left _ (by omega)
  have h := follow_chain_aux xs p k n most hk hn hin n 0 ((chainTo xs p k n n).length + 2) (by omega) hn (by rw [chainTo_length]; omega) (by omega)
  simpa [follow, objs] using h
end Go.Proofs.YtkcaheebaicinaaGreatDoor
/- Heaps of pages in plain words: asking, draining, giving away. No program in sight. -/
namespace Go.Proofs.YtkcaheebaicinaaGreatDoor
set_option linter.unusedVariables false

theorem fits_page {p : Nat} (h : p < 256) : fitsB 0 256 p 0 := ⟨by omega, by omega, h, by simp [Nat.mod_one]⟩
theorem hit_t (a o t t' p : Nat) : hit ⟨a, o, t⟩ p = hit ⟨a, o, t'⟩ p := rfl
theorem miss_lens {ls : List Ls} {k n : Nat} (hm : ∀ y ∈ ls, y.key ≠ k) : ∀ x ∈ ls, x.key = k → x.p.length + n ≤ 8 := fun x hx hk => absurd hk (hm x hx)

theorem HOk.filled {h h' : Hp} (hk : HOk h) {l : Ls} {hd a : Nat} (hl : l.c < h.cpus ∧ l.z < 2 ∧ l.t < 3) (hm : ∀ y ∈ h.ls, y.key ≠ l.key) (he : (h.takeZ l.z 0 l.t hd).map (fun r => (r.1.fill l hd 3, r.2)) = some (h', a)) : Took h 0 h' a := by
  cases ht : h.takeZ l.z 0 l.t hd with
  | none => rw [ht] at he; cases he
  | some r =>
    obtain ⟨g, b⟩ := r
    rw [ht] at he
    simp only [Option.map_some, Option.some.injEq, Prod.mk.injEq] at he
    obtain ⟨rfl, rfl⟩ := he
    obtain ⟨hT, hls, hz⟩ := hk.takeZ (by omega) hl.2.2 hl.2.1 ht
    obtain ⟨k1, k2, k3, k4⟩ := HOk.fill (l := l) (hd := hd) 3 hT.ok (by rw [hT.same.cpus]; exact hl) (miss_lens (by rw [hls]; exact hm)) (by omega)
    exact ⟨k1, hT.fit, fun t p => by rw [k2]; exact hT.c t p, hT.same.trans k3, k4.trans hT.live⟩

theorem HOk.single {h h' : Hp} (hk : HOk h) {l : Ls} {hd a : Nat} (hl : l.c < h.cpus ∧ l.z < 2 ∧ l.t < 3) (he : h.single l hd = some (h', a)) : Took h 0 h' a := by
  unfold Hp.single at he
  cases hx : h.ls[lbL h.ls l.key]? with
  | none =>
    rw [hx] at he
    exact hk.filled hl (lbL_miss hk.lk fun y hy => by rw [hx] at hy; cases hy) he
  | some x =>
    rw [hx] at he
    simp only at he
    obtain ⟨hi, hxi⟩ := List.getElem?_eq_some_iff.1 hx
    by_cases hkey : x.key = l.key
    · rw [if_pos hkey] at he
      simp only [Option.some.injEq, Prod.mk.injEq] at he
      obtain ⟨rfl, rfl⟩ := he
      have hxm : x ∈ h.ls := by rw [← hxi]; exact List.getElem_mem hi
      obtain ⟨q1, q2, q3, q4, q5, q6⟩ := hk.lr x hxm
      have hne : x.p ≠ [] := fun e => by rw [e] at q4; simp at q4
      obtain ⟨ys, y, hy⟩ : ∃ ys y, x.p = ys ++ [y] := ⟨x.p.dropLast, x.p.getLast hne, (List.dropLast_concat_getLast hne).symm⟩
      have hlast : x.p.getLastD 0 = y := by rw [hy]; simp
      have hdrop : x.p.dropLast = ys := by rw [hy]; simp
      have hlen : x.p.length = ys.length + 1 := by rw [hy]; simp
      have hym : y ∈ x.p := by rw [hy]; simp
      rw [hlast, hdrop, hlen]
      have hpg : ∀ q, cnt (pgs x.p) q = cnt (pgs ys) q + hit ⟨y, 0, 0⟩ q := fun q => by rw [hy, cnt_pgs_append]; rfl
      have hcl : ∀ q, cnt (lsB (if ys.length + 1 = 1 then h.ls.eraseIdx (lbL h.ls l.key) else h.ls.set (lbL h.ls l.key) { x with p := ys })) q + hit ⟨y, 0, 0⟩ q = cnt (lsB h.ls) q := fun q => by
        split
        · rename_i h1
          have := cnt_lsB_erase hi q
          rw [hxi, hpg] at this
          have hz : ys = [] := List.eq_nil_of_length_eq_zero (by omega)
          rw [hz] at this
          simp only [pgs, List.map_nil, cnt] at this
          omega
        · have := cnt_lsB_set hi { x with p := ys } q
          rw [hxi, hpg] at this
          simp only at this
          omega
      have hca : ∀ t q, cnt ({ h with ls := if ys.length + 1 = 1 then h.ls.eraseIdx (lbL h.ls l.key) else h.ls.set (lbL h.ls l.key) { x with p := ys } } : Hp).all q + hit ⟨y, 0, t⟩ q = cnt h.all q := fun t q => by
        rw [hit_t y 0 t 0, cnt_all, cnt_all]
        simp only
        have := hcl q
        omega
      refine ⟨⟨hk.o0, hk.o1, hk.f0, hk.e0, hk.e1, hk.m0, hk.m1, hk.cp, ?_, ?_, hk.lv, hk.vs, fun q => by have := hca 0 q; have := hk.one q; omega⟩, fits_page (q6 y hym).1, hca, ⟨rfl, rfl, rfl, rfl⟩, rfl⟩
      · simp only
        split
        · exact hk.lk.sublist (List.eraseIdx_sublist _ _)
        · exact rise_set hk.lk hi (by rw [hxi]; rfl)
      · simp only
        intro w hw
        split at hw
        · exact hk.lr w ((List.eraseIdx_sublist _ _).subset hw)
        · rename_i h1
          rcases List.mem_or_eq_of_mem_set hw with hw | rfl
          · exact hk.lr w hw
          · exact ⟨q1, q2, q3, by simp only; omega, by simp only; omega, fun q hq => q6 q (by rw [hy]; simp [hq])⟩
    · rw [if_neg hkey] at he
      exact hk.filled hl (lbL_miss hk.lk fun y hy => by rw [hx] at hy; obtain rfl := Option.some.inj hy; exact hkey) he

theorem HOk.ask {h h' : Hp} (hk : HOk h) {cpu i order t a : Nat} {urgent low : Bool} (hc : cpu < h.cpus) (hi : i < 2) (ho : order ≤ 4) (ht : t < 3) (he : h.ask cpu i order t urgent low = some (h', a)) : Took h order h' a := by
  unfold Hp.ask at he
  split at he
  · rename_i h0
    subst h0
    exact hk.single ⟨hc, hi, ht⟩ he
  · exact (hk.takeZ ho ht hi he).1
theorem HOk.attempt {h h' : Hp} (hk : HOk h) {cpu order t a : Nat} {urgent low : Bool} (hc : cpu < h.cpus) (ho : order ≤ 4) (ht : t < 3) (he : h.attempt cpu order t urgent low = some (h', a)) : Took h order h' a := by
  unfold Hp.attempt at he
  split at he
  · exact hk.ask hc (by omega) ho ht he
  · cases h1 : h.ask cpu 1 order t urgent low with
    | some r =>
      rw [h1] at he
      obtain rfl := Option.some.inj he
      exact hk.ask hc (by omega) ho ht h1
    | none =>
      rw [h1] at he
      exact hk.ask hc (by omega) ho ht he

/-! ## Draining -/
theorem backB_ls (h : Hp) (m : List Ls) (a o : Nat) : ({ h with ls := m } : Hp).backB a o = { h.backB a o with ls := m } := by
  unfold Hp.backB Hp.setZ Hp.zone Hp.zof
  simp only
  split <;> split <;> rfl
theorem backAll_ls : ∀ (ps : List Nat) (h : Hp) (m : List Ls), backAll { h with ls := m } ps = { backAll h ps with ls := m }
  | [], _, _ => rfl
  | p :: ps, h, m => by rw [backAll, backAll, backB_ls, backAll_ls ps]
theorem drainL_ls : ∀ (ls : List Ls) (h : Hp) (m : List Ls), drainL { h with ls := m } ls = { drainL h ls with ls := m }
  | [], _, _ => rfl
  | l :: ls, h, m => by rw [drainL, drainL, backAll_ls, drainL_ls ls]
theorem HOk.backAll : ∀ (ps : List Nat) {h : Hp}, HOk h → (∀ p ∈ ps, p < 256) → (∀ q, cnt h.all q + cnt (pgs ps) q ≤ 1) →
    HOk (backAll h ps) ∧ (∀ q, cnt (backAll h ps).all q = cnt h.all q + cnt (pgs ps) q) ∧ Same h (backAll h ps) ∧ (backAll h ps).ls = h.ls ∧ (backAll h ps).live = h.live
  | [], h, hk, _, _ => ⟨hk, fun q => by simp [Go.Proofs.YtkcaheebaicinaaGreatDoor.backAll, pgs, cnt], Same.refl h, rfl, rfl⟩
  | p :: ps, h, hk, hp, hd => by
    have hcons : ∀ q, cnt (pgs (p :: ps)) q = hit ⟨p, 0, 0⟩ q + cnt (pgs ps) q := fun _ => rfl
    obtain ⟨g1, g2, g3, g4, g5⟩ := hk.backB (fits_page (hp p (by simp))) (fun q => by have := hd q; rw [hcons] at this; omega)
    obtain ⟨k1, k2, k3, k4, k5⟩ := HOk.backAll ps g1 (fun q hq => hp q (by simp [hq])) (fun q => by rw [g2]; have := hd q; rw [hcons] at this; omega)
    exact ⟨k1, fun q => by have := k2 q; rw [g2] at this; rw [hcons]; show cnt (Go.Proofs.YtkcaheebaicinaaGreatDoor.backAll (h.backB p 0) ps).all q = _; omega, g3.trans k3, k4.trans g4, k5.trans g5⟩
theorem HOk.drainL : ∀ (ls : List Ls) {h : Hp}, HOk h → (∀ l ∈ ls, ∀ p ∈ l.p, p < 256) → (∀ q, cnt h.all q + cnt (lsB ls) q ≤ 1) →
    HOk (drainL h ls) ∧ (∀ q, cnt (drainL h ls).all q = cnt h.all q + cnt (lsB ls) q) ∧ Same h (drainL h ls) ∧ (drainL h ls).ls = h.ls ∧ (drainL h ls).live = h.live
  | [], h, hk, _, _ => ⟨hk, fun q => by simp [Go.Proofs.YtkcaheebaicinaaGreatDoor.drainL, lsB, cnt], Same.refl h, rfl, rfl⟩
  | l :: ls, h, hk, hp, hd => by
    obtain ⟨g1, g2, g3, g4, g5⟩ := hk.backAll l.p (hp l (by simp)) (fun q => by have := hd q; rw [cnt_lsB_cons] at this; omega)
    obtain ⟨k1, k2, k3, k4, k5⟩ := HOk.drainL ls g1 (fun m hm => hp m (by simp [hm])) (fun q => by rw [g2]; have := hd q; rw [cnt_lsB_cons] at this; omega)
    exact ⟨k1, fun q => by have := k2 q; rw [g2] at this; rw [cnt_lsB_cons]; show cnt (Go.Proofs.YtkcaheebaicinaaGreatDoor.drainL (Go.Proofs.YtkcaheebaicinaaGreatDoor.backAll h l.p) ls).all q = _; omega, g3.trans k3, k4.trans g4, k5.trans g5⟩
theorem HOk.noLists {h : Hp} (hk : HOk h) : HOk { h with ls := [] } :=
  ⟨hk.o0, hk.o1, hk.f0, hk.e0, hk.e1, hk.m0, hk.m1, hk.cp, List.Pairwise.nil, fun l hl => by simp at hl, hk.lv, hk.vs, fun q => by
    have h1 := hk.one q
    rw [cnt_all] at h1 ⊢
    simp only [lsB, cnt]
    omega⟩
theorem HOk.drain {h : Hp} (hk : HOk h) : HOk h.drain ∧ (∀ q, cnt h.drain.all q = cnt h.all q) ∧ Same h h.drain ∧ h.drain.ls = [] ∧ h.drain.live = h.live := by
  have e : h.drain = Go.Proofs.YtkcaheebaicinaaGreatDoor.drainL { h with ls := [] } h.ls := (drainL_ls h.ls h []).symm
  have hc : ∀ q, cnt ({ h with ls := [] } : Hp).all q + cnt (lsB h.ls) q = cnt h.all q := fun q => by
    rw [cnt_all, cnt_all]
    simp only [lsB, cnt]
    omega
  obtain ⟨k1, k2, k3, k4, k5⟩ := hk.noLists.drainL h.ls (fun l hl p hp => ((hk.lr l hl).2.2.2.2.2 p hp).1) (fun q => by rw [hc]; exact hk.one q)
  rw [e]
  exact ⟨k1, fun q => by rw [k2, hc], Same.trans (b := { h with ls := [] }) ⟨rfl, rfl, rfl, rfl⟩ k3, k4, k5⟩
end Go.Proofs.YtkcaheebaicinaaGreatDoor
/- Heaps of pages in plain words: Alloc and Free keep what holds. No program in sight. -/
namespace Go.Proofs.YtkcaheebaicinaaGreatDoor
set_option linter.unusedVariables false

theorem cnt_putIn (l : List Bk) (b : Bk) (q : Nat) : cnt (putIn l b) q = cnt l q + hit b q := by
  unfold putIn
  conv => rhs; rw [← List.take_append_drop (lb l b.a) l]
  rw [cnt_append, cnt_append, cnt]
  omega
theorem cnt_erase {l : List Bk} {i : Nat} (hi : i < l.length) (q : Nat) : cnt (l.eraseIdx i) q + hit l[i] q = cnt l q := by
  have h1 : l = l.take i ++ l[i] :: l.drop (i + 1) := by rw [← List.drop_eq_getElem_cons hi, List.take_append_drop]
  conv => rhs; rw [h1]
  rw [List.eraseIdx_eq_take_drop_succ, cnt_append, cnt_append, cnt]
  omega
theorem rise_putIn {l : List Bk} (h : Rise l) {b : Bk} (hn : ∀ x ∈ l, x.a ≠ b.a) : Rise (putIn l b) := by
  unfold Rise putIn
  rw [List.pairwise_append]
  refine ⟨h.sublist (List.take_sublist _ _), List.pairwise_cons.2 ⟨fun y hy => ?_, h.sublist (List.drop_sublist _ _)⟩, fun x hx y hy => ?_⟩
  · have h1 := lb_above h y hy
    have h2 := hn y (List.mem_of_mem_drop hy)
    omega
  · have h1 := lb_below x hx
    rw [List.mem_cons] at hy
    rcases hy with rfl | hy
    · exact h1
    · have h2 := lb_above h y hy
      omega
theorem mem_putIn {l : List Bk} {b x : Bk} (h : x ∈ putIn l b) : x = b ∨ x ∈ l := by
  unfold putIn at h
  rw [List.mem_append, List.mem_cons] at h
  rcases h with h | rfl | h
  · exact .inr (List.mem_of_mem_take h)
  · exact .inl rfl
  · exact .inr (List.mem_of_mem_drop h)
theorem live_cnt (h : Hp) (p : Nat) : cnt h.live p ≤ cnt h.all p := by rw [cnt_all]; omega

theorem HOk.live_new {g : Hp} (hk : HOk g) {a o t : Nat} (hfit : fitsB 0 256 a o) (ht : t < 3) (hd : ∀ q, cnt g.all q + hit ⟨a, o, t⟩ q ≤ 1) :
    HOk { g with live := putIn g.live ⟨a, o, t⟩ } ∧ ∀ q, cnt ({ g with live := putIn g.live ⟨a, o, t⟩ } : Hp).all q = cnt g.all q + hit ⟨a, o, t⟩ q := by
  have hc : ∀ q, cnt ({ g with live := putIn g.live ⟨a, o, t⟩ } : Hp).all q = cnt g.all q + hit ⟨a, o, t⟩ q := fun q => by
    rw [cnt_all, cnt_all]
    simp only
    rw [cnt_putIn]
    omega
  refine ⟨⟨hk.o0, hk.o1, hk.f0, hk.e0, hk.e1, hk.m0, hk.m1, hk.cp, hk.lk, hk.lr, fun b hb => ?_, rise_putIn hk.vs fun x hx e => ?_, fun q => by rw [hc]; exact hd q⟩, hc⟩
  · rcases mem_putIn hb with rfl | hb
    · exact ⟨hfit, ht⟩
    · exact hk.lv b hb
  · have h1 := hd a
    have h2 := live_cnt g a
    have hpo := pow_pos' o
    have hpx := pow_pos' x.o
    have h3 : 0 < cnt g.live a := cnt_pos.2 ⟨x, hx, by unfold inB; simp only at e; omega⟩
    have h4 : hit ⟨a, o, t⟩ a = 1 := hit_one.2 (by unfold inB; simp only; omega)
    omega

theorem HOk.alloc {h h' : Hp} (hk : HOk h) {cpu order t a : Nat} {urgent low : Bool} (hc : cpu < h.cpus) (ho : order ≤ 4) (ht : t < 3) (he : h.alloc cpu order t urgent low = some (h', a)) :
    HOk h' ∧ (∀ q, cnt h'.all q = cnt h.all q) ∧ Same h h' ∧ h'.live = putIn h.live ⟨a, order, t⟩ ∧ fitsB 0 256 a order := by
  have key : ∃ g, Took h order g a ∧ h' = { g with live := putIn g.live ⟨a, order, t⟩ } := by
    unfold Hp.alloc at he
    cases h1 : h.attempt cpu order t urgent low with
    | some r =>
      rw [h1] at he
      simp only [Option.some.injEq, Prod.mk.injEq] at he
      obtain ⟨rfl, rfl⟩ := he
      exact ⟨r.1, hk.attempt hc ho ht h1, rfl⟩
    | none =>
      rw [h1] at he
      simp only at he
      cases h2 : h.drain.attempt cpu order t urgent low with
      | none => rw [h2] at he; cases he
      | some r =>
        rw [h2] at he
        simp only [Option.some.injEq, Prod.mk.injEq] at he
        obtain ⟨rfl, rfl⟩ := he
        obtain ⟨d1, d2, d3, d4, d5⟩ := hk.drain
        have hT := d1.attempt (by rw [d3.cpus]; exact hc) ho ht h2
        exact ⟨r.1, ⟨hT.ok, hT.fit, fun t p => by rw [hT.c, d2], d3.trans hT.same, hT.live.trans d5⟩, rfl⟩
  obtain ⟨g, hT, rfl⟩ := key
  obtain ⟨k1, k2⟩ := hT.ok.live_new hT.fit ht (fun q => by rw [hT.c t q]; exact hk.one q)
  exact ⟨k1, fun q => by rw [k2, hT.c t q], Same.trans hT.same ⟨rfl, rfl, rfl, rfl⟩, by simp only; rw [hT.live], hT.fit⟩

/-! ## Free -/
theorem push_other {ls : List Ls} {l : Ls} {p : Nat} : ∀ x ∈ pushL ls l p, x.key ≠ l.key → x ∈ ls := by
  intro x hx hne
  unfold pushL at hx
  split at hx
  · rename_i y hy
    split at hx
    · rename_i hk
      rcases List.mem_or_eq_of_mem_set hx with hx | rfl
      · exact hx
      · exact absurd hk hne
    · rw [List.mem_append, List.mem_cons] at hx
      rcases hx with hx | rfl | hx
      · exact List.mem_of_mem_take hx
      · exact absurd rfl hne
      · exact List.mem_of_mem_drop hx
  · rw [List.mem_append, List.mem_cons] at hx
    rcases hx with hx | rfl | hx
    · exact List.mem_of_mem_take hx
    · exact absurd rfl hne
    · exact List.mem_of_mem_drop hx
theorem push_has (ls : List Ls) (l : Ls) (p : Nat) : ∃ x ∈ pushL ls l p, x.key = l.key := by
  unfold pushL
  split
  · rename_i y hy
    obtain ⟨hi, hyi⟩ := List.getElem?_eq_some_iff.1 hy
    split
    · rename_i hk
      exact ⟨{ y with p := y.p ++ [p] }, List.mem_set hi _, hk⟩
    · exact ⟨{ l with p := [p] }, by simp, rfl⟩
  · exact ⟨{ l with p := [p] }, by simp, rfl⟩
theorem push_at {ls : List Ls} (h : RiseL ls) (l : Ls) (p : Nat) : ∃ x, (pushL ls l p)[lbL (pushL ls l p) l.key]? = some x ∧ x.key = l.key ∧ x.p.length = lenL ls l.key + 1 := by
  obtain ⟨x, hx, hk⟩ := push_has ls l p
  have h1 := lbL_hit (push_rise h l p) hx
  rw [hk] at h1
  exact ⟨x, h1, hk, push_mem h x hx hk⟩
theorem lenL_le {ls : List Ls} {k N : Nat} (h : ∀ x ∈ ls, x.p.length ≤ N) : lenL ls k ≤ N := by
  unfold lenL
  cases hf : ls.find? fun x => decide (x.key = k) with
  | none => exact Nat.zero_le _
  | some y => exact h y (List.mem_of_find?_eq_some hf)

theorem HOk.give {h : Hp} (hk : HOk h) {cpu p : Nat} (hc : cpu < h.cpus) (hp : p < 256) (hd : ∀ q, cnt h.all q + hit ⟨p, 0, 0⟩ q ≤ 1) :
    HOk (h.give cpu p) ∧ (∀ q, cnt (h.give cpu p).all q = cnt h.all q + hit ⟨p, 0, 0⟩ q) ∧ Same h (h.give cpu p) ∧ (h.give cpu p).live = h.live := by
  unfold Hp.give
  obtain ⟨t, ht⟩ : ∃ t, (h.zone (h.zof p)).y.getD ((p - (h.zone (h.zof p)).f) / 8) 0 = t := ⟨_, rfl⟩
  have ht3 : t < 3 := by
    rw [← ht]
    have hz := (hk.zone (h.zof p)).1.typ
    rw [List.getD_eq_getElem?_getD]
    cases hg : (h.zone (h.zof p)).y[(p - (h.zone (h.zof p)).f) / 8]? with
    | none => simp
    | some u => exact hz u (List.mem_of_getElem? hg)
  rw [ht]
  have hz2 : h.zof p < 2 := by unfold Hp.zof; split <;> omega
  have hz3 : p < h.z0.e ↔ h.zof p = 0 := by unfold Hp.zof; split <;> simp_all
  obtain ⟨l, hl⟩ : ∃ l : Ls, l = ⟨cpu, h.zof p, t, []⟩ := ⟨_, rfl⟩
  have hlr : l.c < h.cpus ∧ l.z < 2 ∧ l.t < 3 := by rw [hl]; exact ⟨hc, hz2, ht3⟩
  have hlz : p < 256 ∧ (p < h.z0.e ↔ l.z = 0) := by rw [hl]; exact ⟨hp, hz3⟩
  rw [← hl]
  simp only
  obtain ⟨x, hx, hxk, hxl⟩ := push_at hk.lk l p
  rw [hx]
  simp only
  have hlen := lenL_le (k := l.key) (fun x hx => (hk.lr x hx).2.2.2.2.1)
  by_cases h8 : 8 < x.p.length
  · rw [if_pos h8]
    obtain ⟨hi, hxi⟩ := List.getElem?_eq_some_iff.1 hx
    have hxm : x ∈ pushL h.ls l p := by rw [← hxi]; exact List.getElem_mem hi
    have h9 := push_ok (N := 8) (M := 9) hk.lr hlr hlz (by omega) (by omega) (fun y hy _ => by have := (hk.lr y hy).2.2.2.2.1; omega)
    obtain ⟨q1, q2, q3, q4, q5, q6⟩ := h9 x hxm
    have hpg : ∀ q, cnt (pgs x.p) q = cnt (pgs (x.p.take 4)) q + cnt (pgs (x.p.drop 4)) q := fun q => by rw [← cnt_pgs_append, List.take_append_drop]
    have hcl : ∀ q, cnt (lsB ((pushL h.ls l p).set (lbL (pushL h.ls l p) l.key) { x with p := x.p.drop 4 })) q + cnt (pgs (x.p.take 4)) q = cnt (lsB h.ls) q + hit ⟨p, 0, 0⟩ q := fun q => by
      have h1 := cnt_lsB_set hi { x with p := x.p.drop 4 } q
      have h2 := cnt_push h.ls l p q
      rw [hxi, hpg] at h1
      simp only at h1
      omega
    have hca : ∀ q, cnt ({ h with ls := (pushL h.ls l p).set (lbL (pushL h.ls l p) l.key) { x with p := x.p.drop 4 } } : Hp).all q + cnt (pgs (x.p.take 4)) q = cnt h.all q + hit ⟨p, 0, 0⟩ q := fun q => by
      rw [cnt_all, cnt_all]
      simp only
      have := hcl q
      omega
    have hk2 : HOk { h with ls := (pushL h.ls l p).set (lbL (pushL h.ls l p) l.key) { x with p := x.p.drop 4 } } := by
      refine ⟨hk.o0, hk.o1, hk.f0, hk.e0, hk.e1, hk.m0, hk.m1, hk.cp, rise_set (push_rise hk.lk l p) hi (by rw [hxi]; rfl), fun y hy => ?_, hk.lv, hk.vs, fun q => by have := hca q; have := hd q; omega⟩
      simp only at hy ⊢
      obtain ⟨j, hj, rfl⟩ := List.getElem_of_mem hy
      rw [List.length_set] at hj
      rw [List.getElem_set]
      by_cases hij : lbL (pushL h.ls l p) l.key = j
      · rw [if_pos hij]
        exact ⟨q1, q2, q3, by simp only [List.length_drop]; omega, by simp only [List.length_drop]; omega, fun q hq => q6 q (List.mem_of_mem_drop hq)⟩
      · rw [if_neg hij]
        refine hk.lr _ (push_other _ (List.getElem_mem hj) fun e => ?_)
        rcases Nat.lt_or_gt_of_ne hij with hlt | hgt
        · have := List.pairwise_iff_getElem.1 (push_rise hk.lk l p) _ _ hi hj hlt
          rw [hxi, hxk, e] at this
          omega
        · have := List.pairwise_iff_getElem.1 (push_rise hk.lk l p) _ _ hj hi hgt
          rw [hxi, hxk, e] at this
          omega
    obtain ⟨k1, k2, k3, k4, k5⟩ := hk2.backAll (x.p.take 4) (fun q hq => (q6 q (List.mem_of_mem_take hq)).1) (fun q => by rw [hca]; exact hd q)
    have e : Go.Proofs.YtkcaheebaicinaaGreatDoor.backAll { h with ls := (pushL h.ls l p).set (lbL (pushL h.ls l p) l.key) { x with p := x.p.drop 4 } } (x.p.take 4) = { Go.Proofs.YtkcaheebaicinaaGreatDoor.backAll { h with ls := pushL h.ls l p } (x.p.take 4) with ls := (pushL h.ls l p).set (lbL (pushL h.ls l p) l.key) { x with p := x.p.drop 4 } } := backAll_ls (x.p.take 4) { h with ls := pushL h.ls l p } _
    rw [← e]
    exact ⟨k1, fun q => by rw [k2, hca], Same.trans (b := { h with ls := (pushL h.ls l p).set (lbL (pushL h.ls l p) l.key) { x with p := x.p.drop 4 } }) ⟨rfl, rfl, rfl, rfl⟩ k3, k5⟩
  · rw [if_neg h8]
    obtain ⟨g1, g2⟩ := hk.push hlr hlz (fun y hy hyk => by
      have h1 := lenL_mem hk.lk hy
      rw [hyk] at h1
      omega) hd
    exact ⟨g1, g2, ⟨rfl, rfl, rfl, rfl⟩, rfl⟩

theorem HOk.freeB {h : Hp} (hk : HOk h) {cpu i : Nat} (hc : cpu < h.cpus) (hi : i < h.live.length) :
    HOk (h.freeB cpu i h.live[i]) ∧ (∀ q, cnt (h.freeB cpu i h.live[i]).all q = cnt h.all q) ∧ Same h (h.freeB cpu i h.live[i]) ∧ (h.freeB cpu i h.live[i]).live = h.live.eraseIdx i := by
  have hb := hk.lv _ (List.getElem_mem hi)
  have hce : ∀ q, cnt ({ h with live := h.live.eraseIdx i } : Hp).all q + hit ⟨h.live[i].a, h.live[i].o, 0⟩ q = cnt h.all q := fun q => by
    have h1 := cnt_erase hi q
    have h2 : hit ⟨h.live[i].a, h.live[i].o, 0⟩ q = hit h.live[i] q := rfl
    rw [cnt_all, cnt_all, h2]
    simp only
    omega
  have hk1 : HOk { h with live := h.live.eraseIdx i } := ⟨hk.o0, hk.o1, hk.f0, hk.e0, hk.e1, hk.m0, hk.m1, hk.cp, hk.lk, hk.lr, fun b hb => hk.lv b ((List.eraseIdx_sublist _ _).subset hb), hk.vs.sublist (List.eraseIdx_sublist _ _), fun q => by have := hce q; have := hk.one q; omega⟩
  unfold Hp.freeB
  simp only
  split
  · obtain ⟨g1, g2, g3, g4, g5⟩ := hk1.backB hb.1 (fun q => by rw [hce]; exact hk.one q)
    exact ⟨g1, fun q => by rw [g2, hce], Same.trans (b := { h with live := h.live.eraseIdx i }) ⟨rfl, rfl, rfl, rfl⟩ g3, g5⟩
  · rename_i h0
    have ho : h.live[i].o = 0 := by omega
    rw [ho] at hce
    obtain ⟨g1, g2, g3, g4⟩ := hk1.give (cpu := cpu) hc hb.1.2.2.1 (fun q => by rw [hce]; exact hk.one q)
    exact ⟨g1, fun q => by rw [g2, hce], Same.trans (b := { h with live := h.live.eraseIdx i }) ⟨rfl, rfl, rfl, rfl⟩ g3, g4⟩
end Go.Proofs.YtkcaheebaicinaaGreatDoor
/- Many owned rows, each in a block of its own. No program in sight. -/
namespace Go.Proofs.YtkcaheebaicinaaGreatDoor
open Go.RowKit
set_option linter.unusedVariables false

/-- a row: element type, cells of an element, the slice value, its length, the cells -/
structure Rs where
  e : TypeId
  k : Nat
  v : Value
  n : Nat
  xs : List Value
def Rs.on (r : Rs) (W : World) (base : Nat) : Prop := W.ownsRow base r.e r.k r.v r.n r.xs
def Rs.off (a b : Rs) : Prop := ∀ g, a.v.ownBlock = some g → b.v.ownBlock ≠ some g
theorem Rs.off.symm {a b : Rs} (h : a.off b) : b.off a := fun g h1 h2 => h g h2 h1

structure OwnL (W : World) (base : Nat) (rs : List Rs) : Prop where
  each : ∀ r ∈ rs, r.on W base
  dis : rs.Pairwise Rs.off

section
variable {W W' : World} {bas : Nat} {rs : List Rs}
theorem OwnL.below (h : OwnL W bas rs) (hb : Below W.heap.size W W') : OwnL W' bas rs := ⟨fun r hr => own_below (h.each r hr) hb (Nat.le_refl _), h.dis⟩
theorem OwnL.base {base' : Nat} (h : OwnL W bas rs) (hb : base' ≤ bas) : OwnL W base' rs := ⟨fun r hr => own_base (h.each r hr) hb, h.dis⟩
theorem OwnL.ne (h : OwnL W bas rs) {g : Nat} (hg : g < bas ∨ W.heap.size ≤ g) : ∀ r ∈ rs, r.v.ownBlock ≠ some g := fun r hr => own_ne (h.each r hr) hg
theorem OwnL.far (h : OwnL W bas rs) {g : Nat} (hg : ∀ r ∈ rs, r.v.ownBlock ≠ some g) (i : Nat) (u : Value) : OwnL (W.setCell ⟨g, i, none⟩ u) bas rs := ⟨fun r hr => own_set (h.each r hr) (hg r hr) u, h.dis⟩
theorem OwnL.at (h : OwnL W bas rs) {i : Nat} (hi : i < rs.length) : rs[i].on W bas := h.each _ (List.getElem_mem hi)
theorem OwnL.off (h : OwnL W bas rs) {i j : Nat} (hi : i < rs.length) (hj : j < rs.length) (hne : i ≠ j) : rs[i].off rs[j] := by
  rcases Nat.lt_or_gt_of_ne hne with hlt | hgt
  · exact List.pairwise_iff_getElem.1 h.dis i j hi hj hlt
  · exact (List.pairwise_iff_getElem.1 h.dis j i hj hi hgt).symm
theorem off_set {rs : List Rs} {i : Nat} {r' : Rs} (hd : rs.Pairwise Rs.off) (hi : i < rs.length) (h : ∀ j (hj : j < rs.length), j ≠ i → r'.off rs[j]) : (rs.set i r').Pairwise Rs.off := by
  rw [List.pairwise_iff_getElem]
  intro a b ha hb hab
  rw [List.length_set] at ha hb
  rw [List.getElem_set, List.getElem_set]
  by_cases h1 : i = a
  · subst h1
    rw [if_pos rfl, if_neg (by omega)]
    exact h b hb (by omega)
  · rw [if_neg h1]
    by_cases h2 : i = b
    · subst h2
      rw [if_pos rfl]
      exact (h a ha (by omega)).symm
    · rw [if_neg h2]
      exact List.pairwise_iff_getElem.1 hd a b ha hb hab
theorem mem_set_ne {rs : List Rs} {i : Nat} {r' r : Rs} (h : r ∈ rs.set i r') : r = r' ∨ ∃ j, ∃ (hj : j < rs.length), j ≠ i ∧ r = rs[j] := by
  obtain ⟨j, hj, rfl⟩ := List.getElem_of_mem h
  rw [List.length_set] at hj
  rw [List.getElem_set]
  by_cases h1 : i = j
  · rw [if_pos h1]; exact .inl rfl
  · rw [if_neg h1]; exact .inr ⟨j, hj, fun e => h1 e.symm, rfl⟩
/-- a row has grown, in its own block or in a new one -/
theorem OwnL.grown (h : OwnL W bas rs) {i : Nat} (hi : i < rs.length) {r' : Rs} (hg : W.grownBy W' rs[i].v.ownBlock) (ho : r'.on W' bas) (hn : ∀ g, r'.v.ownBlock = some g → rs[i].v.ownBlock = some g ∨ W.heap.size ≤ g) : OwnL W' bas (rs.set i r') := by
  have hoff : ∀ j (hj : j < rs.length), j ≠ i → r'.off rs[j] := fun j hj hne g h1 h2 => by
    rcases hn g h1 with h3 | h3
    · exact h.off hi hj (fun e => hne e.symm) g h3 h2
    · exact own_ne (h.at hj) (.inr h3) h2
  refine ⟨fun r hr => ?_, off_set h.dis hi hoff⟩
  rcases mem_set_ne hr with rfl | ⟨j, hj, hne, rfl⟩
  · exact ho
  · exact own_grown (h.at hj) hg (fun k hk e => h.off hi hj (fun e => hne e.symm) k e hk)
/-- another row takes a row's place: it lies above all the others -/
theorem OwnL.swap (h : OwnL W bas rs) {i : Nat} (hi : i < rs.length) {r' : Rs} {bs : Nat} (ho : r'.on W bs) (hb : bas ≤ bs) (hbs : ∀ j (hj : j < rs.length), j ≠ i → ∀ g, rs[j].v.ownBlock = some g → g < bs) : OwnL W bas (rs.set i r') := by
  refine ⟨fun r hr => ?_, off_set h.dis hi fun j hj hne g h1 h2 => ?_⟩
  · rcases mem_set_ne hr with rfl | ⟨j, hj, hne, rfl⟩
    · exact own_base ho hb
    · exact h.at hj
  · have h3 := hbs j hj hne g h2
    have h4 := (ho.lt g h1).1
    omega
/-- a cell of a row is written -/
theorem OwnL.cell (h : OwnL W bas rs) {i : Nat} (hi : i < rs.length) {g : Nat} {c : Nat} (hv : rs[i].v = .slice (some ⟨g, 0, none⟩) rs[i].n c) (j : Nat) (u : Value) (hu : u.oneCell' = true) : OwnL (W.setCell ⟨g, j, none⟩ u) bas (rs.set i { rs[i] with xs := rs[i].xs.set j u }) := by
  have hb : rs[i].v.ownBlock = some g := by rw [hv]; rfl
  refine ⟨fun r hr => ?_, off_set h.dis hi fun j' hj' hne => h.off hi hj' (fun e => hne e.symm)⟩
  rcases mem_set_ne hr with rfl | ⟨j', hj', hne, rfl⟩
  · have h0 := h.at hi
    unfold Rs.on at *
    simp only
    rw [hv] at h0
    have h1 := (World.ownsRow.stored h0 j u).1
    rw [hv]
    exact h1
  · exact own_set (h.at hj') (h.off hi hj' (fun e => hne e.symm) g hb) u
/-- a row more -/
theorem OwnL.cons (h : OwnL W bas rs) {r' : Rs} {bs : Nat} (ho : r'.on W bs) (hb : bas ≤ bs) (hbs : ∀ r ∈ rs, ∀ g, r.v.ownBlock = some g → g < bs) : OwnL W bas (r' :: rs) :=
  ⟨fun r hr => by
    rw [List.mem_cons] at hr
    rcases hr with rfl | hr
    · exact own_base ho hb
    · exact h.each r hr, List.pairwise_cons.2 ⟨fun r hr g h1 h2 => by have h3 := hbs r hr g h2; have h4 := (ho.lt g h1).1; omega, h.dis⟩⟩
theorem OwnL.sub {rs' : List Rs} (h : OwnL W bas rs) (hs : rs'.Sublist rs) : OwnL W bas rs' := ⟨fun r hr => h.each r (hs.subset hr), h.dis.sublist hs⟩
theorem OwnL.perm {rs' : List Rs} (h : OwnL W bas rs) (hp : rs.Perm rs') : OwnL W bas rs' := ⟨fun r hr => h.each r (hp.mem_iff.2 hr), (hp.pairwise_iff (fun h => Rs.off.symm h)).1 h.dis⟩
theorem OwnL.nil (W : World) (bas : Nat) : OwnL W bas [] := ⟨fun r hr => by simp at hr, List.Pairwise.nil⟩
theorem OwnL.lt (h : OwnL W bas rs) : ∀ r ∈ rs, ∀ g, r.v.ownBlock = some g → bas ≤ g ∧ g < W.heap.size := fun r hr g hg => (h.each r hr).lt g hg
end
end Go.Proofs.YtkcaheebaicinaaGreatDoor
/- The heap, pure: what filling leaves, step by step; what is held back stays. -/
namespace Go.Proofs.YtkcaheebaicinaaGreatDoor
set_option linter.unusedVariables false
theorem held_same {h g : Hp} (hk : HOk h) (hg : HOk g) (hs : Same h g) (i : Nat) (u lo : Bool) : g.held i u lo = h.held i u lo := by
  have e1 : g.z1.f = h.z1.f := by rw [← hg.e0, ← hk.e0, hs.split]
  have e2 : g.z1.e = h.z1.e := by rw [hg.e1, hk.e1]
  unfold Hp.held Hp.min
  rw [e1, e2, hs.m0, hs.m1]
theorem HOk.fill_step {h h' : Hp} (hk : HOk h) {l : Ls} {hd a n : Nat} (hl : l.c < h.cpus ∧ l.z < 2 ∧ l.t < 3) (h8 : ∀ x ∈ h.ls, x.key = l.key → x.p.length + (n + 1) ≤ 8) (hn : n + 1 ≤ 8) (he : h.takeZ l.z 0 l.t hd = some (h', a)) :
    HOk h' ∧ HOk { h' with ls := pushL h'.ls l a } ∧ (∀ x ∈ pushL h'.ls l a, x.key = l.key → x.p.length + n ≤ 8) ∧ Same h { h' with ls := pushL h'.ls l a } := by
  obtain ⟨hT, hls, hz⟩ := hk.takeZ (by omega) hl.2.2 hl.2.1 he
  have hl' : l.c < h'.cpus ∧ l.z < 2 ∧ l.t < 3 := by rw [hT.same.cpus]; exact hl
  obtain ⟨g1, g2⟩ := hT.ok.push (l := l) (p := a) hl' ⟨hT.fit.2.2.1, by rw [hT.same.split]; exact hz⟩ (fun x hx hk => by rw [hls] at hx; have := h8 x hx hk; omega) (fun q => by rw [hT.c 0 q]; exact hk.one q)
  refine ⟨hT.ok, g1, fun x hx hkey => ?_, Same.trans hT.same ⟨rfl, rfl, rfl, rfl⟩⟩
  have := push_mem hT.ok.lk x hx hkey
  have h2 : lenL h'.ls l.key + (n + 1) ≤ 8 := by
    unfold lenL
    cases hf : h'.ls.find? fun x => decide (x.key = l.key) with
    | none => simp only; omega
    | some y =>
      have hy := List.mem_of_find?_eq_some hf
      have hyk := List.find?_some hf
      rw [hls] at hy
      exact h8 y hy (of_decide_eq_true hyk)
  omega
theorem hasL_true {ls : List Ls} {k : Nat} (h : hasL ls k = true) : ∃ hi : lbL ls k < ls.length, ls[lbL ls k].key = k := by
  unfold hasL at h
  cases he : ls[lbL ls k]? with
  | none => rw [he] at h; cases h
  | some x =>
    rw [he] at h
    obtain ⟨hi, hx⟩ := List.getElem?_eq_some_iff.1 he
    exact ⟨hi, by rw [hx]; simpa using h⟩
theorem hasL_false {ls : List Ls} {k : Nat} (h : hasL ls k = false) : ∀ y, ls[lbL ls k]? = some y → y.key ≠ k := fun y hy => by
  unfold hasL at h
  rw [hy] at h
  simpa using h
theorem single_there {h : Hp} {l : Ls} {hd : Nat} (hh : hasL h.ls l.key = true) (hi : lbL h.ls l.key < h.ls.length) : h.single l hd = some ({ h with ls := if h.ls[lbL h.ls l.key].p.length = 1 then h.ls.eraseIdx (lbL h.ls l.key) else h.ls.set (lbL h.ls l.key) { h.ls[lbL h.ls l.key] with p := h.ls[lbL h.ls l.key].p.dropLast } }, h.ls[lbL h.ls l.key].p.getLastD 0) := by
  obtain ⟨_, hx⟩ := hasL_true hh
  unfold Hp.single
  rw [List.getElem?_eq_getElem hi]
  simp only [hx, if_true]
theorem single_new {h : Hp} {l : Ls} {hd : Nat} (hh : hasL h.ls l.key = false) : h.single l hd = (h.takeZ l.z 0 l.t hd).map fun r => (r.1.fill l hd 3, r.2) := by
  have h1 := hasL_false hh
  unfold Hp.single
  cases he : h.ls[lbL h.ls l.key]? with
  | none => rfl
  | some x => simp only [h1 x he, if_false]
end Go.Proofs.YtkcaheebaicinaaGreatDoor
/- The heap, pure: draining, step by step. -/
namespace Go.Proofs.YtkcaheebaicinaaGreatDoor
set_option linter.unusedVariables false
theorem backAll_append : ∀ (a b : List Nat) (h : Hp), backAll h (a ++ b) = backAll (backAll h a) b
  | [], _, _ => rfl
  | p :: a, b, h => by rw [List.cons_append, backAll, backAll, backAll_append a b]
theorem drainL_append : ∀ (a b : List Ls) (h : Hp), drainL h (a ++ b) = drainL (drainL h a) b
  | [], _, _ => rfl
  | l :: a, b, h => by rw [List.cons_append, drainL, drainL, drainL_append a b]
theorem backAll_next (h : Hp) (l : List Nat) {j : Nat} (hj : j < l.length) : backAll h (l.take (j + 1)) = (backAll h (l.take j)).backB l[j] 0 := by
  rw [List.take_succ_eq_append_getElem hj, backAll_append]
  rfl
theorem drainL_next (h : Hp) (l : List Ls) {i : Nat} (hi : i < l.length) : drainL h (l.take (i + 1)) = backAll (drainL h (l.take i)) l[i].p := by
  rw [List.take_succ_eq_append_getElem hi, drainL_append]
  rfl
theorem back_ready {h : Hp} (hk : HOk h) {a o : Nat} (hb : fitsB 0 256 a o) (hd : ∀ p, cnt h.all p + hit ⟨a, o, 0⟩ p ≤ 1) : (h.zone (h.zof a)).ok ∧ fitsB (h.zone (h.zof a)).f (h.zone (h.zof a)).e a o ∧ ∀ x ∈ (h.zone (h.zof a)).l, apartB a o x :=
  ⟨hk.zone _, hk.fits hb, fun x hx => apart_of_disj fun p h1 h2 => by
    have g1 := hd p
    have g2 := zone_cnt h (h.zof a) p
    have g3 := cnt_pos.2 (show covL (h.zone (h.zof a)).l p from ⟨x, hx, h2⟩)
    have g4 : hit ⟨a, o, 0⟩ p = 1 := hit_one.2 h1
    omega⟩
theorem back_ready_ls {h : Hp} (hk : HOk h) {a o : Nat} (m : List Ls) (hb : fitsB 0 256 a o) (hd : ∀ p, cnt h.all p + hit ⟨a, o, 0⟩ p ≤ 1) : (({ h with ls := m } : Hp).zone (({ h with ls := m } : Hp).zof a)).ok ∧ fitsB (({ h with ls := m } : Hp).zone (({ h with ls := m } : Hp).zof a)).f (({ h with ls := m } : Hp).zone (({ h with ls := m } : Hp).zof a)).e a o ∧ ∀ x ∈ (({ h with ls := m } : Hp).zone (({ h with ls := m } : Hp).zof a)).l, apartB a o x := back_ready hk hb hd
theorem drain_ready {h : Hp} (hk : HOk h) {i : Nat} (hi : i < h.ls.length) {j : Nat} (hj : j < h.ls[i].p.length) :
    ((backAll (drainL h (h.ls.take i)) (h.ls[i].p.take j)).zone ((backAll (drainL h (h.ls.take i)) (h.ls[i].p.take j)).zof h.ls[i].p[j])).ok ∧ fitsB ((backAll (drainL h (h.ls.take i)) (h.ls[i].p.take j)).zone ((backAll (drainL h (h.ls.take i)) (h.ls[i].p.take j)).zof h.ls[i].p[j])).f ((backAll (drainL h (h.ls.take i)) (h.ls[i].p.take j)).zone ((backAll (drainL h (h.ls.take i)) (h.ls[i].p.take j)).zof h.ls[i].p[j])).e h.ls[i].p[j] 0 ∧ ∀ x ∈ ((backAll (drainL h (h.ls.take i)) (h.ls[i].p.take j)).zone ((backAll (drainL h (h.ls.take i)) (h.ls[i].p.take j)).zof h.ls[i].p[j])).l, apartB h.ls[i].p[j] 0 x := by
  have hp : ∀ l ∈ h.ls, ∀ p ∈ l.p, p < 256 := fun l hl p hp => ((hk.lr l hl).2.2.2.2.2 p hp).1
  have hc : ∀ q, cnt ({ h with ls := [] } : Hp).all q + cnt (lsB h.ls) q = cnt h.all q := fun q => by
    rw [cnt_all, cnt_all]
    simp only [lsB, cnt]
    omega
  have hsp : ∀ q, cnt (lsB h.ls) q = cnt (lsB (h.ls.take i)) q + cnt (pgs h.ls[i].p) q + cnt (lsB (h.ls.drop (i + 1))) q := fun q => by
    have h1 := split_at hi
    have h2 : cnt (lsB h.ls) q = cnt (lsB (h.ls.take i ++ h.ls[i] :: h.ls.drop (i + 1))) q := congrArg (fun l => cnt (lsB l) q) h1
    rw [cnt_lsB_app, cnt_lsB_cons] at h2
    omega
  have hpp : ∀ q, cnt (pgs h.ls[i].p) q = cnt (pgs (h.ls[i].p.take j)) q + hit ⟨h.ls[i].p[j], 0, 0⟩ q + cnt (pgs (h.ls[i].p.drop (j + 1))) q := fun q => by
    have h1 : h.ls[i].p = h.ls[i].p.take j ++ ([h.ls[i].p[j]] ++ h.ls[i].p.drop (j + 1)) := by
      rw [List.singleton_append, List.getElem_cons_drop, List.take_append_drop]
    have h2 : cnt (pgs h.ls[i].p) q = cnt (pgs (h.ls[i].p.take j ++ ([h.ls[i].p[j]] ++ h.ls[i].p.drop (j + 1)))) q := congrArg (fun l => cnt (pgs l) q) h1
    rw [cnt_pgs_append, cnt_pgs_append, cnt_pgs_one] at h2
    omega
  obtain ⟨a1, a2, a3, a4, a5⟩ := hk.noLists.drainL (h.ls.take i) (fun l hl p hx => hp l (List.mem_of_mem_take hl) p hx) (fun q => by have h1 := hc q; have h2 := hsp q; have h3 := hk.one q; omega)
  obtain ⟨b1, b2, b3, b4, b5⟩ := a1.backAll (h.ls[i].p.take j) (fun p hx => hp _ (List.getElem_mem hi) p (List.mem_of_mem_take hx)) (fun q => by rw [a2]; have h1 := hc q; have h2 := hsp q; have h3 := hk.one q; have h4 := hpp q; omega)
  have e : backAll (drainL h (h.ls.take i)) (h.ls[i].p.take j) = { backAll (drainL { h with ls := [] } (h.ls.take i)) (h.ls[i].p.take j) with ls := h.ls } := by
    rw [← backAll_ls, ← drainL_ls]
  rw [e]
  exact back_ready_ls b1 h.ls (fits_page (hp _ (List.getElem_mem hi) _ (List.getElem_mem hj))) (fun q => by rw [b2, a2]; have h1 := hc q; have h2 := hsp q; have h3 := hk.one q; have h4 := hpp q; omega)
theorem drainL_all (h : Hp) (l : List Ls) : (drainL h l).ls = h.ls ∧ (drainL h l).live = h.live := by
  have hB : ∀ (g : Hp) (a o : Nat), (g.backB a o).ls = g.ls ∧ (g.backB a o).live = g.live := fun g a o => by
    unfold Hp.backB Hp.setZ
    split <;> exact ⟨rfl, rfl⟩
  have hA : ∀ (ps : List Nat) (g : Hp), (backAll g ps).ls = g.ls ∧ (backAll g ps).live = g.live := by
    intro ps
    induction ps with
    | nil => intro g; exact ⟨rfl, rfl⟩
    | cons p ps ih => intro g; rw [backAll]; exact ⟨(ih _).1.trans (hB g p 0).1, (ih _).2.trans (hB g p 0).2⟩
  induction l generalizing h with
  | nil => exact ⟨rfl, rfl⟩
  | cons x l ih => rw [drainL]; exact ⟨(ih _).1.trans (hA _ _).1, (ih _).2.trans (hA _ _).2⟩
end Go.Proofs.YtkcaheebaicinaaGreatDoor
/- What is held back of a zone stays free. No program in sight. -/
namespace Go.Proofs.YtkcaheebaicinaaGreatDoor
set_option linter.unusedVariables false
theorem sumTo_le {f g : Nat → Nat} : ∀ {n : Nat}, (∀ p, p < n → f p ≤ g p) → sumTo f n ≤ sumTo g n
  | 0, _ => Nat.le_refl _
  | n + 1, h => by
    have h1 := sumTo_le (n := n) (fun p hp => h p (by omega))
    have h2 := h n (by omega)
    simp only [sumTo]
    omega
theorem szB_sum {z : Zn} (hz : z.ok) : szB z.l = sumTo (cnt z.l) 256 := by
  refine (sumTo_cnt fun b hb => ?_).symm
  have h2 := (hz.2.fit b hb).1
  have h3 := fits_end hz.1.e16 h2
  have h4 := hz.1.e2
  unfold Bk.fin
  omega
theorem szB_back {z : Zn} (hz : z.ok) {a o : Nat} (hb : fitsB z.f z.e a o) (hd : ∀ x ∈ z.l, apartB a o x) : szB z.l ≤ szB (z.back a o).l := by
  rw [szB_sum hz, szB_sum (Zn.back_ok hz hb hd).1]
  exact sumTo_le fun p _ => by rw [cnt_back hz hb hd 0 p]; omega
theorem szB_take {z z' : Zn} {order a : Nat} (hz : z.ok) (ht : Taken z order z' a) : szB z'.l + 2 ^ order = szB z.l := by
  have h1 := szB_sum hz
  have h2 := szB_sum ht.ok
  have h3 := sumTo_add (cnt z'.l) (hit ⟨a, order, 0⟩) 256
  have h4 := sumTo_hit ⟨a, order, 0⟩ 256
  have h5 : sumTo (fun p => cnt z'.l p + hit ⟨a, order, 0⟩ p) 256 = sumTo (cnt z.l) 256 := sumTo_congr fun p _ => cnt_take hz ht 0 p
  have h6 := fits_end hz.1.e16 ht.fit
  have h7 := hz.1.e2
  have h8 := pow_pos' order
  unfold Bk.fin at h4
  simp only at h4
  generalize 2 ^ order = P at *
  omega
def ZK (h : Hp) : Prop := ∀ i, i < 2 → (h.zone i).ok
def HeldAt (m : Nat → Nat) (h : Hp) : Prop := ∀ i, i < 2 → m i ≤ szB (h.zone i).l
theorem HOk.zk {h : Hp} (hk : HOk h) : ZK h := fun i _ => hk.zone i
theorem zone_setZ (h : Hp) (i k : Nat) (z : Zn) (hi : i < 2) (hk : k < 2) : (h.setZ i z).zone k = if k = i then z else h.zone k := by
  unfold Hp.setZ Hp.zone
  rcases (show i = 0 ∨ i = 1 by omega) with rfl | rfl
  · rcases (show k = 0 ∨ k = 1 by omega) with rfl | rfl <;> simp
  · rcases (show k = 0 ∨ k = 1 by omega) with rfl | rfl <;> simp
theorem takeZ_held {m : Nat → Nat} {h h' : Hp} {i order t hd a : Nat} (hz : ZK h) (hh : HeldAt m h) (ho : order ≤ 4) (ht : t < 3) (hi : i < 2) (hm : m i ≤ hd) (he : h.takeZ i order t hd = some (h', a)) : ZK h' ∧ HeldAt m h' := by
  unfold Hp.takeZ at he
  split at he
  · cases he
  · rename_i hsz
    cases hq : (h.zone i).take order t with
    | none => rw [hq] at he; cases he
    | some r =>
      obtain ⟨z', a'⟩ := r
      rw [hq] at he
      simp only [Option.some.injEq, Prod.mk.injEq] at he
      obtain ⟨rfl, rfl⟩ := he
      have hex : ∃ b ∈ (h.zone i).l, order ≤ b.o := Classical.byContradiction fun hn => by
        rw [Zn.take_none hn] at hq; cases hq
      obtain ⟨z2, a2, h1, hT⟩ := Zn.take_some (hz i hi) ho ht hex
      rw [hq] at h1
      simp only [Option.some.injEq, Prod.mk.injEq] at h1
      obtain ⟨rfl, rfl⟩ := h1
      have hs := szB_take (hz i hi) hT
      refine ⟨fun k hk => ?_, fun k hk => ?_⟩
      · rw [zone_setZ h i k _ hi hk]
        split
        · exact hT.ok
        · exact hz k hk
      · rw [zone_setZ h i k _ hi hk]
        split
        · rename_i e
          subst e
          omega
        · exact hh k hk
theorem fill_held {m : Nat → Nat} {l : Ls} {hd : Nat} (hl : l.z < 2 ∧ l.t < 3) (hm : m l.z ≤ hd) : ∀ (n : Nat) {h : Hp}, ZK h → HeldAt m h → ZK (h.fill l hd n) ∧ HeldAt m (h.fill l hd n)
  | 0, h, hz, hh => ⟨hz, hh⟩
  | n + 1, h, hz, hh => by
    unfold Hp.fill
    cases he : h.takeZ l.z 0 l.t hd with
    | none => exact ⟨hz, hh⟩
    | some r =>
      obtain ⟨h', q⟩ := r
      obtain ⟨g1, g2⟩ := takeZ_held hz hh (by omega) hl.2 hl.1 hm he
      exact fill_held hl hm n (h := { h' with ls := pushL h'.ls l q }) g1 g2
theorem single_held {m : Nat → Nat} {h h' : Hp} {l : Ls} {hd a : Nat} (hz : ZK h) (hh : HeldAt m h) (hl : l.z < 2 ∧ l.t < 3) (hm : m l.z ≤ hd) (he : h.single l hd = some (h', a)) : ZK h' ∧ HeldAt m h' := by
  have hf : ∀ {r : Option (Hp × Nat)}, ((h.takeZ l.z 0 l.t hd).map fun r => (r.1.fill l hd 3, r.2)) = r → r = some (h', a) → ZK h' ∧ HeldAt m h' := by
    rintro r e rfl
    cases ht : h.takeZ l.z 0 l.t hd with
    | none => rw [ht] at e; cases e
    | some x =>
      rw [ht] at e
      simp only [Option.map_some, Option.some.injEq, Prod.mk.injEq] at e
      obtain ⟨rfl, rfl⟩ := e
      obtain ⟨g1, g2⟩ := takeZ_held hz hh (by omega) hl.2 hl.1 hm ht
      exact fill_held hl hm 3 g1 g2
  unfold Hp.single at he
  cases hx : h.ls[lbL h.ls l.key]? with
  | none => rw [hx] at he; exact hf rfl he
  | some x =>
    rw [hx] at he
    simp only at he
    split at he
    · simp only [Option.some.injEq, Prod.mk.injEq] at he
      obtain ⟨rfl, rfl⟩ := he
      exact ⟨hz, hh⟩
    · exact hf rfl he
theorem ask_held {m : Nat → Nat} {h h' : Hp} {cpu i order t a : Nat} {low : Bool} (hz : ZK h) (hh : HeldAt m h) (hi : i < 2) (ho : order ≤ 4) (ht : t < 3) (hm : ∀ i, m i ≤ h.min i) (he : h.ask cpu i order t false low = some (h', a)) : ZK h' ∧ HeldAt m h' := by
  have hmh : m i ≤ h.held i false low := by
    have := hm i
    unfold Hp.held
    simp
    omega
  unfold Hp.ask at he
  split at he
  · exact single_held (l := ⟨cpu, i, t, []⟩) hz hh ⟨hi, ht⟩ hmh he
  · exact takeZ_held hz hh ho ht hi hmh he
theorem attempt_held {m : Nat → Nat} {h h' : Hp} {cpu order t a : Nat} {low : Bool} (hz : ZK h) (hh : HeldAt m h) (ho : order ≤ 4) (ht : t < 3) (hm : ∀ i, m i ≤ h.min i) (he : h.attempt cpu order t false low = some (h', a)) : ZK h' ∧ HeldAt m h' := by
  unfold Hp.attempt at he
  split at he
  · exact ask_held hz hh (by omega) ho ht hm he
  · cases h1 : h.ask cpu 1 order t false low with
    | some r => rw [h1] at he; obtain rfl : r = (h', a) := by simpa using he
                exact ask_held hz hh (by omega) ho ht hm h1
    | none => rw [h1] at he; exact ask_held hz hh (by omega) ho ht hm he
theorem backB_held {m : Nat → Nat} {h : Hp} {a o : Nat} (hk : HOk h) (hh : HeldAt m h) (hb : fitsB 0 256 a o) (hd : ∀ p, cnt h.all p + hit ⟨a, o, 0⟩ p ≤ 1) : HeldAt m (h.backB a o) := fun i hi => by
  obtain ⟨g1, g2, g3⟩ := back_ready hk hb hd
  have hz : h.zof a < 2 := by unfold Hp.zof; split <;> omega
  unfold Hp.backB
  rw [zone_setZ h _ i _ hz hi]
  split
  · rename_i e
    subst e
    exact Nat.le_trans (hh _ hi) (szB_back g1 g2 g3)
  · exact hh i hi
theorem backAll_held {m : Nat → Nat} : ∀ (ps : List Nat) {h : Hp}, HOk h → HeldAt m h → (∀ p ∈ ps, p < 256) → (∀ q, cnt h.all q + cnt (pgs ps) q ≤ 1) → HeldAt m (backAll h ps)
  | [], h, hk, hh, _, _ => hh
  | p :: ps, h, hk, hh, hp, hd => by
    have hd1 : ∀ q, cnt h.all q + hit ⟨p, 0, 0⟩ q ≤ 1 := fun q => by have := hd q; simp only [pgs, List.map_cons, cnt] at this; omega
    obtain ⟨k1, k2, k3, k4, k5⟩ := hk.backB (fits_page (hp p (by simp))) hd1
    exact backAll_held ps k1 (backB_held hk hh (fits_page (hp p (by simp))) hd1) (fun q hq => hp q (by simp [hq])) (fun q => by rw [k2]; have := hd q; simp only [pgs, List.map_cons, cnt] at this ⊢; omega)
theorem drainL_held {m : Nat → Nat} : ∀ (ls : List Ls) {h : Hp}, HOk h → HeldAt m h → (∀ l ∈ ls, ∀ p ∈ l.p, p < 256) → (∀ q, cnt h.all q + cnt (lsB ls) q ≤ 1) → HeldAt m (drainL h ls)
  | [], h, hk, hh, _, _ => hh
  | l :: ls, h, hk, hh, hp, hd => by
    have hd1 : ∀ q, cnt h.all q + cnt (pgs l.p) q ≤ 1 := fun q => by have := hd q; rw [cnt_lsB_cons] at this; omega
    obtain ⟨k1, k2, k3, k4, k5⟩ := hk.backAll l.p (hp l (by simp)) hd1
    exact drainL_held ls k1 (backAll_held l.p hk hh (hp l (by simp)) hd1) (fun x hx => hp x (by simp [hx])) (fun q => by rw [k2]; have := hd q; rw [cnt_lsB_cons] at this; omega)
theorem drain_held {m : Nat → Nat} {h : Hp} (hk : HOk h) (hh : HeldAt m h) : HeldAt m h.drain := by
  have h1 := drainL_held h.ls (h := { h with ls := [] }) hk.noLists hh (fun l hl p hp => ((hk.lr l hl).2.2.2.2.2 p hp).1) (fun q => by
    have := hk.one q
    rw [cnt_all] at this ⊢
    simp only [lsB, cnt]
    omega)
  rw [drainL_ls h.ls h []] at h1
  exact h1
theorem alloc_held {m : Nat → Nat} {h h' : Hp} {cpu order t a : Nat} {low : Bool} (hk : HOk h) (hh : HeldAt m h) (ho : order ≤ 4) (ht : t < 3) (hm : ∀ i, m i ≤ h.min i) (he : h.alloc cpu order t false low = some (h', a)) : HeldAt m h' := by
  unfold Hp.alloc at he
  cases h1 : h.attempt cpu order t false low with
  | some r =>
    rw [h1] at he
    simp only [Option.some.injEq, Prod.mk.injEq] at he
    obtain ⟨rfl, rfl⟩ := he
    exact (attempt_held hk.zk hh ho ht hm h1).2
  | none =>
    rw [h1] at he
    simp only at he
    cases h2 : h.drain.attempt cpu order t false low with
    | none => rw [h2] at he; cases he
    | some r =>
      rw [h2] at he
      simp only [Option.some.injEq, Prod.mk.injEq] at he
      obtain ⟨rfl, rfl⟩ := he
      obtain ⟨d1, d2, d3, d4, d5⟩ := hk.drain
      have hmd : ∀ i, m i ≤ h.drain.min i := fun i => by
        have := hm i
        unfold Hp.min at this ⊢
        rw [d3.m0, d3.m1]
        exact this
      exact (attempt_held d1.zk (drain_held hk hh) ho ht hmd h2).2
end Go.Proofs.YtkcaheebaicinaaGreatDoor
/- Contracts of package boot: end, CheckRegion, list, Check. -/
namespace Go.Proofs.YtkcaheebaicinaaGreatDoor
open Go.RowKit
set_option linter.unusedVariables false

structure Rg where
  f : Int
  s : Int
deriving DecidableEq

def encRg (r : Rg) : List Value := [vI r.f, vI r.s]
theorem encRg_length (r : Rg) : (encRg r).length = 2 := rfl
def aggRg (r : Rg) : Value := .agg #[.int .i64 r.f, .int .i64 r.s]
def Rg.fin (r : Rg) : Int := r.f + r.s
/-- numbers of a region that no sum leaves -/
def Rg.small (r : Rg) : Prop := -4611686018427387904 ≤ r.f ∧ r.f ≤ 4611686018427387903 ∧ -4611686018427387904 ≤ r.s ∧ r.s ≤ 4611686018427387903

theorem end_any (r : Rg) (w : World) (h : r.small) :
    Calls Tryz.prog 92 #[.agg #[.int .i64 r.f, .int .i64 r.s]] w fun e w' => e = .returned (.int .i64 (r.f + r.s)) ∧ Below w.heap.size w w' := by
  obtain ⟨h1, h2, h3, h4⟩ := h
  go_enter Tryz.func92, Tryz.ntmps92
  go_wp2
  go_ret
  exact ⟨rfl, (Below.refl _ _).alloc (Nat.le_refl _) _⟩

def ckRg (r : Rg) : Bool := decide (0 ≤ r.f ∧ 1 ≤ r.s ∧ r.s ≤ 256 ∧ r.f ≤ 256 - r.s)

theorem ck_parts {r : Rg} (h : ckRg r = true) : 0 ≤ r.f ∧ 1 ≤ r.s ∧ r.s ≤ 256 ∧ r.f ≤ 256 - r.s := of_decide_eq_true h

theorem checkRegion_ok (r : Rg) (w : World) (h : ckRg r = true) :
    Calls Tryz.prog 122 #[.agg #[.int .i64 r.f, .int .i64 r.s]] w fun e w' => e = .returned (.int .i64 0) ∧ Below w.heap.size w w' := by
  obtain ⟨h1, h2, h3, h4⟩ := ck_parts h
  clear h
  go_enter Tryz.func122, Tryz.ntmps122
  go_wp2
  go_ret
  exact ⟨rfl, (Below.refl _ _).alloc (Nat.le_refl _) _⟩

theorem checkRegion_bad (r : Rg) (w : World) (h : ckRg r = false) :
    Calls Tryz.prog 122 #[.agg #[.int .i64 r.f, .int .i64 r.s]] w fun e w' => e = .returned (.int .i64 1) ∧ Below w.heap.size w w' := by
  obtain ⟨f, s⟩ := r
  have h' := of_decide_eq_false h
  simp only at h' ⊢
  clear h
  by_cases h1 : 0 ≤ f
  · by_cases h2 : 1 ≤ s
    · by_cases h3 : s ≤ 256
      · have h4 : 256 - s < f := by omega
        clear h'
        go_enter Tryz.func122, Tryz.ntmps122
        go_wp2
        go_ret
        exact ⟨rfl, (Below.refl _ _).alloc (Nat.le_refl _) _⟩
      · clear h'
        go_enter Tryz.func122, Tryz.ntmps122
        go_wp2
        go_ret
        exact ⟨rfl, (Below.refl _ _).alloc (Nat.le_refl _) _⟩
    · clear h'
      go_enter Tryz.func122, Tryz.ntmps122
      go_wp2
      go_ret
      exact ⟨rfl, (Below.refl _ _).alloc (Nat.le_refl _) _⟩
  · clear h'
    go_enter Tryz.func122, Tryz.ntmps122
    go_wp2
    go_ret
    exact ⟨rfl, (Below.refl _ _).alloc (Nat.le_refl _) _⟩

/-! ## list: do regions rise, without touching? -/
def rgPair : Option Rg → Rg → Bool
  | none, _ => true
  | some p, r => decide (p.f + p.s < r.f)

/-- regions that may be, one behind the other, from behind a first one on -/
def rgFrom : Option Rg → List Rg → Bool
  | _, [] => true
  | p, r :: l => ckRg r && rgPair p r && rgFrom (some r) l

def listOk (l : List Rg) : Bool := decide (l.length ≤ 40) && rgFrom none l

theorem rgFrom_split : ∀ (l : List Rg) (p : Option Rg) (k : Nat), rgFrom p l = (rgFrom p (l.take k) && rgFrom ((l.take k).getLast?.or p) (l.drop k))
  | [], p, k => by simp [rgFrom]
  | r :: l, p, 0 => by simp [rgFrom]
  | r :: l, p, k + 1 => by
    rw [List.take_succ_cons, List.drop_succ_cons, rgFrom, rgFrom, rgFrom_split l (some r) k, ← Bool.and_assoc]
    congr 2
    cases h : l.take k with
    | nil => simp
    | cons x t => simp [List.getLast?_cons]

/-- round k of the check: what is said of the k-th region -/
def rgAt (l : List Rg) (k : Nat) (r : Rg) : Bool := ckRg r && rgPair (l[k - 1]?.bind fun p => if k = 0 then none else some p) r

theorem rgFrom_succ (l : List Rg) (k : Nat) (hk : k < l.length) : rgFrom none (l.take (k + 1)) = (rgFrom none (l.take k) && rgAt l k l[k]) := by
  rw [List.take_succ_eq_append_getElem hk, rgFrom_split (l.take k ++ [l[k]]) none k]
  have hl : (l.take k).length = k := by rw [List.length_take]; omega
  rw [List.take_left' hl, List.drop_left' hl]
  congr 1
  have e : ((l.take k).getLast?.or none) = (l[k - 1]?.bind fun p => if k = 0 then none else some p) := by
    rcases k with _ | k
    · simp
    · rw [List.getLast?_eq_getElem?, hl]
      simp
  rw [e]
  simp [rgFrom, rgAt]

theorem list_any (a : Option Addr) (cap : Nat) (l : List Rg) (w : World) (hl : l.length ≤ 9223372036854775807) (hr : Row w a (flat encRg l)) (hs : ∀ r ∈ l, r.small) :
    Calls Tryz.prog 91 #[.slice a l.length cap] w fun e w' => e = .returned (.bool (listOk l)) ∧ Below w.heap.size w w' := by
  by_cases hlen : l.length ≤ 40
  · have hb0 : decide (40 < (l.length : Int)) = false := decide_eq_false (by omega)
    have hE : listOk l = rgFrom none l := by simp [listOk, hlen]
    have HE := Hid.mk hE
    clear hE
    go_enter Tryz.func91, Tryz.ntmps91
    go_wp2
    go_loopw [3, 4, 10] (fun _ _ s10 wr => ∃ k : Nat, k ≤ l.length ∧ s10 = .int .i64 k ∧ Hid (rgFrom none (l.take k) = true) ∧ Below w.heap.size w wr) (fun _ _ s10 _ => l.length - (intOf s10).toNat)
    case atStart => exact ⟨0, Nat.zero_le _, rfl, by simp [Hid, rgFrom], Below.refl _ _⟩
    case round =>
      obtain ⟨k, hk, rfl, hok, hbw⟩ := hrel
      by_cases hlt : k < l.length
      · obtain ⟨b, off, rfl, hb, hc⟩ := row_elem encRg_length (by decide) (hr.below hbw) hlt
        have hc0 := hc 0 (vI l[k].f) rfl
        have hc1 := hc 1 (vI l[k].s) rfl
        simp only [vI, Nat.add_zero] at hc0 hc1
        go_wp2_with fail
        have h10 : (wr.alloc (.cells #[.int .i64 l[k].f, .int .i64 l[k].s] 24)).cell? ⟨wr.heap.size, 0, none⟩ = some (.int .i64 l[k].f) := by simp [go_sem]
        have h11 : (wr.alloc (.cells #[.int .i64 l[k].f, .int .i64 l[k].s] 24)).cell? ⟨wr.heap.size, 1, none⟩ = some (.int .i64 l[k].s) := by simp [go_sem]
        have hs1 : wr.heap.size < (wr.alloc (.cells #[.int .i64 l[k].f, .int .i64 l[k].s] 24)).heap.size := by simp
        have hb1 : Below w.heap.size w (wr.alloc (.cells #[.int .i64 l[k].f, .int .i64 l[k].s] 24)) := hbw.alloc hbw.size _
        clear hc hc0 hc1
        generalize wr.alloc (.cells #[.int .i64 l[k].f, .int .i64 l[k].s] 24) = w1 at *
        have hsucc := rgFrom_succ l k hlt
        rw [hok.out, Bool.true_and] at hsucc
        have HS := Hid.mk hsucc
        clear hsucc
        cases hck : ckRg l[k] with
        | false =>
          have hfalse : Hid (rgFrom none l = false) := by
            rw [Hid, rgFrom_split l none (k + 1), HS.out]
            simp [rgAt, hck]
          refine wp_region_ext_lit (by kernel_rfl) (by kernel_rfl) ?_
          repeat (first | go_big_quiet_step ((go_at_call 122; exact Calls.ext_of (checkRegion_bad l[k] _ hck))) | quiet_step ((go_at_call 122; exact Calls.ext_of (checkRegion_bad l[k] _ hck))))
          refine wpQuiet_nil ?_
          rintro _ ⟨wx, rfl⟩
          have hbx : Below w.heap.size w (ext w1 wx) := Below.step hb1 (ext_below w1 wx)
          go_wp2
          go_ret
          exact ⟨ret_bool (by rw [HE.out, hfalse.out]), hbx⟩
        | true =>
          by_cases hk0 : 0 < k
          · have hd : decide (0 < (k : Int)) = true := decide_eq_true (by omega)
            have hkk : k - 1 < l.length := by omega
            have hsp := hs l[k - 1] (List.getElem_mem hkk)
            obtain ⟨b', off', e', hb', hc'⟩ := row_elem encRg_length (by decide) (hr.below hb1) hkk
            obtain ⟨rfl, rfl⟩ : b = b' ∧ off = off' := by simpa using e'
            have hc0 := hc' 0 (vI l[k - 1].f) rfl
            have hc1 := hc' 1 (vI l[k - 1].s) rfl
            simp only [vI, Nat.add_zero] at hc0 hc1
            clear hc' e'
            have hi1 : 0 ≤ (k : Int) - 1 := by omega
            have hi2 : (k : Int) - 1 < (l.length : Int) := by omega
            have hi3 : ((k : Int) - 1).toNat = k - 1 := by omega
            have hi4 : IntKind.i64.wrap ((k : Int) - 1) = (k : Int) - 1 := IntWalk.i64_in _ (by omega)
            cases hp : decide (l[k].f ≤ l[k - 1].f + l[k - 1].s) with
            | true =>
              refine wp_region_ext_lit (by kernel_rfl) (by kernel_rfl) ?_
              repeat (first | go_big_quiet_step ((first | (go_at_call 122; exact Calls.ext_of (checkRegion_ok l[k] _ hck)) | (go_at_call 92; exact Calls.ext_of (end_any l[k - 1] _ hsp)))) | quiet_step ((first | (go_at_call 122; exact Calls.ext_of (checkRegion_ok l[k] _ hck)) | (go_at_call 92; exact Calls.ext_of (end_any l[k - 1] _ hsp)))))
              refine wpQuiet_nil ?_
              rintro _ ⟨wx, rfl⟩
              have hbx : Below w.heap.size w (ext w1 wx) := Below.step hb1 (ext_below w1 wx)
              have hfalse : Hid (rgFrom none l = false) := by
                have hp' := of_decide_eq_true hp
                rw [Hid, rgFrom_split l none (k + 1), HS.out]
                have : rgAt l k l[k] = false := by
                  unfold rgAt
                  rw [hck, Bool.true_and, List.getElem?_eq_getElem hkk, Option.bind_some, if_neg (by omega)]
                  exact decide_eq_false (by omega)
                rw [this, Bool.false_and]
              go_wp2
              go_ret
              exact ⟨ret_bool (by rw [HE.out, hfalse.out]), hbx⟩
            | false =>
              have htrue : Hid (rgFrom none (l.take (k + 1)) = true) := by
                have hp' := of_decide_eq_false hp
                rw [Hid, HS.out]
                unfold rgAt
                rw [hck, Bool.true_and, List.getElem?_eq_getElem hkk, Option.bind_some, if_neg (by omega)]
                exact decide_eq_true (by omega)
              refine wp_region_ext_lit (by kernel_rfl) (by kernel_rfl) ?_
              repeat (first | go_big_quiet_step ((first | (go_at_call 122; exact Calls.ext_of (checkRegion_ok l[k] _ hck)) | (go_at_call 92; exact Calls.ext_of (end_any l[k - 1] _ hsp)))) | quiet_step ((first | (go_at_call 122; exact Calls.ext_of (checkRegion_ok l[k] _ hck)) | (go_at_call 92; exact Calls.ext_of (end_any l[k - 1] _ hsp)))))
              refine wpQuiet_nil ?_
              rintro _ ⟨wx, rfl⟩
              have hbx : Below w.heap.size w (ext w1 wx) := Below.step hb1 (ext_below w1 wx)
              go_wp2
              go_roundw
              case rel => exact ⟨k + 1, by omega, by go_num, htrue.out, hbx⟩
              case measure => simp [intOf]; omega
          · have hd : decide (0 < (k : Int)) = false := decide_eq_false (by omega)
            have htrue : Hid (rgFrom none (l.take (k + 1)) = true) := by
              obtain rfl : k = 0 := by omega
              rw [Hid, HS.out]; unfold rgAt; rw [hck, Bool.true_and]
              cases l[0 - 1]? <;> rfl
            refine wp_region_ext_lit (by kernel_rfl) (by kernel_rfl) ?_
            repeat (first | go_big_quiet_step ((go_at_call 122; exact Calls.ext_of (checkRegion_ok l[k] _ hck))) | quiet_step ((go_at_call 122; exact Calls.ext_of (checkRegion_ok l[k] _ hck))))
            refine wpQuiet_nil ?_
            rintro _ ⟨wx, rfl⟩
            have hbx : Below w.heap.size w (ext w1 wx) := Below.step hb1 (ext_below w1 wx)
            go_wp2
            go_roundw
            case rel => exact ⟨k + 1, by omega, by go_num, htrue.out, hbx⟩
            case measure => simp [intOf]; omega
      · obtain rfl : k = l.length := by omega
        have htrue : Hid (rgFrom none l = true) := by rw [List.take_of_length_le (Nat.le_refl _)] at hok; exact hok
        clear hok
        go_wp2
        go_ret
        exact ⟨ret_bool (by rw [HE.out, htrue.out]), hbw⟩
  · have hb0 : decide (40 < (l.length : Int)) = true := decide_eq_true (by omega)
    have hE : Hid (listOk l = false) := by unfold Hid listOk; rw [decide_eq_false hlen, Bool.false_and]
    go_enter Tryz.func91, Tryz.ntmps91
    go_wp2
    go_ret
    exact ⟨ret_bool hE.out.symm, Below.refl _ _⟩

/-- list's contract, the length apart -/
theorem list_n (a : Option Addr) (n cap : Nat) (l : List Rg) (w : World) (hn : l.length = n) (hl : n ≤ 9223372036854775807) (hr : Row w a (flat encRg l)) (hs : ∀ r ∈ l, r.small) (b : Bool) (hb : listOk l = b) :
    Calls Tryz.prog 91 #[.slice a n cap] w fun e w' => e = .returned (.bool b) ∧ Below w.heap.size w w' := by
  subst hn; subst hb
  exact list_any a cap l w hl hr hs

/-! ## Check -/
theorem bootCheck_ok (a1 a2 : Option Addr) (n1 n2 c1 c2 : Nat) (m r : List Rg) (w : World) (hn1 : m.length = n1) (hn2 : r.length = n2) (hl1 : n1 ≤ 9223372036854775807) (hl2 : n2 ≤ 9223372036854775807) (hr1 : Row w a1 (flat encRg m)) (hr2 : Row w a2 (flat encRg r)) (hs1 : ∀ x ∈ m, x.small) (hs2 : ∀ x ∈ r, x.small) (h1 : listOk m = true) (h2 : listOk r = true) :
    Calls Tryz.prog 50 #[.agg #[.slice a1 n1 c1, .slice a2 n2 c2]] w fun e w' => e = .returned (.int .i64 0) ∧ Below w.heap.size w w' := by
  have hal : Below w.heap.size w (w.alloc (.cells #[.slice a1 n1 c1, .slice a2 n2 c2] 27)) := below_alloc _ _
  have hr1' := hr1.below hal
  have hr2' := hr2.below hal
  clear hr1 hr2
  go_enter Tryz.func50, Tryz.ntmps50
  go_wp2_with fail
  refine (list_n _ _ _ m _ hn1 hl1 hr1' hs1 true h1).mono ?_
  rintro e w1 ⟨rfl, hb1⟩
  have B1 := box_call hb1
  go_wp2_with fail
  refine (list_n _ _ _ r _ hn2 hl2 (hr2'.below hb1) hs2 true h2).mono ?_
  rintro e w2 ⟨rfl, hb2⟩
  go_wp2
  go_ret
  exact ⟨rfl, Below.step hal (Below.step hb1 hb2)⟩
end Go.Proofs.YtkcaheebaicinaaGreatDoor
/- Pages that are given one by one to a zone that has others. No program in sight. -/
namespace Go.Proofs.YtkcaheebaicinaaGreatDoor
set_option linter.unusedVariables false
theorem giveG_ok {z : Zn} {p n : Nat} (h : z.ok) (hd : ∀ q, p ≤ q → q < p + n → ¬ covL z.l q) (hp : z.f ≤ p) (hn : p + n ≤ z.e) : ∀ i, i ≤ n → (giveTo z p i).ok ∧ (giveTo z p i).f = z.f ∧ (giveTo z p i).e = z.e ∧ ∀ q, covL (giveTo z p i).l q ↔ (covL z.l q ∨ (p ≤ q ∧ q < p + i))
  | 0, _ => ⟨h, rfl, rfl, fun q => by
      show covL z.l q ↔ _
      constructor
      · exact .inl
      · rintro (h | h)
        · exact h
        · omega⟩
  | i + 1, hi => by
    obtain ⟨g1, g2, g3, g4⟩ := giveG_ok h hd hp hn i (by omega)
    have hfit : fitsB (giveTo z p i).f (giveTo z p i).e (p + i) 0 := by rw [g2, g3]; exact ⟨by omega, by omega, by omega, by simp [Nat.mod_one]⟩
    have hap : ∀ x ∈ (giveTo z p i).l, apartB (p + i) 0 x := fun x hx => apart_of_disj fun q hq hxq => by
      unfold inB at hq
      simp only [Nat.pow_zero] at hq
      rcases (g4 q).1 ⟨x, hx, hxq⟩ with h1 | h1
      · exact hd q (by omega) (by omega) h1
      · omega
    obtain ⟨k1, k2⟩ := Zn.back_ok g1 hfit hap
    refine ⟨k1, g2, g3, fun q => ?_⟩
    show covL ((giveTo z p i).back (p + i) 0).l q ↔ _
    rw [k2, g4]
    unfold inB
    simp only [Nat.pow_zero, or_assoc]
    constructor
    · rintro (h | h | h)
      · exact .inl h
      · exact .inr (by omega)
      · exact .inr (by omega)
    · rintro (h | h)
      · exact .inl h
      · exact .inr (by omega)
theorem giveG_step {z : Zn} {p n i : Nat} (h : z.ok) (hd : ∀ q, p ≤ q → q < p + n → ¬ covL z.l q) (hp : z.f ≤ p) (hn : p + n ≤ z.e) (hi : i < n) : fitsB (giveTo z p i).f (giveTo z p i).e (p + i) 0 ∧ ∀ x ∈ (giveTo z p i).l, apartB (p + i) 0 x := by
  obtain ⟨g1, g2, g3, g4⟩ := giveG_ok h hd hp hn i (by omega)
  refine ⟨by rw [g2, g3]; exact ⟨by omega, by omega, by omega, by simp [Nat.mod_one]⟩, fun x hx => apart_of_disj fun q hq hxq => ?_⟩
  unfold inB at hq
  simp only [Nat.pow_zero] at hq
  rcases (g4 q).1 ⟨x, hx, hxq⟩ with h1 | h1
  · exact hd q (by omega) (by omega) h1
  · omega
end Go.Proofs.YtkcaheebaicinaaGreatDoor
