/- Zones of pages in plain words: what holds while blocks are taken and come back. No program in sight. -/
import Derived.Test.YtbkajbjhffdlfaaDoorZn2
namespace Go.Proofs.YtbkajbjhffdlfaaDoor
set_option linter.unusedVariables false

theorem apart_of_disj {a o : Nat} {x : Bk} (h : ∀ p, inB a o p → ¬ inB x.a x.o p) : apartB a o x := by
  have h1 := pow_pos' o
  have h2 := pow_pos' x.o
  unfold apartB Bk.fin
  have h3 := h (max a x.a)
  unfold inB at h3
  omega
theorem disj_of_apart {a o : Nat} {x : Bk} (h : apartB a o x) (p : Nat) (hp : inB a o p) : ¬ inB x.a x.o p := by
  unfold apartB Bk.fin at h
  unfold inB at *
  omega

/-- what holds of a zone and of the blocks that are away -/
structure ZInv (lo hi : Nat) (z : Zn) (away : List Bk) : Prop where
  ok : z.ok
  fits : ∀ b ∈ away, fitsB z.f z.e b.a b.o
  apart : ∀ b ∈ away, ∀ x ∈ z.l, apartB b.a b.o x
  each : away.Pairwise fun b c => apartB b.a b.o c
  cov : ∀ p, (covL z.l p ∨ covL away p) ↔ (lo ≤ p ∧ p < hi)

theorem apart_symm {b c : Bk} (h : apartB b.a b.o c) : apartB c.a c.o b := by
  unfold apartB Bk.fin at *
  omega

theorem ZInv.take {lo hi : Nat} {z : Zn} {away : List Bk} (h : ZInv lo hi z away) {order at_ : Nat} {z' : Zn} (ht : Taken z order z' at_) (t : Nat) : ZInv lo hi z' (away ++ [⟨at_, order, t⟩]) := by
  obtain ⟨c, hc, hca, hco⟩ := ht.inside
  have hcov : ∀ p, inB at_ order p → covL z.l p := fun p hp => (ht.cov p).1 (.inr hp)
  have hcov2 : ∀ p, covL z'.l p → covL z.l p := fun p hp => (ht.cov p).1 (.inl hp)
  have hd : ∀ b ∈ away, ∀ p, inB b.a b.o p → ¬ covL z.l p := fun b hb p hp ⟨x, hx, hxp⟩ => disj_of_apart (h.apart b hb x hx) p hp hxp
  have hff : z'.f = z.f := ht.f
  have hee : z'.e = z.e := ht.e
  refine ⟨ht.ok, fun b hb => ?_, fun b hb x hx => ?_, ?_, fun p => ?_⟩
  · rw [hff, hee]
    rw [List.mem_append, List.mem_singleton] at hb
    rcases hb with hb | rfl
    · exact h.fits b hb
    · exact ht.fit
  · rw [List.mem_append, List.mem_singleton] at hb
    rcases hb with hb | rfl
    · exact apart_of_disj fun p hp hxp => hd b hb p hp (hcov2 p ⟨x, hx, hxp⟩)
    · exact ht.apart x hx
  · rw [List.pairwise_append]
    refine ⟨h.each, by simp, fun b hb c hc => ?_⟩
    rw [List.mem_singleton] at hc
    subst hc
    exact apart_of_disj fun p hp hcp => hd b hb p hp (hcov p hcp)
  · have h1 := h.cov p
    have h2 := ht.cov p
    have h3 : covL (away ++ [⟨at_, order, t⟩]) p ↔ (covL away p ∨ inB at_ order p) := by
      unfold covL
      constructor
      · rintro ⟨b, hb, hp⟩
        rw [List.mem_append, List.mem_singleton] at hb
        rcases hb with hb | rfl
        · exact .inl ⟨b, hb, hp⟩
        · exact .inr hp
      · rintro (⟨b, hb, hp⟩ | hp)
        · exact ⟨b, by simp [hb], hp⟩
        · exact ⟨⟨at_, order, t⟩, by simp, hp⟩
    rw [h3]
    constructor
    · rintro (h | h | h)
      · exact h1.1 (.inl (h2.1 (.inl h)))
      · exact h1.1 (.inr h)
      · exact h1.1 (.inl (h2.1 (.inr h)))
    · intro h
      rcases h1.2 h with h | h
      · rcases h2.2 h with h | h
        · exact .inl h
        · exact .inr (.inr h)
      · exact .inr (.inl h)

theorem ZInv.back {lo hi : Nat} {z : Zn} {away : List Bk} (h : ZInv lo hi z away) {k : Nat} (hk : k < away.length) : ZInv lo hi (z.back away[k].a away[k].o) (away.eraseIdx k) := by
  have hm : away[k] ∈ away := List.getElem_mem hk
  obtain ⟨g1, g2⟩ := z.back_ok h.ok (h.fits _ hm) (h.apart _ hm)
  have hmem : ∀ y, y ∈ away.eraseIdx k → y ∈ away ∧ apartB y.a y.o away[k] := fun y hy => by
    obtain ⟨j, hj, hne, rfl⟩ := List.mem_eraseIdx_iff_getElem.1 hy
    refine ⟨List.getElem_mem hj, ?_⟩
    rcases Nat.lt_or_ge j k with hlt | hge
    · exact List.pairwise_iff_getElem.1 h.each j k hj hk hlt
    · exact apart_symm (List.pairwise_iff_getElem.1 h.each k j hk hj (by omega))
  refine ⟨g1, fun b hb => h.fits b (hmem b hb).1, fun b hb x hx => ?_, h.each.sublist (List.eraseIdx_sublist _ _), fun p => ?_⟩
  · refine apart_of_disj fun p hp hxp => ?_
    rcases (g2 p).1 ⟨x, hx, hxp⟩ with ⟨y, hy, hyp⟩ | hyp
    · exact disj_of_apart (h.apart b (hmem b hb).1 y hy) p hp hyp
    · exact disj_of_apart (hmem b hb).2 p hp hyp
  · rw [g2 p, ← h.cov p]
    constructor
    · rintro ((h | h) | ⟨b, hb, hp⟩)
      · exact .inl h
      · exact .inr ⟨_, hm, h⟩
      · exact .inr ⟨b, (hmem b hb).1, hp⟩
    · rintro (h | ⟨b, hb, hp⟩)
      · exact .inl (.inl h)
      · obtain ⟨j, hj, rfl⟩ := List.getElem_of_mem hb
        by_cases hje : j = k
        · subst hje; exact .inl (.inr hp)
        · exact .inr ⟨_, List.mem_eraseIdx_iff_getElem.2 ⟨j, hj, hje, rfl⟩, hp⟩

/-! ## The zone that the laws begin with -/
def giveTo (z : Zn) (p : Nat) : Nat → Zn
  | 0 => z
  | n + 1 => (giveTo z p n).back (p + n) 0
def zone0 : Zn := ⟨16, 112, [], List.replicate 12 1⟩
def zone1 : Zn := giveTo zone0 18 90

theorem giveTo_ok {z : Zn} {p : Nat} (h : z.ok) (hl : z.l = []) (hp : z.f ≤ p) : ∀ n, p + n ≤ z.e → (giveTo z p n).ok ∧ (giveTo z p n).f = z.f ∧ (giveTo z p n).e = z.e ∧ ∀ q, covL (giveTo z p n).l q ↔ (p ≤ q ∧ q < p + n)
  | 0, _ => ⟨h, rfl, rfl, fun q => by
      show covL z.l q ↔ _
      rw [hl]
      constructor
      · rintro ⟨b, hb, _⟩; simp at hb
      · intro h; omega⟩
  | n + 1, hn => by
    obtain ⟨g1, g2, g3, g4⟩ := giveTo_ok h hl hp n (by omega)
    have hfit : fitsB (giveTo z p n).f (giveTo z p n).e (p + n) 0 := by rw [g2, g3]; exact ⟨by omega, by omega, by omega, by simp [Nat.mod_one]⟩
    have hap : ∀ x ∈ (giveTo z p n).l, apartB (p + n) 0 x := fun x hx => apart_of_disj fun q hq hxq => by
      have := (g4 q).1 ⟨x, hx, hxq⟩
      unfold inB at hq
      simp only [Nat.pow_zero] at hq
      omega
    obtain ⟨k1, k2⟩ := Zn.back_ok g1 hfit hap
    refine ⟨k1, g2, g3, fun q => ?_⟩
    show covL ((giveTo z p n).back (p + n) 0).l q ↔ _
    rw [k2, g4]
    unfold inB
    simp only [Nat.pow_zero]
    omega
theorem giveTo_step {z : Zn} {p : Nat} (h : z.ok) (hl : z.l = []) (hp : z.f ≤ p) {n : Nat} (hn : p + (n + 1) ≤ z.e) : fitsB (giveTo z p n).f (giveTo z p n).e (p + n) 0 ∧ ∀ x ∈ (giveTo z p n).l, apartB (p + n) 0 x := by
  obtain ⟨g1, g2, g3, g4⟩ := giveTo_ok h hl hp n (by omega)
  refine ⟨by rw [g2, g3]; exact ⟨by omega, by omega, by omega, by simp [Nat.mod_one]⟩, fun x hx => apart_of_disj fun q hq hxq => ?_⟩
  have := (g4 q).1 ⟨x, hx, hxq⟩
  unfold inB at hq
  simp only [Nat.pow_zero] at hq
  omega
theorem zone0_ok : zone0.ok := by decide +kernel
theorem zinv1 : ZInv 18 108 zone1 [] := by
  obtain ⟨g1, g2, g3, g4⟩ := giveTo_ok (p := 18) zone0_ok rfl (by decide) 90 (by decide)
  refine ⟨g1, by simp, by simp, by simp, fun p => ?_⟩
  have := g4 p
  constructor
  · rintro (h | ⟨b, hb, _⟩)
    · have := this.1 h; omega
    · simp at hb
  · intro h
    exact .inl (this.2 (by omega))
theorem zone1_is : zone1 = ⟨16, 112, [⟨18, 1, 1⟩, ⟨20, 2, 1⟩, ⟨24, 3, 1⟩, ⟨32, 4, 1⟩, ⟨48, 4, 1⟩, ⟨64, 4, 1⟩, ⟨80, 4, 1⟩, ⟨96, 3, 1⟩, ⟨104, 2, 1⟩], List.replicate 12 1⟩ := by decide +kernel

/-- one free block for each free page and order: the list has no more than 96 blocks -/
theorem OkL.length_le {f e : Nat} : ∀ {l : List Bk}, OkL f e l → (∀ b ∈ l, b.a < e) → l.length ≤ e
  | l, h, hb => by
    have hr := h.rise
    have : ∀ (l : List Bk) (n : Nat), Rise l → (∀ b ∈ l, n ≤ b.a ∧ b.a < e) → n ≤ e → l.length + n ≤ e := by
      intro l
      induction l with
      | nil => intro n _ _ hn; simp; exact hn
      | cons x l ih =>
        intro n hr hb hn
        have h1 := hb x (by simp)
        have hp := List.pairwise_cons.1 hr
        have := ih (x.a + 1) hp.2 (fun y hy => ⟨hp.1 y hy, (hb y (by simp [hy])).2⟩) (by omega)
        simp only [List.length_cons]
        omega
    have := this l 0 hr (fun b h => ⟨by omega, hb b h⟩) (by omega)
    omega
end Go.Proofs.YtbkajbjhffdlfaaDoor
