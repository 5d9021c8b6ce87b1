/- Plain facts on regions: the regions of a set of pages, in their one form. -/
import Derived.Test.YteonmoncofcajaaBoot2
namespace Go.Proofs.Yteonmoncofcajaa

/-- one page more behind the regions of those below it -/
def regPush (l : List Rg) (i : Nat) : List Rg :=
  match l.getLast? with
  | some r => if r.f + r.s = i then l.dropLast ++ [⟨r.f, r.s + 1⟩] else l ++ [⟨i, 1⟩]
  | none => [⟨i, 1⟩]

def regTo (f : Nat → Bool) : Nat → List Rg
  | 0 => []
  | i + 1 => if f i then regPush (regTo f i) i else regTo f i

def regionsOf (f : Nat → Bool) : List Rg := regTo f 256

/-- what holds of the regions of the pages below i -/
structure RegInv (f : Nat → Bool) (i : Nat) (l : List Rg) : Prop where
  chain : ∀ k (h : k + 1 < l.length), (l[k]'(by omega)).f + (l[k]'(by omega)).s < l[k + 1].f
  low : ∀ r ∈ l, 0 ≤ r.f ∧ 1 ≤ r.s ∧ r.f + r.s ≤ i
  mem : ∀ p, inRg l p = (decide (p < i) && f p)

theorem inRg_append (l m : List Rg) (p : Nat) : inRg (l ++ m) p = (inRg l p || inRg m p) := by simp [inRg]
theorem inRg_one (r : Rg) (p : Nat) : inRg [r] p = inOne r p := by simp [inRg]

theorem regPush_inv {f : Nat → Bool} {i : Nat} {l : List Rg} (h : RegInv f i l) (hf : f i = true) : RegInv f (i + 1) (regPush l i) := by
  unfold regPush
  rcases List.eq_nil_or_concat l with rfl | ⟨L, r, rfl⟩
  · refine ⟨fun k hk => by simp at hk, fun r hr => ?_, fun p => ?_⟩
    · simp only [List.getLast?_nil, List.mem_singleton] at hr; subst hr; simp only; omega
    · have hm := h.mem p
      simp only [inRg, List.any_nil] at hm
      show inRg [⟨i, 1⟩] p = _
      rw [inRg_one]
      unfold inOne
      by_cases e : p = i
      · subst e; simp [hf]; omega
      · rw [decide_eq_false (by simp only; omega)]
        by_cases h1 : p < i
        · rw [decide_eq_true h1, Bool.true_and] at hm; rw [← hm]; simp
        · rw [decide_eq_false (by omega)]; simp
  · simp only [List.concat_eq_append, List.getLast?_concat, List.dropLast_concat]
    rw [List.concat_eq_append] at h
    have hrl := h.low r (by simp)
    by_cases e : r.f + r.s = i
    · rw [if_pos e]
      refine ⟨fun k hk => ?_, fun x hx => ?_, fun p => ?_⟩
      · have hc := h.chain k (by simpa using hk)
        simp only [List.length_append, List.length_cons, List.length_nil] at hk
        by_cases hkl : k + 1 < L.length
        · rw [List.getElem_append_left (by omega), List.getElem_append_left hkl] at hc ⊢; exact hc
        · have e1 : ∀ (x : Rg) (h : k + 1 < (L ++ [x]).length), (L ++ [x])[k + 1] = x := fun x h => by rw [List.getElem_append_right (by omega)]; simp
          rw [List.getElem_append_left (by omega), e1] at hc ⊢
          exact hc
      · rw [List.mem_append, List.mem_singleton] at hx
        rcases hx with hx | rfl
        · have := h.low x (by simp [hx]); omega
        · simp only; omega
      · have hm := h.mem p
        rw [inRg_append, inRg_one] at hm ⊢
        by_cases ep : p = i
        · subst ep
          rw [show inOne ⟨r.f, r.s + 1⟩ p = true from decide_eq_true (by simp only; omega), hf]; simp
        · rw [show inOne ⟨r.f, r.s + 1⟩ p = inOne r p from decide_eq_decide.2 (by simp only; omega), hm, decide_eq_decide.2 (show p < i ↔ p < i + 1 by omega)]
    · rw [if_neg e]
      refine ⟨fun k hk => ?_, fun x hx => ?_, fun p => ?_⟩
      · simp only [List.length_append, List.length_cons, List.length_nil] at hk
        by_cases hkl : k + 1 < (L ++ [r]).length
        · rw [List.getElem_append_left (by omega), List.getElem_append_left hkl]; exact h.chain k hkl
        · have hkk : k = L.length := by simp only [List.length_append, List.length_cons, List.length_nil] at hkl; omega
          subst hkk
          rw [List.getElem_append_left (by simp), List.getElem_append_right (by simp)]
          simp; omega
      · rw [List.mem_append, List.mem_singleton] at hx
        rcases hx with hx | rfl
        · have := h.low x hx; omega
        · simp only; omega
      · have hm := h.mem p
        rw [inRg_append, hm, inRg_one]
        unfold inOne
        by_cases ep : p = i
        · subst ep; simp [hf]; omega
        · rw [decide_eq_false (show ¬ ((i : Int) ≤ (p : Int) ∧ (p : Int) < (i : Int) + 1) by omega), Bool.or_false, decide_eq_decide.2 (show p < i ↔ p < i + 1 by omega)]

theorem regTo_inv (f : Nat → Bool) : ∀ i, RegInv f i (regTo f i)
  | 0 => ⟨fun k hk => by simp [regTo] at hk, fun r hr => by simp [regTo] at hr, fun p => by simp [regTo, inRg]⟩
  | i + 1 => by
    unfold regTo
    have ih := regTo_inv f i
    cases hf : f i with
    | true => rw [if_pos rfl]; exact regPush_inv ih hf
    | false =>
      rw [if_neg (by simp)]
      refine ⟨ih.chain, fun r hr => by have := ih.low r hr; omega, fun p => ?_⟩
      rw [ih.mem]
      by_cases e : p = i
      · subst e; simp [hf]
      · rw [decide_eq_decide.2 (show p < i ↔ p < i + 1 by omega)]

theorem rgFrom_of_chain : ∀ (l : List Rg) (p : Option Rg), (∀ r ∈ l, ckRg r = true) → (∀ k (h : k + 1 < l.length), (l[k]'(by omega)).f + (l[k]'(by omega)).s < l[k + 1].f) → (∀ r q, l.head? = some r → p = some q → q.f + q.s < r.f) → rgFrom p l = true
  | [], _, _, _, _ => rfl
  | r :: l, p, h1, h2, h3 => by
    unfold rgFrom
    rw [h1 r (by simp), Bool.true_and]
    rw [rgFrom_of_chain l (some r) (fun x hx => h1 x (by simp [hx])) (fun k hk => h2 (k + 1) (by simpa using hk)) (fun x q hx hq => by
      obtain rfl : r = q := by simpa using hq
      cases l with
      | nil => simp at hx
      | cons y l =>
        obtain rfl : y = x := by simpa using hx
        exact h2 0 (by simp)), Bool.and_true]
    cases p with
    | none => rfl
    | some q => exact decide_eq_true (h3 r q rfl rfl)

theorem regionsOf_ck (f : Nat → Bool) : ∀ r ∈ regionsOf f, ckRg r = true := fun r hr => by
  have := (regTo_inv f 256).low r hr
  exact decide_eq_true (by omega)
theorem regionsOf_from (f : Nat → Bool) : rgFrom none (regionsOf f) = true :=
  rgFrom_of_chain _ none (regionsOf_ck f) (regTo_inv f 256).chain (fun _ _ _ h => by cases h)
theorem regionsOf_ok (f : Nat → Bool) (h : (regionsOf f).length ≤ 40) : listOk (regionsOf f) = true := by
  unfold listOk
  rw [decide_eq_true h, regionsOf_from, Bool.true_and]
theorem regionsOf_mem (f : Nat → Bool) (p : Nat) (hp : p < 256) : inRg (regionsOf f) p = f p := by
  rw [regionsOf, (regTo_inv f 256).mem p, decide_eq_true hp, Bool.true_and]
theorem regionsOf_out (f : Nat → Bool) (p : Nat) (hp : 256 ≤ p) : inRg (regionsOf f) p = false := by
  rw [regionsOf, (regTo_inv f 256).mem p, decide_eq_false (by omega), Bool.false_and]
theorem regTo_congr {f g : Nat → Bool} : ∀ i, (∀ p, p < i → f p = g p) → regTo f i = regTo g i
  | 0, _ => rfl
  | i + 1, h => by
    unfold regTo
    rw [h i (by omega), regTo_congr i fun p hp => h p (by omega)]
theorem regionsOf_congr {f g : Nat → Bool} (h : ∀ p, p < 256 → f p = g p) : regionsOf f = regionsOf g := regTo_congr 256 h

/-! ## How many regions -/
def startB (f : Nat → Bool) (p : Nat) : Bool := f p && !(decide (0 < p) && f (p - 1))
def starts (f : Nat → Bool) : Nat → Nat
  | 0 => 0
  | i + 1 => starts f i + if startB f i then 1 else 0

theorem regPush_last (l : List Rg) (i : Nat) : ∃ r, (regPush l i).getLast? = some r ∧ r.f + r.s = (i : Int) + 1 := by
  unfold regPush
  split
  · split
    · rename_i r hr e
      exact ⟨_, List.getLast?_concat .., by simp only; omega⟩
    · exact ⟨_, List.getLast?_concat .., rfl⟩
  · exact ⟨_, rfl, rfl⟩

theorem last_fin (f : Nat → Bool) (i : Nat) : (∃ r, (regTo f i).getLast? = some r ∧ r.f + r.s = (i : Int)) ↔ (0 < i ∧ f (i - 1) = true) := by
  rcases i with _ | i
  · simp [regTo]
  · rw [Nat.add_sub_cancel]
    unfold regTo
    cases hf : f i with
    | true =>
      rw [if_pos rfl]
      obtain ⟨r, h1, h2⟩ := regPush_last (regTo f i) i
      exact ⟨fun _ => ⟨by omega, rfl⟩, fun _ => ⟨r, h1, by omega⟩⟩
    | false =>
      rw [if_neg (by simp)]
      constructor
      · rintro ⟨r, h1, h2⟩
        have := (regTo_inv f i).low r (List.mem_of_getLast? h1)
        omega
      · rintro ⟨_, h⟩; cases h

theorem regTo_length (f : Nat → Bool) : ∀ i, (regTo f i).length = starts f i
  | 0 => rfl
  | i + 1 => by
    have ih := regTo_length f i
    have hl := last_fin f i
    unfold regTo starts startB
    cases hf : f i with
    | false => rw [if_neg (by simp), ih, Bool.false_and]; rfl
    | true =>
      rw [if_pos rfl, Bool.true_and]
      unfold regPush
      split
      · rename_i r hr
        by_cases e : r.f + r.s = (i : Int)
        · rw [if_pos e]
          obtain ⟨h0, h1⟩ := hl.1 ⟨r, hr, e⟩
          rw [h1, decide_eq_true h0]
          have hne : regTo f i ≠ [] := by intro h; rw [h] at hr; cases hr
          have := List.length_pos_iff.2 hne
          simp [List.length_dropLast]; omega
        · rw [if_neg e]
          have hn : ¬ (0 < i ∧ f (i - 1) = true) := fun h => by
            obtain ⟨r', h1, h2⟩ := hl.2 h
            rw [hr] at h1; obtain rfl : r = r' := by simpa using h1
            exact e h2
          have hb : (decide (0 < i) && f (i - 1)) = false := by
            by_cases h0 : 0 < i
            · rw [decide_eq_true h0, Bool.true_and]
              cases h : f (i - 1) with
              | false => rfl
              | true => exact absurd ⟨h0, h⟩ hn
            · rw [decide_eq_false h0, Bool.false_and]
          rw [hb, List.length_append, ih]; rfl
      · rename_i hr
        rw [List.getLast?_eq_none_iff] at hr
        rw [hr] at ih hl
        have hn : ¬ (0 < i ∧ f (i - 1) = true) := fun h => by
          obtain ⟨r', h1, h2⟩ := hl.2 h
          cases h1
        have hb : (decide (0 < i) && f (i - 1)) = false := by
          by_cases h0 : 0 < i
          · rw [decide_eq_true h0, Bool.true_and]
            cases h : f (i - 1) with
            | false => rfl
            | true => exact absurd ⟨h0, h⟩ hn
          · rw [decide_eq_false h0, Bool.false_and]
        rw [hb, ← ih]; rfl

/-- marks from a on below b -/
def upd (f : Nat → Bool) (a b : Nat) (v : Bool) (p : Nat) : Bool := if a ≤ p ∧ p < b then v else f p

theorem startB_upd (f : Nat → Bool) (a b : Nat) (v : Bool) (hab : a < b) (p : Nat) : (if startB (upd f a b v) p then 1 else 0) ≤ (if startB f p then 1 else 0) + if p = (if v then a else b) then 1 else 0 := by
  have key : startB (upd f a b v) p = true → startB f p = true ∨ p = (if v then a else b) := by
    intro h
    unfold startB at h ⊢
    simp only [Bool.and_eq_true, Bool.not_eq_true', Bool.and_eq_false_iff, decide_eq_false_iff_not] at h ⊢
    obtain ⟨h1, h2⟩ := h
    unfold upd at h1 h2
    cases v with
    | true =>
      simp only [if_true] at h1 h2 ⊢
      by_cases hin : a ≤ p ∧ p < b
      · by_cases e : p = a
        · exact .inr e
        · exfalso
          rw [if_pos (by omega)] at h2
          rcases h2 with h2 | h2
          · omega
          · cases h2
      · rw [if_neg hin] at h1
        by_cases e : p = b
        · exfalso
          rw [if_pos (by omega)] at h2
          rcases h2 with h2 | h2
          · omega
          · cases h2
        · left
          refine ⟨h1, ?_⟩
          by_cases h0 : 0 < p
          · rw [if_neg (by omega)] at h2; exact h2
          · exact .inl h0
    | false =>
      simp only [Bool.false_eq_true, if_false] at h1 h2 ⊢
      by_cases hin : a ≤ p ∧ p < b
      · rw [if_pos hin] at h1; cases h1
      · rw [if_neg hin] at h1
        by_cases e : p = b
        · exact .inr e
        · left
          refine ⟨h1, ?_⟩
          by_cases h0 : 0 < p
          · rw [if_neg (by omega)] at h2; exact h2
          · exact .inl h0
  cases hs : startB (upd f a b v) p with
  | false => simp
  | true =>
    rcases key hs with h | h
    · rw [h]; simp
    · rw [if_pos h]; simp

theorem starts_upd (f : Nat → Bool) (a b : Nat) (v : Bool) (hab : a < b) : ∀ n, starts (upd f a b v) n ≤ starts f n + if (if v then a else b) < n then 1 else 0
  | 0 => by simp [starts]
  | n + 1 => by
    have ih := starts_upd f a b v hab n
    have h := startB_upd f a b v hab n
    unfold starts
    generalize (if v then a else b) = c at *
    by_cases h1 : n = c
    · subst h1
      have e1 : (if n < n then 1 else 0 : Nat) = 0 := if_neg (by omega)
      have e2 : (if n < n + 1 then 1 else 0 : Nat) = 1 := if_pos (by omega)
      rw [e1] at ih
      rw [if_pos rfl] at h
      rw [e2]; omega
    · rw [if_neg h1] at h
      by_cases h2 : c < n
      · have e1 : (if c < n then 1 else 0 : Nat) = 1 := if_pos h2
        have e2 : (if c < n + 1 then 1 else 0 : Nat) = 1 := if_pos (by omega)
        rw [e1] at ih; rw [e2]; omega
      · have e1 : (if c < n then 1 else 0 : Nat) = 0 := if_neg h2
        have e2 : (if c < n + 1 then 1 else 0 : Nat) = 0 := if_neg (by omega)
        rw [e1] at ih; rw [e2]; omega

theorem ite_le_one (c : Prop) [Decidable c] : (if c then 1 else 0 : Nat) ≤ 1 := by split <;> omega

theorem regionsOf_upd_len (f : Nat → Bool) (a b : Nat) (v : Bool) (hab : a < b) : (regionsOf (upd f a b v)).length ≤ (regionsOf f).length + 1 := by
  unfold regionsOf
  rw [regTo_length, regTo_length]
  have h1 := starts_upd f a b v hab 256
  have h2 := ite_le_one ((if v then a else b) < 256)
  omega

/-! ## Regions that may be are the regions of their pages -/
theorem rgFrom_low : ∀ (l : List Rg) (q : Rg), rgFrom (some q) l = true → ∀ r ∈ l, q.f + q.s < r.f
  | [], _, _, r, hr => by simp at hr
  | x :: l, q, h, r, hr => by
    simp only [rgFrom, Bool.and_eq_true] at h
    have hx : q.f + q.s < x.f := of_decide_eq_true h.1.2
    rcases List.mem_cons.1 hr with rfl | hr
    · exact hx
    · have h1 := rgFrom_low l x h.2 r hr
      have h2 := ck_parts h.1.1
      omega

theorem inRg_iff (l : List Rg) (p : Nat) : inRg l p = true ↔ ∃ r ∈ l, r.f ≤ (p : Int) ∧ (p : Int) < r.f + r.s := by
  unfold inRg inOne
  simp [List.any_eq_true]

theorem rg_unique : ∀ (l m : List Rg) (q q' : Option Rg), rgFrom q l = true → rgFrom q' m = true → (∀ p, inRg l p = inRg m p) → l = m
  | [], [], _, _, _, _, _ => rfl
  | [], y :: m, _, q', _, h2, h => by
    simp only [rgFrom, Bool.and_eq_true] at h2
    have hy := ck_parts h2.1.1
    obtain ⟨n, hn⟩ := Int.eq_ofNat_of_zero_le hy.1
    have : inRg (y :: m) n = true := (inRg_iff _ _).2 ⟨y, by simp, by omega, by omega⟩
    rw [← h n] at this
    simp [inRg] at this
  | x :: l, [], q, _, h1, _, h => by
    simp only [rgFrom, Bool.and_eq_true] at h1
    have hy := ck_parts h1.1.1
    obtain ⟨n, hn⟩ := Int.eq_ofNat_of_zero_le hy.1
    have : inRg (x :: l) n = true := (inRg_iff _ _).2 ⟨x, by simp, by omega, by omega⟩
    rw [h n] at this
    simp [inRg] at this
  | x :: l, y :: m, q, q', h1, h2, h => by
    simp only [rgFrom, Bool.and_eq_true] at h1 h2
    obtain ⟨⟨hx, _⟩, hl⟩ := h1
    obtain ⟨⟨hy, _⟩, hm⟩ := h2
    have px := ck_parts hx
    have py := ck_parts hy
    have lx := rgFrom_low l x hl
    have ly := rgFrom_low m y hm
    have lower : ∀ (z : Rg) (t : List Rg), 1 ≤ z.s → (∀ r ∈ t, z.f + z.s < r.f) → ∀ p : Nat, inRg (z :: t) p = true → z.f ≤ p := fun z t hz ht p hp => by
      obtain ⟨r, hr, h3, h4⟩ := (inRg_iff _ _).1 hp
      rcases List.mem_cons.1 hr with rfl | hr
      · exact h3
      · have := ht r hr; omega
    obtain ⟨n, hn⟩ := Int.eq_ofNat_of_zero_le px.1
    obtain ⟨n', hn'⟩ := Int.eq_ofNat_of_zero_le py.1
    have e1 : y.f ≤ x.f := by
      have : inRg (x :: l) n = true := (inRg_iff _ _).2 ⟨x, by simp, by omega, by omega⟩
      rw [h n] at this
      have := lower y m py.2.1 ly n this; omega
    have e2 : x.f ≤ y.f := by
      have : inRg (y :: m) n' = true := (inRg_iff _ _).2 ⟨y, by simp, by omega, by omega⟩
      rw [← h n'] at this
      have := lower x l px.2.1 lx n' this; omega
    have ef : x.f = y.f := by omega
    have gap : ∀ (z z' : Rg) (t t' : List Rg), z.f = z'.f → 0 ≤ z.f → 1 ≤ z.s → (∀ r ∈ t, z.f + z.s < r.f) → (∀ p, inRg (z :: t) p = inRg (z' :: t') p) → ¬ z.s < z'.s := fun z z' t t' hf h0 hs ht hpp hlt => by
      obtain ⟨k, hk⟩ := Int.eq_ofNat_of_zero_le (show 0 ≤ z.f + z.s by omega)
      have h3 : inRg (z' :: t') k = true := (inRg_iff _ _).2 ⟨z', by simp, by omega, by omega⟩
      rw [← hpp k] at h3
      obtain ⟨r, hr, h4, h5⟩ := (inRg_iff _ _).1 h3
      rcases List.mem_cons.1 hr with rfl | hr
      · omega
      · have := ht r hr; omega
    have es : x.s = y.s := by
      have g1 := gap x y l m ef px.1 px.2.1 lx h
      have g2 := gap y x m l ef.symm py.1 py.2.1 ly (fun p => (h p).symm)
      omega
    have exy : x = y := by
      obtain ⟨a, b⟩ := x; obtain ⟨c, d⟩ := y
      simp only at ef es; rw [ef, es]
    subst exy
    congr 1
    refine rg_unique l m (some x) (some x) hl hm fun p => ?_
    have hp := h p
    by_cases hin : x.f ≤ (p : Int) ∧ (p : Int) < x.f + x.s
    · have n1 : inRg l p = false := by
        rw [Bool.eq_false_iff]; intro hh
        obtain ⟨r, hr, h4, h5⟩ := (inRg_iff _ _).1 hh
        have := lx r hr; omega
      have n2 : inRg m p = false := by
        rw [Bool.eq_false_iff]; intro hh
        obtain ⟨r, hr, h4, h5⟩ := (inRg_iff _ _).1 hh
        have := ly r hr; omega
      rw [n1, n2]
    · have n0 : inOne x p = false := decide_eq_false hin
      simp only [inRg, List.any_cons] at hp ⊢
      rw [n0, Bool.false_or, Bool.false_or] at hp
      exact hp

theorem listOk_regions {l : List Rg} (h : listOk l = true) : l = regionsOf (inRg l) := by
  have hall := listOk_all h
  simp only [listOk, Bool.and_eq_true] at h
  refine rg_unique l _ none none h.2 (regionsOf_from _) fun p => ?_
  by_cases hp : p < 256
  · rw [regionsOf_mem _ p hp]
  · rw [regionsOf_out _ p (by omega), Bool.eq_false_iff]
    intro hh
    obtain ⟨r, hr, h4, h5⟩ := (inRg_iff _ _).1 hh
    have := ck_parts (hall r hr)
    omega
end Go.Proofs.Yteonmoncofcajaa
