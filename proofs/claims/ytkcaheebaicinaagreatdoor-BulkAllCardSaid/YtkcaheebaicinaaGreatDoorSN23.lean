/- Hs6, Sb5, Rgs, Boot3: texts of this claim, joined. -/
import Derived.Test.YtkcaheebaicinaaGreatDoorSN19
import Derived.Test.YtkcaheebaicinaaGreatDoorSN20
import Derived.Test.YtkcaheebaicinaaGreatDoorSN22
/- The end of a call that answers a heap: its five words go into the result's box. No program in sight. -/
namespace Go.Proofs.YtkcaheebaicinaaGreatDoor
open Go.RowKit
set_option linter.unusedVariables false
/-- a heap whose parts all lie in memory from B on, and not in B itself -/
def HNew (W : World) (B : Nat) (h : Hp) (c : Hc) : Prop := HR W B (fun k => k < B) h c
theorem HNew.at {W : World} {B : Nat} {h : Hp} {c : Hc} (hs : HNew W B h c) : HAt W c.az c.am c.al c.av c.lc.length h.live.length c.y0 c.y1 c.lc h := HR.at hs
theorem ret5 {W0 W4 W : World} {B b G : Nat} {X : Nat → Prop} {h : Hp} {c : Hc} {a0 a1 a2 a3 a4 : Value} (hb : Below B W0 W4) (sf : Safe X W4 W) (hs : HS W G X h c) (K2 : ∀ o, W4.cell? ⟨b, o, none⟩ = (#[a0, a1, a2, a3, a4] : Array Value)[o]?) (F2 : ∀ o, W4.frozen? ⟨b, o, none⟩ = false) (hsz : b < W4.heap.size) (hX : X b) (hXB : ∀ k, k < B → X k) (hB : B ≤ W4.heap.size) (hbB : B ≤ b) (u0 u1 u2 u3 u4 : Value) :
    (W.cell? ⟨b, 0, none⟩ = some a0 ∧ W.cell? ⟨b, 1, none⟩ = some a1 ∧ W.cell? ⟨b, 2, none⟩ = some a2 ∧ W.cell? ⟨b, 3, none⟩ = some a3 ∧ W.cell? ⟨b, 4, none⟩ = some a4) ∧
    (W.frozen? ⟨b, 0, none⟩ = false ∧ W.frozen? ⟨b, 1, none⟩ = false ∧ W.frozen? ⟨b, 2, none⟩ = false ∧ W.frozen? ⟨b, 3, none⟩ = false ∧ W.frozen? ⟨b, 4, none⟩ = false) ∧
    HS (put5 W b u0 u1 u2 u3 u4) G X h c ∧ Below B W0 (put5 W b u0 u1 u2 u3 u4) ∧ ∀ o, (put5 W b u0 u1 u2 u3 u4).cell? ⟨b, o, none⟩ = (#[u0, u1, u2, u3, u4] : Array Value)[o]? := by
  have K := sf.box K2 hsz hX
  have F := sf.frz F2 hsz hX
  exact ⟨⟨K 0, K 1, K 2, K 3, K 4⟩, ⟨F 0, F 1, F 2, F 3, F 4⟩, ((((hs.far hX 0 u0).far hX 1 u1).far hX 2 u2).far hX 3 u3).far hX 4 u4, Below.setCell (Below.setCell (Below.setCell (Below.setCell (Below.setCell (Safe.after hb sf hXB hB) hbB u0) hbB u1) hbB u2) hbB u3) hbB u4, box_set (box_set (box_set (box_set (box_set K 0 u0) 1 u1) 2 u2) 3 u3) 4 u4⟩
end Go.Proofs.YtkcaheebaicinaaGreatDoor
/- Systems in memory; contracts of package slab: chain, named. -/
namespace Go.Proofs.YtkcaheebaicinaaGreatDoor
open Go.RowKit
set_option linter.unusedVariables false
set_option linter.unusedSimpArgs false

/-- where a system lies -/
structure Sc where
  a1 : Option Addr
  n1 : Nat
  c1 : Nat
  hc : Hc
  a2 : Option Addr
  c2 : Nat
  ys : List Cc
/-- a system in memory -/
structure SyAt (w : World) (v : Sc) (s : Sy) : Prop where
  lw : s.w.length = v.n1
  rw : Row w v.a1 (s.w.map vI)
  hh : HAt w v.hc.az v.hc.am v.hc.al v.hc.av v.hc.lc.length s.h.live.length v.hc.y0 v.hc.y1 v.hc.lc s.h
  rc : Row w v.a2 (flat encCc v.ys)
  cy : v.ys.map (·.c) = s.cs
  ca : ∀ y ∈ v.ys, CcAt w y
  kw : v.n1 ≤ v.c1
  kc : v.ys.length ≤ v.c2
theorem SyAt.below {w w' : World} {v : Sc} {s : Sy} (h : SyAt w v s) (hb : Below w.heap.size w w') : SyAt w' v s := ⟨h.lw, h.rw.below hb, h.hh.below hb, h.rc.below hb, h.cy, fun y hy => (h.ca y hy).below hb, h.kw, h.kc⟩
/-- its seven words -/
def Sc.vals (v : Sc) (s : Sy) : Array Value := #[.slice v.a1 v.n1 v.c1, .slice v.hc.az 2 v.hc.cz, .slice v.hc.am 2 v.hc.cm, .int .i64 (s.h.cpus : Int), .slice v.hc.al v.hc.lc.length v.hc.cl, .slice v.hc.av s.h.live.length v.hc.cv, .slice v.a2 v.ys.length v.c2]

set_option maxHeartbeats 8000000 in
set_option maxRecDepth 100000 in
/-- the chain of a slab that may be -/
theorem chain_sl (a1 az am al av a2 : Option Addr) (n1 c1 cz cm nl cl nv cv n2 c2 : Nat) (cpus : Int) (xs : List Int) (y : Cc) (x : Sl) (l : List Int) (w : World) (hn : xs.length = n1) (hn4 : n1 ≤ 4096) (hr : Row w a1 (xs.map vI))
    (hz : 1 ≤ y.c.z) (hrz : y.c.r * y.c.z ≤ 100000) (hp : x.p ≤ 1000) (hf : follow xs x.h y.c.r = some l) (hl : l.length = x.n) (ho : ∀ a ∈ l, objB y.c x.p a = true) (hlb : ∀ a ∈ l, 0 ≤ a ∧ a ≤ 1000000) (hxn : x.n ≤ 1000000) :
    Calls Tryz.prog 76 #[.agg #[.slice a1 n1 c1, .slice az 2 cz, .slice am 2 cm, .int .i64 cpus, .slice al nl cl, .slice av nv cv, .slice a2 n2 c2], .agg #[.slice y.a1 y.n1 y.c1, .int .i64 y.c.z, .int .i64 y.c.r, .int .i64 y.c.o, .slice y.a2 y.n2 y.c2, .slice y.a3 y.n3 y.c3], .agg #[.int .i64 x.p, .int .i64 x.n, .int .i64 x.h]] w fun ev w' => ∃ (a' : Option Addr) (c' : Nat), ev = .returned (.tuple #[.slice a' l.length c', .bool true]) ∧ Row w' a' (l.map vI) ∧ Below w.heap.size w w' := by
  obtain ⟨K0, K1, K2, F0, F1, F2, hsz, hbw⟩ := boxes3 w #[.slice a1 n1 c1, .slice az 2 cz, .slice am 2 cm, .int .i64 cpus, .slice al nl cl, .slice av nv cv, .slice a2 n2 c2] 38 #[.slice y.a1 y.n1 y.c1, .int .i64 (y.c.z : Int), .int .i64 (y.c.r : Int), .int .i64 (y.c.o : Int), .slice y.a2 y.n2 y.c2, .slice y.a3 y.n3 y.c3] 72 #[.int .i64 (x.p : Int), .int .i64 (x.n : Int), .int .i64 x.h] 87
  have eg : ∀ args w, (callFunc 110 args).run Tryz.prog w = .ok (.enter 110 args) w := enters_of Tryz.func110 (by kernel_rfl) rfl
  have k0 := K0 0
  have k1 := K1 2
  have k2 := K2 1
  have k3 := K2 2
  simp only [List.getElem?_toArray, List.getElem?_cons_zero, List.getElem?_cons_succ] at k0 k1 k2 k3
  have HR := Hid.mk (hr.below hbw)
  have HB := Hid.mk hbw
  have HEG := Hid.mk eg
  have HK1 := Hid.mk K1
  have HK2 := Hid.mk K2
  have HO := Hid.mk ho
  have HLB := Hid.mk hlb
  clear hr hbw eg K0 K1 K2 F0 F1 F2 ho hlb
  go_enter Tryz.func76, Tryz.ntmps76
  go_wp2_with fail
  generalize ((w.alloc (.cells #[.slice a1 n1 c1, .slice az 2 cz, .slice am 2 cm, .int .i64 cpus, .slice al nl cl, .slice av nv cv, .slice a2 n2 c2] 38)).alloc (.cells #[.slice y.a1 y.n1 y.c1, .int .i64 (y.c.z : Int), .int .i64 (y.c.r : Int), .int .i64 (y.c.o : Int), .slice y.a2 y.n2 y.c2, .slice y.a3 y.n3 y.c3] 72)).alloc (.cells #[.int .i64 (x.p : Int), .int .i64 (x.n : Int), .int .i64 x.h] 87) = w3 at *
  refine (follow_some a1 n1 c1 xs x.h y.c.r w3 hn (by omega) HR.out l hf).mono ?_
  rintro ev w4 ⟨a', c', rfl, hown, hb4⟩
  have HRL := Hid.mk (own_row hown)
  have K14 := box_step HK1.out (by omega) hb4
  have K24 := box_step HK2.out hsz hb4
  have hsz4 := Nat.lt_of_lt_of_le hsz hb4.size
  have n4 := K24 1
  simp only [List.getElem?_toArray, List.getElem?_cons_zero, List.getElem?_cons_succ] at n4
  have HB4 := Hid.mk (Below.step HB.out hb4)
  have hcont := containsFuncI a' l.length c' l 110 #[.pointer (some ⟨w.heap.size + 1, 0, none⟩), .pointer (some ⟨w.heap.size + 1 + 1, 0, none⟩)] (fun a => !objB y.c x.p a) w4 rfl (by omega) (by rw [flat_encI]; exact HRL.out) HEG.out (fun W hW a ha => chainC_ok y x a (w.heap.size + 1) (w.heap.size + 1 + 1) W hz hrz hp (by have := HLB.out a ha; omega) (by have := HLB.out a ha; omega) (by have := hW.size; omega) (Nat.lt_of_lt_of_le hsz4 hW.size) (box_step K14 (by omega) hW) (box_step K24 hsz4 hW))
  have hany : (l.any fun a => !objB y.c x.p a) = false := by
    rw [List.any_eq_false]
    intro a ha
    rw [HO.out a ha]
    decide
  rw [hany] at hcont
  have HC := Hid.mk hcont
  have hln : ((l.length : Int) == (x.n : Int)) = true := by rw [beq_iff_eq, hl]
  have hln2 : ((l.length : Int) != (x.n : Int)) = false := by rw [hl]; simp
  have HL := Hid.mk hl
  have hlb6 : l.length ≤ 1000000 := by omega
  clear hcont hany K14 K24 hown k0 k1 k2 k3 hb4 hl
  go_wp2_with (go_at_call 70; refine HC.out.mono ?_; rintro ev w5 ⟨rfl, hb5⟩)
  have HB5 := Hid.mk (Below.step HB4.out hb5)
  have HRL5 := Hid.mk (HRL.out.below hb5)
  go_ret2
  exact ⟨a', c', rfl, HRL5.out, HB5.out⟩
end Go.Proofs.YtkcaheebaicinaaGreatDoor
/- Plain facts on regions: the regions of a set of pages, in their one form. -/
namespace Go.Proofs.YtkcaheebaicinaaGreatDoor

/-- one page more behind the regions of those below it -/
def regPush (l : List Rg) (i : Nat) : List Rg :=
  match l.getLast? with
  | some r => if r.f + r.s = i then l.dropLast ++ [⟨r.f, r.s + 1⟩] else l ++ [⟨i, 1⟩]
  | none => [⟨i, 1⟩]

def regTo (f : Nat → Bool) : Nat → List Rg
  | 0 => []
  | i + 1 => if f i then regPush (regTo f i) i else regTo f i

def regionsOf (f : Nat → Bool) : List Rg := regTo f 256

/-- what holds of the regions of the pages below i -/
structure RegInv (f : Nat → Bool) (i : Nat) (l : List Rg) : Prop where
  chain : ∀ k (h : k + 1 < l.length), (l[k]'(by omega)).f + (l[k]'(by omega)).s < l[k + 1].f
  low : ∀ r ∈ l, 0 ≤ r.f ∧ 1 ≤ r.s ∧ r.f + r.s ≤ i
  mem : ∀ p, inRg l p = (decide (p < i) && f p)

theorem inRg_append (l m : List Rg) (p : Nat) : inRg (l ++ m) p = (inRg l p || inRg m p) := by simp [inRg]
theorem inRg_one (r : Rg) (p : Nat) : inRg [r] p = inOne r p := by simp [inRg]

theorem regPush_inv {f : Nat → Bool} {i : Nat} {l : List Rg} (h : RegInv f i l) (hf : f i = true) : RegInv f (i + 1) (regPush l i) := by
  unfold regPush
  rcases List.eq_nil_or_concat l with rfl | ⟨L, r, rfl⟩
  · refine ⟨fun k hk => by simp at hk, fun r hr => ?_, fun p => ?_⟩
    · simp only [List.getLast?_nil, List.mem_singleton] at hr; subst hr; simp only; omega
    · have hm := h.mem p
      simp only [inRg, List.any_nil] at hm
      show inRg [⟨i, 1⟩] p = _
      rw [inRg_one]
      unfold inOne
      by_cases e : p = i
      · subst e; simp [hf]; omega
      · rw [decide_eq_false (by simp only; omega)]
        by_cases h1 : p < i
        · rw [decide_eq_true h1, Bool.true_and] at hm; rw [← hm]; simp
        · rw [decide_eq_false (by omega)]; simp
  · simp only [List.concat_eq_append, List.getLast?_concat, List.dropLast_concat]
    rw [List.concat_eq_append] at h
    have hrl := h.low r (by simp)
    by_cases e : r.f + r.s = i
    · rw [if_pos e]
      refine ⟨fun k hk => ?_, fun x hx => ?_, fun p => ?_⟩
      · have hc := h.chain k (by simpa using hk)
        simp only [List.length_append, List.length_cons, List.length_nil] at hk
        by_cases hkl : k + 1 < L.length
        · rw [List.getElem_append_left (by omega), List.getElem_append_left hkl] at hc ⊢; exact hc
        · have e1 : ∀ (x : Rg) (h : k + 1 < (L ++ [x]).length), (L ++ [x])[k + 1] = x := fun x h => by rw [List.getElem_append_right (by omega)]; simp
          rw [List.getElem_append_left (by omega), e1] at hc ⊢
          exact hc
      · rw [List.mem_append, List.mem_singleton] at hx
        rcases hx with hx | rfl
        · have := h.low x (by simp [hx]); omega
        · simp only; omega
      · have hm := h.mem p
        rw [inRg_append, inRg_one] at hm ⊢
        by_cases ep : p = i
        · subst ep
          rw [show inOne ⟨r.f, r.s + 1⟩ p = true from decide_eq_true (by simp only; omega), hf]; simp
        · rw [show inOne ⟨r.f, r.s + 1⟩ p = inOne r p from decide_eq_decide.2 (by simp only; omega), hm, decide_eq_decide.2 (show p < i ↔ p < i + 1 by omega)]
    · rw [if_neg e]
      refine ⟨fun k hk => ?_, fun x hx => ?_, fun p => ?_⟩
      · simp only [List.length_append, List.length_cons, List.length_nil] at hk
        by_cases hkl : k + 1 < (L ++ [r]).length
        · rw [List.getElem_append_left (by omega), List.getElem_append_left hkl]; exact h.chain k hkl
        · have hkk : k = L.length := by simp only [List.length_append, List.length_cons, List.length_nil] at hkl; omega
          subst hkk
          rw [List.getElem_append_left (by simp), List.getElem_append_right (by simp)]
          simp; omega
      · rw [List.mem_append, List.mem_singleton] at hx
        rcases hx with hx | rfl
        · have := h.low x hx; omega
        · simp only; omega
      · have hm := h.mem p
        rw [inRg_append, hm, inRg_one]
        unfold inOne
        by_cases ep : p = i
        · subst ep; simp [hf]; omega
        · rw [decide_eq_false (show ¬ ((i : Int) ≤ (p : Int) ∧ (p : Int) < (i : Int) + 1) by omega), Bool.or_false, decide_eq_decide.2 (show p < i ↔ p < i + 1 by omega)]

theorem regTo_inv (f : Nat → Bool) : ∀ i, RegInv f i (regTo f i)
  | 0 => ⟨fun k hk => by simp [regTo] at hk, fun r hr => by simp [regTo] at hr, fun p => by simp [regTo, inRg]⟩
  | i + 1 => by
    unfold regTo
    have ih := regTo_inv f i
    cases hf : f i with
    | true => rw [if_pos rfl]; exact regPush_inv ih hf
    | false =>
      rw [if_neg (by simp)]
      refine ⟨ih.chain, fun r hr => by have := ih.low r hr; omega, fun p => ?_⟩
      rw [ih.mem]
      by_cases e : p = i
      · subst e; simp [hf]
      · rw [decide_eq_decide.2 (show p < i ↔ p < i + 1 by omega)]

theorem rgFrom_of_chain : ∀ (l : List Rg) (p : Option Rg), (∀ r ∈ l, ckRg r = true) → (∀ k (h : k + 1 < l.length), (l[k]'(by omega)).f + (l[k]'(by omega)).s < l[k + 1].f) → (∀ r q, l.head? = some r → p = some q → q.f + q.s < r.f) → rgFrom p l = true
  | [], _, _, _, _ => rfl
  | r :: l, p, h1, h2, h3 => by
    unfold rgFrom
    rw [h1 r (by simp), Bool.true_and]
    rw [rgFrom_of_chain l (some r) (fun x hx => h1 x (by simp [hx])) (fun k hk => h2 (k + 1) (by simpa using hk)) (fun x q hx hq => by
      obtain rfl : r = q := by simpa using hq
      cases l with
      | nil => simp at hx
      | cons y l =>
        obtain rfl : y = x := by simpa using hx
        exact h2 0 (by simp)), Bool.and_true]
    cases p with
    | none => rfl
    | some q => exact decide_eq_true (h3 r q rfl rfl)

theorem regionsOf_ck (f : Nat → Bool) : ∀ r ∈ regionsOf f, ckRg r = true := fun r hr => by
  have := (regTo_inv f 256).low r hr
  exact decide_eq_true (by omega)
theorem regionsOf_from (f : Nat → Bool) : rgFrom none (regionsOf f) = true :=
  rgFrom_of_chain _ none (regionsOf_ck f) (regTo_inv f 256).chain (fun _ _ _ h => by cases h)
theorem regionsOf_ok (f : Nat → Bool) (h : (regionsOf f).length ≤ 40) : listOk (regionsOf f) = true := by
  unfold listOk
  rw [decide_eq_true h, regionsOf_from, Bool.true_and]
theorem regionsOf_mem (f : Nat → Bool) (p : Nat) (hp : p < 256) : inRg (regionsOf f) p = f p := by
  rw [regionsOf, (regTo_inv f 256).mem p, decide_eq_true hp, Bool.true_and]
theorem regionsOf_out (f : Nat → Bool) (p : Nat) (hp : 256 ≤ p) : inRg (regionsOf f) p = false := by
  rw [regionsOf, (regTo_inv f 256).mem p, decide_eq_false (by omega), Bool.false_and]
theorem regTo_congr {f g : Nat → Bool} : ∀ i, (∀ p, p < i → f p = g p) → regTo f i = regTo g i
  | 0, _ => rfl
  | i + 1, h => by
    unfold regTo
    rw [h i (by omega), regTo_congr i fun p hp => h p (by omega)]
theorem regionsOf_congr {f g : Nat → Bool} (h : ∀ p, p < 256 → f p = g p) : regionsOf f = regionsOf g := regTo_congr 256 h

/-! ## How many regions -/
def startB (f : Nat → Bool) (p : Nat) : Bool := f p && !(decide (0 < p) && f (p - 1))
def starts (f : Nat → Bool) : Nat → Nat
  | 0 => 0
  | i + 1 => starts f i + if startB f i then 1 else 0

theorem regPush_last (l : List Rg) (i : Nat) : ∃ r, (regPush l i).getLast? = some r ∧ r.f + r.s = (i : Int) + 1 := by
  unfold regPush
  split
  · split
    · rename_i r hr e
      exact ⟨_, List.getLast?_concat .., by simp only; omega⟩
    · exact ⟨_, List.getLast?_concat .., rfl⟩
  · exact ⟨_, rfl, rfl⟩

theorem last_fin (f : Nat → Bool) (i : Nat) : (∃ r, (regTo f i).getLast? = some r ∧ r.f + r.s = (i : Int)) ↔ (0 < i ∧ f (i - 1) = true) := by
  rcases i with _ | i
  · simp [regTo]
  · rw [Nat.add_sub_cancel]
    unfold regTo
    cases hf : f i with
    | true =>
      rw [if_pos rfl]
      obtain ⟨r, h1, h2⟩ := regPush_last (regTo f i) i
      exact ⟨fun _ => ⟨by omega, rfl⟩, fun _ => ⟨r, h1, by omega⟩⟩
    | false =>
      rw [if_neg (by simp)]
      constructor
      · rintro ⟨r, h1, h2⟩
        have := (regTo_inv f i).low r (List.mem_of_getLast? h1)
        omega
      · rintro ⟨_, h⟩; cases h

theorem regTo_length (f : Nat → Bool) : ∀ i, (regTo f i).length = starts f i
  | 0 => rfl
  | i + 1 => by
    have ih := regTo_length f i
    have hl := last_fin f i
    unfold regTo starts startB
    cases hf : f i with
    | false => rw [if_neg (by simp), ih, Bool.false_and]; rfl
    | true =>
      rw [if_pos rfl, Bool.true_and]
      unfold regPush
      split
      · rename_i r hr
        by_cases e : r.f + r.s = (i : Int)
        · rw [if_pos e]
          obtain ⟨h0, h1⟩ := hl.1 ⟨r, hr, e⟩
          rw [h1, decide_eq_true h0]
          have hne : regTo f i ≠ [] := by intro h; rw [h] at hr; cases hr
          have := List.length_pos_iff.2 hne
          simp [List.length_dropLast]; omega
        · rw [if_neg e]
          have hn : ¬ (0 < i ∧ f (i - 1) = true) := fun h => by
            obtain ⟨r', h1, h2⟩ := hl.2 h
            rw [hr] at h1; obtain rfl : r = r' := by simpa using h1
            exact e h2
          have hb : (decide (0 < i) && f (i - 1)) = false := by
            by_cases h0 : 0 < i
            · rw [decide_eq_true h0, Bool.true_and]
              cases h : f (i - 1) with
              | false => rfl
              | true => exact absurd ⟨h0, h⟩ hn
            · rw [decide_eq_false h0, Bool.false_and]
          rw [hb, List.length_append, ih]; rfl
      · rename_i hr
        rw [List.getLast?_eq_none_iff] at hr
        rw [hr] at ih hl
        have hn : ¬ (0 < i ∧ f (i - 1) = true) := fun h => by
          obtain ⟨r', h1, h2⟩ := hl.2 h
          cases h1
        have hb : (decide (0 < i) && f (i - 1)) = false := by
          by_cases h0 : 0 < i
          · rw [decide_eq_true h0, Bool.true_and]
            cases h : f (i - 1) with
            | false => rfl
            | true => exact absurd ⟨h0, h⟩ hn
          · rw [decide_eq_false h0, Bool.false_and]
        rw [hb, ← ih]; rfl

/-- marks from a on below b -/
def upd (f : Nat → Bool) (a b : Nat) (v : Bool) (p : Nat) : Bool := if a ≤ p ∧ p < b then v else f p

theorem startB_upd (f : Nat → Bool) (a b : Nat) (v : Bool) (hab : a < b) (p : Nat) : (if startB (upd f a b v) p then 1 else 0) ≤ (if startB f p then 1 else 0) + if p = (if v then a else b) then 1 else 0 := by
  have key : startB (upd f a b v) p = true → startB f p = true ∨ p = (if v then a else b) := by
    intro h
    unfold startB at h ⊢
    simp only [Bool.and_eq_true, Bool.not_eq_true', Bool.and_eq_false_iff, decide_eq_false_iff_not] at h ⊢
    obtain ⟨h1, h2⟩ := h
    unfold upd at h1 h2
    cases v with
    | true =>
      simp only [if_true] at h1 h2 ⊢
      by_cases hin : a ≤ p ∧ p < b
      · by_cases e : p = a
        · exact .inr e
        · exfalso
          rw [if_pos (by omega)] at h2
          rcases h2 with h2 | h2
          · omega
          · cases h2
      · rw [if_neg hin] at h1
        by_cases e : p = b
        · exfalso
          rw [if_pos (by omega)] at h2
          rcases h2 with h2 | h2
          · omega
          · cases h2
        · left
          refine ⟨h1, ?_⟩
          by_cases h0 : 0 < p
          · rw [if_neg (by omega)] at h2; exact h2
          · exact .inl h0
    | false =>
      simp only [Bool.false_eq_true, if_false] at h1 h2 ⊢
      by_cases hin : a ≤ p ∧ p < b
      · rw [if_pos hin] at h1; cases h1
      · rw [if_neg hin] at h1
        by_cases e : p = b
        · exact .inr e
        · left
          refine ⟨h1, ?_⟩
          by_cases h0 : 0 < p
          · rw [if_neg (by omega)] at h2; exact h2
          · exact .inl h0
  cases hs : startB (upd f a b v) p with
  | false => simp
  | true =>
    rcases key hs with h | h
    · rw [h]; simp
    · rw [if_pos h]; simp

theorem starts_upd (f : Nat → Bool) (a b : Nat) (v : Bool) (hab : a < b) : ∀ n, starts (upd f a b v) n ≤ starts f n + if (if v then a else b) < n then 1 else 0
  | 0 => by simp [starts]
  | n + 1 => by
    have ih := starts_upd f a b v hab n
    have h := startB_upd f a b v hab n
    unfold starts
    generalize (if v then a else b) = c at *
    by_cases h1 : n = c
    · subst h1
      have e1 : (if n < n then 1 else 0 : Nat) = 0 := if_neg (by omega)
      have e2 : (if n < n + 1 then 1 else 0 : Nat) = 1 := if_pos (by omega)
      rw [e1] at ih
      rw [if_pos rfl] at h
      rw [e2]; omega
    · rw [if_neg h1] at h
      by_cases h2 : c < n
      · have e1 : (if c < n then 1 else 0 : Nat) = 1 := if_pos h2
        have e2 : (if c < n + 1 then 1 else 0 : Nat) = 1 := if_pos (by omega)
        rw [e1] at ih; rw [e2]; omega
      · have e1 : (if c < n then 1 else 0 : Nat) = 0 := if_neg h2
        have e2 : (if c < n + 1 then 1 else 0 : Nat) = 0 := if_neg (by omega)
        rw [e1] at ih; rw [e2]; omega

theorem ite_le_one (c : Prop) [Decidable c] : (if c then 1 else 0 : Nat) ≤ 1 := by split <;> omega

theorem regionsOf_upd_len (f : Nat → Bool) (a b : Nat) (v : Bool) (hab : a < b) : (regionsOf (upd f a b v)).length ≤ (regionsOf f).length + 1 := by
  unfold regionsOf
  rw [regTo_length, regTo_length]
  have h1 := starts_upd f a b v hab 256
  have h2 := ite_le_one ((if v then a else b) < 256)
  omega

/-! ## Regions that may be are the regions of their pages -/
theorem rgFrom_low : ∀ (l : List Rg) (q : Rg), rgFrom (some q) l = true → ∀ r ∈ l, q.f + q.s < r.f
  | [], _, _, r, hr => by simp at hr
  | x :: l, q, h, r, hr => by
    simp only [rgFrom, Bool.and_eq_true] at h
    have hx : q.f + q.s < x.f := of_decide_eq_true h.1.2
    rcases List.mem_cons.1 hr with rfl | hr
    · exact hx
    · have h1 := rgFrom_low l x h.2 r hr
      have h2 := ck_parts h.1.1
      omega

theorem inRg_iff (l : List Rg) (p : Nat) : inRg l p = true ↔ ∃ r ∈ l, r.f ≤ (p : Int) ∧ (p : Int) < r.f + r.s := by
  unfold inRg inOne
  simp [List.any_eq_true]

theorem rg_unique : ∀ (l m : List Rg) (q q' : Option Rg), rgFrom q l = true → rgFrom q' m = true → (∀ p, inRg l p = inRg m p) → l = m
  | [], [], _, _, _, _, _ => rfl
  | [], y :: m, _, q', _, h2, h => by
    simp only [rgFrom, Bool.and_eq_true] at h2
    have hy := ck_parts h2.1.1
    obtain ⟨n, hn⟩ := Int.eq_ofNat_of_zero_le hy.1
    have : inRg (y :: m) n = true := (inRg_iff _ _).2 ⟨y, by simp, by omega, by omega⟩
    rw [← h n] at this
    simp [inRg] at this
  | x :: l, [], q, _, h1, _, h => by
    simp only [rgFrom, Bool.and_eq_true] at h1
    have hy := ck_parts h1.1.1
    obtain ⟨n, hn⟩ := Int.eq_ofNat_of_zero_le hy.1
    have : inRg (x :: l) n = true := (inRg_iff _ _).2 ⟨x, by simp, by omega, by omega⟩
    rw [h n] at this
    simp [inRg] at this
  | x :: l, y :: m, q, q', h1, h2, h => by
    simp only [rgFrom, Bool.and_eq_true] at h1 h2
    obtain ⟨⟨hx, _⟩, hl⟩ := h1
    obtain ⟨⟨hy, _⟩, hm⟩ := h2
    have px := ck_parts hx
    have py := ck_parts hy
    have lx := rgFrom_low l x hl
    have ly := rgFrom_low m y hm
    have lower : ∀ (z : Rg) (t : List Rg), 1 ≤ z.s → (∀ r ∈ t, z.f + z.s < r.f) → ∀ p : Nat, inRg (z :: t) p = true → z.f ≤ p := fun z t hz ht p hp => by
      obtain ⟨r, hr, h3, h4⟩ := (inRg_iff _ _).1 hp
      rcases List.mem_cons.1 hr with rfl | hr
      · exact h3
      · have := ht r hr; omega
    obtain ⟨n, hn⟩ := Int.eq_ofNat_of_zero_le px.1
    obtain ⟨n', hn'⟩ := Int.eq_ofNat_of_zero_le py.1
    have e1 : y.f ≤ x.f := by
      have : inRg (x :: l) n = true := (inRg_iff _ _).2 ⟨x, by simp, by omega, by omega⟩
      rw [h n] at this
      have := lower y m py.2.1 ly n this; omega
    have e2 : x.f ≤ y.f := by
      have : inRg (y :: m) n' = true := (inRg_iff _ _).2 ⟨y, by simp, by omega, by omega⟩
      rw [← h n'] at this
      have := lower x l px.2.1 lx n' this; omega
    have ef : x.f = y.f := by omega
    have gap : ∀ (z z' : Rg) (t t' : List Rg), z.f = z'.f → 0 ≤ z.f → 1 ≤ z.s → (∀ r ∈ t, z.f + z.s < r.f) → (∀ p, inRg (z :: t) p = inRg (z' :: t') p) → ¬ z.s < z'.s := fun z z' t t' hf h0 hs ht hpp hlt => by
      obtain ⟨k, hk⟩ := Int.eq_ofNat_of_zero_le (show 0 ≤ z.f + z.s by omega)
      have h3 : inRg (z' :: t') k = true := (inRg_iff _ _).2 ⟨z', by simp, by omega, by omega⟩
      rw [← hpp k] at h3
      obtain ⟨r, hr, h4, h5⟩ := (inRg_iff _ _).1 h3
      rcases List.mem_cons.1 hr with rfl | hr
      · omega
      · have := ht r hr; omega
    have es : x.s = y.s := by
      have g1 := gap x y l m ef px.1 px.2.1 lx h
      have g2 := gap y x m l ef.symm py.1 py.2.1 ly (fun p => (h p).symm)
      omega
    have exy : x = y := by
      obtain ⟨a, b⟩ := x; obtain ⟨c, d⟩ := y
      simp only at ef es; rw [ef, es]
    subst exy
    congr 1
    refine rg_unique l m (some x) (some x) hl hm fun p => ?_
    have hp := h p
    by_cases hin : x.f ≤ (p : Int) ∧ (p : Int) < x.f + x.s
    · have n1 : inRg l p = false := by
        rw [Bool.eq_false_iff]; intro hh
        obtain ⟨r, hr, h4, h5⟩ := (inRg_iff _ _).1 hh
        have := lx r hr; omega
      have n2 : inRg m p = false := by
        rw [Bool.eq_false_iff]; intro hh
        obtain ⟨r, hr, h4, h5⟩ := (inRg_iff _ _).1 hh
        have := ly r hr; omega
      rw [n1, n2]
    · have n0 : inOne x p = false := decide_eq_false hin
      simp only [inRg, List.any_cons] at hp ⊢
      rw [n0, Bool.false_or, Bool.false_or] at hp
      exact hp

theorem listOk_regions {l : List Rg} (h : listOk l = true) : l = regionsOf (inRg l) := by
  have hall := listOk_all h
  simp only [listOk, Bool.and_eq_true] at h
  refine rg_unique l _ none none h.2 (regionsOf_from _) fun p => ?_
  by_cases hp : p < 256
  · rw [regionsOf_mem _ p hp]
  · rw [regionsOf_out _ p (by omega), Bool.eq_false_iff]
    intro hh
    obtain ⟨r, hr, h4, h5⟩ := (inRg_iff _ _).1 hh
    have := ck_parts (hall r hr)
    omega
end Go.Proofs.YtkcaheebaicinaaGreatDoor
/- Contracts of package boot: regions (of marked pages). -/
namespace Go.Proofs.YtkcaheebaicinaaGreatDoor
open Go.RowKit
set_option linter.unusedVariables false

theorem info_rg : (Tryz.prog.info? 24).map (fun i => (i.zero, i.size, i.bytes)) = some (some (.agg #[.int .i64 0, .int .i64 0]), 2, 16) := by kernel_rfl
theorem encRg_one (l : List Rg) : ∀ u ∈ flat encRg l, u.oneCell' = true := by
  intro u hu
  obtain ⟨r, _, hr⟩ := List.mem_flatMap.1 hu
  simp only [encRg, List.mem_cons, List.not_mem_nil, or_false] at hr
  rcases hr with rfl | rfl <;> rfl

/-- cells of a new block -/
theorem row_new (w : World) (vs : List Value) (t : TypeId) : Row (w.alloc (.cells vs.toArray t)) (some ⟨w.heap.size, 0, none⟩) vs := by
  intro j u hj
  exact ⟨w.heap.size, 0, rfl, by simp, by rw [Nat.zero_add, box_new]; simpa using hj⟩

theorem regTo_len (f : Nat → Bool) : ∀ i, (regTo f i).length ≤ i
  | 0 => by simp [regTo]
  | i + 1 => by
    have ih := regTo_len f i
    unfold regTo
    split
    · unfold regPush
      split
      · split
        · have : 0 < i + 1 := by omega
          simp only [List.length_append, List.length_dropLast, List.length_cons, List.length_nil]; omega
        · simp; omega
      · simp
    · omega

theorem bool_at {w : World} {a : Option Addr} {f : Nat → Bool} (hr : Row w a ((bl f).map vB)) {k : Nat} (h : k < 256) :
    ∃ b off, a = some ⟨b, off, none⟩ ∧ b < w.heap.size ∧ w.cell? ⟨b, off + k, none⟩ = some (.bool (f k)) :=
  hr k (vB (f k)) (by rw [List.getElem?_map, bl_get f k h]; rfl)

set_option maxRecDepth 100000 in
theorem regions_any (a : Option Addr) (cap : Nat) (f : Nat → Bool) (w : World) (hr : Row w a ((bl f).map vB)) :
    Calls Tryz.prog 52 #[.slice a 256 cap] w fun e w' => ∃ a' c', e = .returned (.slice a' (regionsOf f).length c') ∧ w'.ownsRow w.heap.size 24 2 (.slice a' (regionsOf f).length c') (regionsOf f).length (flat encRg (regionsOf f)) ∧ Below w.heap.size w w' := by
  go_enter Tryz.func52, Tryz.ntmps52
  go_wp2
  go_loopw [3, 4, 5, 6, 9] (fun s3 _ _ _ s9 wr => ∃ (i : Nat) (a3 : Option Addr) (c3 : Nat), i ≤ 256 ∧ s9 = .int .i64 i ∧ s3 = .slice a3 (regTo f i).length c3 ∧ Hid (wr.ownsRow w.heap.size 24 2 (.slice a3 (regTo f i).length c3) (regTo f i).length (flat encRg (regTo f i))) ∧ Below w.heap.size w wr) (fun _ _ _ _ s9 _ => 256 - (intOf s9).toNat)
  case atStart => exact ⟨0, none, 0, by omega, rfl, rfl, World.ownsRow_nil _ _ _ _, Below.refl _ _⟩
  case round =>
    obtain ⟨i, a3, c3, hi, rfl, rfl, hown, hbw⟩ := hrel
    by_cases hlt : i < 256
    · obtain ⟨b, off, rfl, hb, hc⟩ := bool_at (hr.below hbw) hlt
      have hlen := regTo_len f i
      cases hf : f i with
      | false =>
        have hs : regTo f (i + 1) = regTo f i := by conv => lhs; unfold regTo; rw [hf]; simp
        have HS := Hid.mk hs
        rw [hf] at hc
        clear hs hf
        go_wp2
        go_roundw
        case rel => exact ⟨i + 1, a3, c3, by omega, by go_num, by rw [HS.out], by rw [HS.out]; exact hown, hbw⟩
        case measure => simp [intOf]; omega
      | true =>
        have hs : regTo f (i + 1) = regPush (regTo f i) i := by conv => lhs; unfold regTo; rw [hf]; simp
        have HS := Hid.mk hs
        rw [hf] at hc
        clear hs hf
        generalize hL : regTo f i = L at *
        have hinv : RegInv f i L := by rw [← hL]; exact regTo_inv f i
        clear hL
        rcases List.eq_nil_or_concat L with rfl | ⟨M, r, rfl⟩
        · have HO := Hid.mk (own_below hown.out (below_alloc wr (.cells #[.int .i64 (i : Int), .int .i64 1] 24)) (Nat.le_refl _))
          have HN := Hid.mk (row_new wr (encRg ⟨i, 1⟩) 24)
          have hsz := hbw.size
          have hb1 : Below w.heap.size w (wr.alloc (.cells #[.int .i64 (i : Int), .int .i64 1] 24)) := Below.step hbw (below_alloc _ _)
          go_wp2_with (at_builtin; refine wpList_app rfl _ _ 25 rfl w.heap.size 24 (.agg #[.int .i64 0, .int .i64 0]) 2 16 Tryz.underlying25 info_rg rfl (by decide) (by decide) _ _ _ _ rfl HO.out (some ⟨wr.heap.size, 0, none⟩) 1 1 (encRg ⟨i, 1⟩) rfl rfl HN.out (by simp [encRg, vI, Value.oneCell']) (by simp) (by simp; omega) ?_)
          intro a' c' w2 hown2 hgrow
          have hb2 := below_grown hb1 HO.out hgrow (Nat.le_refl _) (by simp; omega)
          have HO2 := Hid.mk hown2
          clear hown2 HO HN hgrow
          go_wp2
          go_roundw
          case rel => exact ⟨i + 1, a', c', by omega, by go_num, by rw [HS.out]; rfl, by rw [HS.out]; exact HO2.out, hb2⟩
          case measure => simp [intOf]; omega
        · simp only [List.concat_eq_append, List.length_append, List.length_cons, List.length_nil, Nat.zero_add] at hown hlen HS hinv ⊢
          have hlow := hinv.low r (by simp)
          have hsm : r.small := by unfold Rg.small; omega
          obtain ⟨g, rfl, hg, hgs, hcell, hfrz⟩ := own_elem encRg_length (by decide) hown.out (j := M.length) (by simp)
          have hmr : (M ++ [r])[M.length]'(by simp) = r := by simp
          rw [hmr] at hcell
          have hc0 := hcell 0 (vI r.f) rfl
          have hc1 := hcell 1 (vI r.s) rfl
          have hf1 := hfrz (M.length * 2 + 1)
          simp only [vI, Nat.add_zero] at hc0 hc1
          have hlm : M.length ≤ 255 := by omega
          have hsz := hbw.size
          clear hcell hfrz hmr hinv
          cases he : (r.f + r.s == (i : Int)) with
          | true =>
            have hp : regPush (M ++ [r]) i = M ++ [⟨r.f, r.s + 1⟩] := by
              unfold regPush
              rw [List.getLast?_concat]
              simp only [List.dropLast_concat]
              rw [if_pos (eq_of_beq he)]
            rw [hp] at HS
            clear hp
            go_wp2_with (go_at_call 92; refine (end_any r _ hsm).mono ?_; rintro e w4 ⟨rfl, hb4⟩; have hc40 := (hb4.cell (p := ⟨g, M.length * 2, none⟩) hgs).trans hc0; have hc41 := (hb4.cell (p := ⟨g, M.length * 2 + 1, none⟩) hgs).trans hc1; have hf41 := (hb4.frozen (p := ⟨g, M.length * 2 + 1, none⟩) hgs).trans hf1)
            have h := (World.ownsRow.stored (own_below hown.out hb4 (Nat.le_refl _)) (M.length * 2 + 1) (vI (r.s + 1))).1
            have hset : (flat encRg (M ++ [r])).set (M.length * 2 + 1) (vI (r.s + 1)) = flat encRg (M ++ [⟨r.f, r.s + 1⟩]) := by
              rw [flat_append, flat_append, List.set_append_right _ _ (by rw [flat_length encRg_length]; omega), flat_length encRg_length, Nat.add_sub_cancel_left]
              rfl
            rw [hset] at h
            have HH := Hid.mk h
            clear h hset
            go_roundw
            case rel =>
              refine ⟨i + 1, some ⟨g, 0, none⟩, c3, by omega, by go_num, by rw [HS.out]; simp, ?_, (Below.step hbw hb4).setCell hg _⟩
              rw [HS.out]
              have h2 := HH.out
              simp only [List.length_append, List.length_cons, List.length_nil, Nat.zero_add] at h2 ⊢
              exact h2
            case measure => simp [intOf]; omega
          | false =>
            have hp : regPush (M ++ [r]) i = (M ++ [r]) ++ [⟨i, 1⟩] := by
              unfold regPush
              rw [List.getLast?_concat]
              simp only
              rw [if_neg (by rw [beq_eq_false_iff_ne] at he; exact he)]
            rw [hp] at HS
            clear hp
            go_wp2_with fail
            refine (end_any r _ hsm).mono ?_
            rintro e w4 ⟨rfl, hb4⟩
            have HO4 := Hid.mk (own_below (own_below hown.out hb4 (Nat.le_refl _)) (below_alloc w4 (.cells #[.int .i64 (i : Int), .int .i64 1] 24)) (Nat.le_refl _))
            have HN4 := Hid.mk (row_new w4 (encRg ⟨i, 1⟩) 24)
            have hb5 := Below.step hbw hb4
            have hsz4 := hb5.size
            have hb6 : Below w.heap.size w (w4.alloc (.cells #[.int .i64 (i : Int), .int .i64 1] 24)) := Below.step hb5 (below_alloc _ _)
            go_wp2_with (at_builtin; refine wpList_app rfl _ _ 25 rfl w.heap.size 24 (.agg #[.int .i64 0, .int .i64 0]) 2 16 Tryz.underlying25 info_rg rfl (by decide) (by decide) _ _ _ _ rfl HO4.out (some ⟨w4.heap.size, 0, none⟩) 1 1 (encRg ⟨i, 1⟩) rfl rfl HN4.out (by simp [encRg, vI, Value.oneCell']) (by omega) (by simp; omega) ?_)
            intro a' c' w5 hown5 hgrow
            have hb7 := below_grown hb6 HO4.out hgrow (Nat.le_refl _) (by simp; omega)
            have HO5 := Hid.mk hown5
            clear hown5 HO4 HN4 hgrow
            go_wp2
            go_roundw
            case rel =>
              refine ⟨i + 1, a', c', by omega, by go_num, by rw [HS.out]; simp, ?_, hb7⟩
              rw [HS.out]
              have h2 := HO5.out
              rw [flat_append]
              simp only [List.length_append, List.length_cons, List.length_nil, Nat.zero_add] at h2 ⊢
              exact h2
            case measure => simp [intOf]; omega
    · obtain rfl : i = 256 := by omega
      go_wp2
      go_ret
      exact ⟨a3, c3, rfl, hown.out, hbw⟩
end Go.Proofs.YtkcaheebaicinaaGreatDoor
