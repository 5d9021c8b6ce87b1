/- Rk2, Rk3, Hp1, Blk9, Hp2, Hp3, Hp4: texts of this claim, joined. -/
import Derived.Test.YtkcaheebaicinaaGreatDoorSN1
import Derived.Test.YtkcaheebaicinaaGreatDoorSN4
import Derived.Test.YtkcaheebaicinaaGreatDoorSN9
import Derived.StillTailTactics
/- Contracts of package ram: New, Load, Store, Follow. -/
namespace Go.Proofs.YtkcaheebaicinaaGreatDoor
open Go.RowKit
set_option linter.unusedVariables false

set_option maxRecDepth 100000 in
theorem ramNew_ok (p : Int) (w : World) (h1 : 0 ≤ p) (h2 : p ≤ 256) :
    Calls Tryz.prog 21 #[.int .i64 p] w fun e w' => ∃ a c, e = .returned (.tuple #[.slice a (p.toNat * 16) c, .int .i64 0]) ∧ w'.ownsRow w.heap.size 3 1 (.slice a (p.toNat * 16) c) (p.toNat * 16) ((List.replicate (p.toNat * 16) 0).map vI) ∧ Below w.heap.size w w' := by
  obtain ⟨n, rfl⟩ := Int.eq_ofNat_of_zero_le h1
  obtain ⟨i, hi, hz, hsize, hby⟩ := info_parts info_intR
  go_enter Tryz.func21, Tryz.ntmps21
  go_wp2_with (at_make; refine wpList_make_full _ rfl _ _ 30 rfl w.heap.size 3 i (.int .i64 0) 1 Tryz.underlying30 hi hz hsize .i64 .i64 _ _ (n * 16) rfl rfl (by omega) (by omega) ?q1 ?q2 ?q3 ?_)
  case q1 => rw [hby]; omega
  case q2 => unfold maxLen; omega
  case q3 => exact Nat.le_refl _
  intro w1 hown hgrow
  go_wp2
  go_ret2
  refine ⟨_, _, rfl, ?_, (Below.refl _ w).grown hgrow (Nat.le_refl _) (by simp)⟩
  rw [toList_madeCells_one] at hown
  rw [List.map_replicate, Int.toNat_natCast]; exact hown

def followF (xs : List Int) (most : Int) : Nat → Int → List Int → Option (List Int)
  | 0, _, _ => none
  | f + 1, p, out => if p = -1 then some out else if (out.length : Int) ≥ most ∨ inW xs.length p 1 = false ∨ hasI out p = true then none else followF xs most f (xs.getD p.toNat 0) (out ++ [p])

/-- what Follow tells: the chain, or none -/
def follow (xs : List Int) (p most : Int) : Option (List Int) := followF xs most (xs.length + 2) p []

/-- distinct numbers below n are at most n -/
theorem nodup_le : ∀ (n : Nat) (l : List Int), l.Nodup → (∀ x ∈ l, 0 ≤ x ∧ x < n) → l.length ≤ n
  | 0, l, _, h => by
    cases l with
    | nil => simp
    | cons a l => have := h a (by simp); omega
  | n + 1, l, hd, h => by
    have h1 := nodup_le n (l.erase (n : Int)) (hd.erase _) (fun x hx => by
      have hm := h x (List.mem_of_mem_erase hx)
      have hne : x ≠ (n : Int) := by
        intro e; subst e
        exact (List.Nodup.not_mem_erase hd) hx
      omega)
    by_cases hn : (n : Int) ∈ l
    · rw [List.length_erase_of_mem hn] at h1; omega
    · rw [List.erase_of_not_mem hn] at h1; omega

def lenOf : Value → Nat | .slice _ n _ => n | _ => 0

def FollowPost (w : World) (r : Option (List Int)) (e : Ending) (w' : World) : Prop :=
  Below w.heap.size w w' ∧ match r with
    | some l => ∃ a c, e = .returned (.tuple #[.slice a l.length c, .int .i64 0]) ∧ w'.ownsRow w.heap.size 3 1 (.slice a l.length c) l.length (l.map vI)
    | none => e = .returned (.tuple #[.slice none 0 0, .int .i64 8])

theorem follow_any (a : Option Addr) (cap : Nat) (xs : List Int) (p most : Int) (w : World) (hl : xs.length ≤ 1000000) (hr : Row w a (xs.map vI)) :
    Calls Tryz.prog 109 #[.slice a xs.length cap, .int .i64 p, .int .i64 most] w (FollowPost w (follow xs p most)) := by
  generalize hR : follow xs p most = R
  go_enter Tryz.func109, Tryz.ntmps109
  go_wp2
  go_loopw [1, 8] (fun u1 u8 wr => ∃ (q : Int) (out : List Int) (a8 : Option Addr) (c8 f : Nat), u1 = .int .i64 q ∧ u8 = .slice a8 out.length c8 ∧ wr.ownsRow w.heap.size 3 1 (.slice a8 out.length c8) out.length (out.map vI) ∧
      Below w.heap.size w wr ∧ Hid (followF xs most f q out = R) ∧ f + out.length = xs.length + 2 ∧ Hid (out.Nodup ∧ ∀ x ∈ out, 0 ≤ x ∧ x < xs.length)) (fun _ u8 _ => xs.length + 2 - lenOf u8)
  case atStart => exact ⟨p, [], none, 0, xs.length + 2, rfl, rfl, World.ownsRow_nil _ _ _ _, Below.refl _ _, hR, rfl, List.nodup_nil, by simp⟩
  case round =>
    obtain ⟨q, out, a8, c8, f, rfl, rfl, hown, hbw, hF, hf, hnd⟩ := hrel
    have hle := nodup_le xs.length out hnd.out.1 hnd.out.2
    obtain ⟨f, rfl⟩ : ∃ f', f = f' + 1 := ⟨f - 1, by omega⟩
    have hlo : out.length ≤ 9223372036854775807 := by omega
    have HF := hF.out
    unfold followF at HF
    by_cases h1 : q = -1
    · have hq : (q != -1) = false := by simp [h1]
      rw [if_pos h1] at HF
      have HO := Hid.mk hown
      clear hown h1 hR
      go_wp2
      go_ret2
      subst HF
      exact ⟨hbw, _, _, rfl, HO.out⟩
    · have hq : (q != -1) = true := by simp [h1]
      rw [if_neg h1] at HF
      have HO := Hid.mk hown
      clear hown hR hF
      by_cases h2 : most ≤ (out.length : Int)
      · rw [if_pos (Or.inl h2)] at HF
        subst HF
        go_wp2_with fail
        go_ret2
        exact ⟨hbw, rfl⟩
      · cases h3 : inW xs.length q 1 with
        | false =>
          rw [if_pos (Or.inr (Or.inl h3))] at HF
          subst HF
          go_wp2_with (go_at_call 130; refine (in_any _ _ _ _ _ _ (by omega) (by omega) (by omega)).mono ?_; rintro e w' ⟨rfl, rfl⟩)
          go_ret2
          exact ⟨hbw, rfl⟩
        | true =>
          cases h4 : hasI out q with
          | true =>
            rw [if_pos (Or.inr (Or.inr h4))] at HF
            subst HF
            go_wp2_with (first | (go_at_call 130; refine (in_any _ _ _ _ _ _ (by omega) (by omega) (by omega)).mono ?_; rintro e w' ⟨rfl, rfl⟩) | (go_at_call 18; refine (contains_int _ _ _ _ _ hlo (own_row HO.out)).mono ?_; rintro e w' ⟨rfl, rfl⟩))
            go_ret2
            exact ⟨hbw, rfl⟩
          | false =>
            rw [if_neg (by rw [h3, h4]; simp; omega)] at HF
            have hq2 : 0 ≤ q ∧ q < xs.length := by unfold inW at h3; simp only [decide_eq_true_eq] at h3; omega
            obtain ⟨k, rfl⟩ := Int.eq_ofNat_of_zero_le hq2.1
            have hk : k < xs.length := by omega
            rw [Int.toNat_natCast, List.getD_eq_getElem?_getD, List.getElem?_eq_getElem hk, Option.getD_some] at HF
            have HFF := Hid.mk HF
            clear HF
            have hrw := hr.below hbw
            have hsz := hbw.size
            have HAL : Hid ( (wr.alloc (.cells #[.int .i64 (k : Int)] 3)).ownsRow w.heap.size 3 1 (.slice a8 out.length c8) out.length (out.map vI)) := Hid.mk (own_below HO.out ((Below.refl _ _).alloc (Nat.le_refl _) _) (Nat.le_refl _))
            have HNEW : Hid (Row (wr.alloc (.cells #[.int .i64 (k : Int)] 3)) (some ⟨wr.heap.size, 0, none⟩) [vI k]) := row_new1 _ _ _
            go_wp2_with (first | (go_at_call 130; refine (in_any _ _ _ _ _ _ (by omega) (by omega) (by omega)).mono ?_; rintro e w' ⟨rfl, rfl⟩) | (go_at_call 18; refine (contains_int _ _ _ _ _ hlo (own_row HO.out)).mono ?_; rintro e w' ⟨rfl, rfl⟩) | (at_builtin; refine wpList_app rfl _ _ 30 rfl w.heap.size 3 (.int .i64 0) 1 8 Tryz.underlying30 info_intR rfl (by decide) (by decide) a8 out.length c8 (out.map vI) rfl HAL.out (some ⟨wr.heap.size, 0, none⟩) 1 1 [vI k] rfl rfl HNEW.out (by simp [vI, Value.oneCell']) (by omega) (by simp; omega) ?_))
            intro a' c' w1 hown1 hgrow
            have hb1 : Below w.heap.size w w1 := below_grown (hbw.alloc hsz _) HAL.out hgrow (Nat.le_refl _) (by simp; omega)
            obtain ⟨b, off, rfl, hbb, hc⟩ := row_at (hr.below hb1) hk
            have HO1 := Hid.mk hown1
            clear hown1 HAL HNEW hrw hgrow hr HO
            go_wp2
            go_roundw
            case rel =>
              refine ⟨xs[k], out ++ [(k : Int)], a', c', f, rfl, by simp, ?_, hb1, HFF.out, by simp; omega, ?_⟩
              · have h := HO1.out
                simp only [List.length_append, List.length_cons, List.length_nil, List.map_append, List.map_cons, List.map_nil]
                exact h
              · refine ⟨?_, ?_⟩
                · rw [List.nodup_append]
                  refine ⟨hnd.out.1, by simp, ?_⟩
                  intro x hx y hy
                  simp only [List.mem_singleton] at hy
                  subst hy
                  intro e
                  subst e
                  have : hasI out (k : Int) = true := by unfold hasI; simpa using hx
                  rw [this] at h4; cases h4
                · intro x hx
                  rw [List.mem_append, List.mem_singleton] at hx
                  rcases hx with hx | rfl
                  · exact hnd.out.2 x hx
                  · omega
            case measure => simp [lenOf]; omega

theorem follow_n (a : Option Addr) (n cap : Nat) (xs : List Int) (p most : Int) (w : World) (hn : xs.length = n) (hl : n ≤ 1000000) (hr : Row w a (xs.map vI)) :
    Calls Tryz.prog 109 #[.slice a n cap, .int .i64 p, .int .i64 most] w (FollowPost w (follow xs p most)) := by
  subst hn
  exact follow_any a cap xs p most w hl hr

/-- the chain is none -/
theorem follow_none (a : Option Addr) (n cap : Nat) (xs : List Int) (p most : Int) (w : World) (hn : xs.length = n) (hl : n ≤ 1000000) (hr : Row w a (xs.map vI)) (hf : follow xs p most = none) :
    Calls Tryz.prog 109 #[.slice a n cap, .int .i64 p, .int .i64 most] w fun e w' => e = .returned (.tuple #[.slice none 0 0, .int .i64 8]) ∧ Below w.heap.size w w' := by
  refine (follow_n a n cap xs p most w hn hl hr).mono fun e w' h => ?_
  rw [hf] at h
  exact ⟨h.2, h.1⟩

theorem follow_some (a : Option Addr) (n cap : Nat) (xs : List Int) (p most : Int) (w : World) (hn : xs.length = n) (hl : n ≤ 1000000) (hr : Row w a (xs.map vI)) (l : List Int) (hf : follow xs p most = some l) :
    Calls Tryz.prog 109 #[.slice a n cap, .int .i64 p, .int .i64 most] w fun e w' => ∃ a' c', e = .returned (.tuple #[.slice a' l.length c', .int .i64 0]) ∧ w'.ownsRow w.heap.size 3 1 (.slice a' l.length c') l.length (l.map vI) ∧ Below w.heap.size w w' := by
  refine (follow_n a n cap xs p most w hn hl hr).mono fun e w' h => ?_
  rw [hf] at h
  obtain ⟨hb, a', c', he, ho⟩ := h
  exact ⟨a', c', he, ho, hb⟩
end Go.Proofs.YtkcaheebaicinaaGreatDoor
/- Contracts of package ram: Chain, Move. -/
namespace Go.Proofs.YtkcaheebaicinaaGreatDoor
open Go.RowKit
set_option linter.unusedVariables false
attribute [local go_sem ↓] sliced_cut

/-- after i objects have been chained -/
def chainTo (xs : List Int) (p k n : Nat) : Nat → List Int
  | 0 => xs
  | i + 1 => (chainTo xs p k n i).set (p + i * k) (if i + 1 < n then ((p + (i + 1) * k : Nat) : Int) else -1)

theorem chainTo_length (xs : List Int) (p k n : Nat) : ∀ i, (chainTo xs p k n i).length = xs.length
  | 0 => rfl
  | i + 1 => by simp [chainTo, chainTo_length xs p k n i]

theorem chain_ok (a : Option Addr) (cap : Nat) (xs : List Int) (p k n : Nat) (w : World) (hl : xs.length ≤ 1000000) (hr : Row w a (xs.map vI)) (hk1 : 1 ≤ k) (hk2 : k ≤ 64) (hn1 : 1 ≤ n) (hn2 : n ≤ xs.length) (hin : p + k * n ≤ xs.length) :
    Calls Tryz.prog 128 #[.slice a xs.length cap, .int .i64 p, .int .i64 k, .int .i64 n] w fun e w' => ∃ a' c', e = .returned (.tuple #[.slice a' xs.length c', .int .i64 0]) ∧ w'.ownsRow w.heap.size 3 1 (.slice a' xs.length c') xs.length ((chainTo xs p k n n).map vI) ∧ Below w.heap.size w w' := by
  have hkn : 0 ≤ (k : Int) * (n : Int) := Int.mul_nonneg (by omega) (by omega)
  have hkn2 : (k : Int) * (n : Int) ≤ xs.length - p := by
    have : ((k * n : Nat) : Int) = (k : Int) * (n : Int) := by simp
    omega
  have HB : Hid (inW xs.length p ((k : Int) * (n : Int)) = true) := by unfold inW; exact decide_eq_true (by omega)
  have d1 : decide ((k : Int) < 1) = false := decide_eq_false (by omega)
  have d2 : decide (64 < (k : Int)) = false := decide_eq_false (by omega)
  have d3 : decide ((n : Int) < 1) = false := decide_eq_false (by omega)
  go_enter Tryz.func128, Tryz.ntmps128
  go_wp2_with (first | (go_at_call 130; refine (in_any _ _ _ _ _ _ (by omega) (by omega) (by omega)).mono ?_; rw [HB.out]; rintro e w' ⟨rfl, rfl⟩) | (go_at_call 60; refine (clone_int _ _ _ _ (by omega) hr).mono ?_; rintro e w1 ⟨a', c', rfl, hown, hb⟩; have HO := Hid.mk hown; clear hown))
  go_loopw [11, 12, 41] (fun _ _ s41 wr => ∃ i : Nat, i ≤ n ∧ s41 = .int .i64 i ∧ Hid (wr.ownsRow w.heap.size 3 1 (.slice a' xs.length c') xs.length ((chainTo xs p k n i).map vI)) ∧ Below w.heap.size w wr) (fun _ _ s41 _ => n - (intOf s41).toNat)
  case atStart => exact ⟨0, Nat.zero_le _, rfl, HO, hb⟩
  case round =>
    obtain ⟨i, hi, rfl, hown, hbw⟩ := hrel
    by_cases hlt : i < n
    · have hidx : p + i * k < xs.length := by
        have : i * k + k ≤ k * n := by rw [← Nat.succ_mul, Nat.mul_comm]; exact Nat.mul_le_mul_left _ hlt
        omega
      have hik : 0 ≤ (i : Int) * (k : Int) := Int.mul_nonneg (by omega) (by omega)
      have hik2 : (p : Int) + (i : Int) * (k : Int) < xs.length := by
        have : ((p + i * k : Nat) : Int) = (p : Int) + (i : Int) * (k : Int) := by simp
        omega
      obtain ⟨g, v, rfl, hg, hgs, hc, hf⟩ := own_cell hown.out (p + i * k) (by rw [List.length_map, chainTo_length]; exact hidx)
      have hik3 : 0 ≤ ((i : Int) + 1) * (k : Int) := Int.mul_nonneg (by omega) (by omega)
      have hik4 : ((i : Int) + 1) * (k : Int) = (i : Int) * (k : Int) + k := by rw [Int.add_mul, Int.one_mul]
      have hik5 : ((i : Int) + 1) * (k : Int) ≤ xs.length + 64 := by omega
      clear hik4
      by_cases hlast : i + 1 < n
      · have hl2 : (i : Int) < (n : Int) - 1 := by omega
        go_wp2
        go_roundw
        case rel => exact ⟨i + 1, by omega, by go_num, by
            have h := (World.ownsRow.stored hown.out (p + i * k) (vI (p + ((i : Int) + 1) * k))).1
            show World.ownsRow _ _ _ _ _ _ ((chainTo xs p k n (i + 1)).map vI)
            unfold chainTo
            rw [if_pos hlast, List.map_set]
            rw [show (((p + (i + 1) * k : Nat) : Int)) = p + ((i : Int) + 1) * k from by simp]
            exact h, hbw.setCell hg _⟩
        case measure => simp [intOf]; omega
      · have hl2 : ¬ (i : Int) < (n : Int) - 1 := by omega
        go_wp2
        go_roundw
        case rel => exact ⟨i + 1, by omega, by go_num, by
            have h := (World.ownsRow.stored hown.out (p + i * k) (vI (-1))).1
            show World.ownsRow _ _ _ _ _ _ ((chainTo xs p k n (i + 1)).map vI)
            unfold chainTo
            rw [if_neg hlast, List.map_set]
            exact h, hbw.setCell hg _⟩
        case measure => simp [intOf]; omega
    · obtain rfl : i = n := by omega
      go_wp2
      go_ret2
      exact ⟨a', c', rfl, hown.out, hbw⟩

end Go.Proofs.YtkcaheebaicinaaGreatDoor
/- Heaps of pages in plain words: zones, lists, what is given away. No program in sight. -/
namespace Go.Proofs.YtkcaheebaicinaaGreatDoor
set_option linter.unusedVariables false

/-- pages that a processor keeps, of a zone and a type -/
structure Ls where
  c : Nat
  z : Nat
  t : Nat
  p : List Nat
deriving DecidableEq
def Ls.key (l : Ls) : Nat := (l.c * 2 + l.z) * 3 + l.t
def pgs (l : List Nat) : List Bk := l.map fun p => ⟨p, 0, 0⟩
def lsB : List Ls → List Bk
  | [] => []
  | l :: r => pgs l.p ++ lsB r
structure Hp where
  z0 : Zn
  z1 : Zn
  m0 : Nat
  m1 : Nat
  cpus : Nat
  ls : List Ls
  live : List Bk
deriving DecidableEq
def Hp.all (h : Hp) : List Bk := h.z0.l ++ (h.z1.l ++ (lsB h.ls ++ h.live))
def okLs (cpus split : Nat) (l : Ls) : Prop := l.c < cpus ∧ l.z < 2 ∧ l.t < 3 ∧ 0 < l.p.length ∧ l.p.length ≤ 8 ∧ ∀ p ∈ l.p, p < 256 ∧ (p < split ↔ l.z = 0)

/-- a heap that may be -/
structure HOk (h : Hp) : Prop where
  o0 : h.z0.ok
  o1 : h.z1.ok
  f0 : h.z0.f = 0
  e0 : h.z0.e = h.z1.f
  e1 : h.z1.e = 256
  m0 : h.m0 ≤ 256
  m1 : h.m1 ≤ 256
  cp : 1 ≤ h.cpus ∧ h.cpus ≤ 4
  lk : h.ls.Pairwise fun a b => a.key < b.key
  lr : ∀ l ∈ h.ls, okLs h.cpus h.z0.e l
  lv : ∀ b ∈ h.live, fitsB 0 256 b.a b.o ∧ b.t < 3
  vs : h.live.Pairwise fun x y => x.a < y.a
  one : ∀ p, cnt h.all p ≤ 1

def Hp.zone (h : Hp) (i : Nat) : Zn := if i = 0 then h.z0 else h.z1
def Hp.setZ (h : Hp) (i : Nat) (z : Zn) : Hp := if i = 0 then { h with z0 := z } else { h with z1 := z }
def Hp.zof (h : Hp) (p : Nat) : Nat := if p < h.z0.e then 0 else 1
def Hp.min (h : Hp) (i : Nat) : Nat := if i = 0 then h.m0 else h.m1
/-- a block goes to its zone -/
def Hp.backB (h : Hp) (a o : Nat) : Hp := h.setZ (h.zof a) ((h.zone (h.zof a)).back a o)
/-- so many pages of a zone must stay free -/
def Hp.held (h : Hp) (i : Nat) (urgent low : Bool) : Nat := (if urgent then h.min i / 2 else h.min i) + (if i = 0 ∧ low = false then (h.z1.e - h.z1.f) / 32 else 0)
def Hp.takeZ (h : Hp) (i order t hd : Nat) : Option (Hp × Nat) := if szB (h.zone i).l < hd + 2 ^ order then none else match (h.zone i).take order t with
  | some (z', a) => some (h.setZ i z', a)
  | none => none
def lbL (ls : List Ls) (k : Nat) : Nat := (ls.takeWhile fun l => decide (l.key < k)).length
def hasL (ls : List Ls) (k : Nat) : Bool := match ls[lbL ls k]? with
  | some l => decide (l.key = k)
  | none => false
def pushL (ls : List Ls) (l : Ls) (p : Nat) : List Ls := match ls[lbL ls l.key]? with
  | some x => if x.key = l.key then ls.set (lbL ls l.key) { x with p := x.p ++ [p] } else ls.take (lbL ls l.key) ++ { l with p := [p] } :: ls.drop (lbL ls l.key)
  | none => ls.take (lbL ls l.key) ++ { l with p := [p] } :: ls.drop (lbL ls l.key)
/-- the list is filled: n times, as long as there is enough -/
def Hp.fill (h : Hp) (l : Ls) (hd : Nat) : Nat → Hp
  | 0 => h
  | n + 1 => match h.takeZ l.z 0 l.t hd with
    | some (h', q) => Hp.fill { h' with ls := pushL h'.ls l q } l hd n
    | none => h
/-- a single page: from a list; an empty one is filled first -/
def Hp.single (h : Hp) (l : Ls) (hd : Nat) : Option (Hp × Nat) := match h.ls[lbL h.ls l.key]? with
  | some x => if x.key = l.key then some ({ h with ls := if x.p.length = 1 then h.ls.eraseIdx (lbL h.ls l.key) else h.ls.set (lbL h.ls l.key) { x with p := x.p.dropLast } }, x.p.getLastD 0) else (h.takeZ l.z 0 l.t hd).map fun r => (r.1.fill l hd 3, r.2)
  | none => (h.takeZ l.z 0 l.t hd).map fun r => (r.1.fill l hd 3, r.2)
def Hp.ask (h : Hp) (cpu i order t : Nat) (urgent low : Bool) : Option (Hp × Nat) := if order = 0 then h.single ⟨cpu, i, t, []⟩ (h.held i urgent low) else h.takeZ i order t (h.held i urgent low)
def Hp.attempt (h : Hp) (cpu order t : Nat) (urgent low : Bool) : Option (Hp × Nat) :=
  if low then h.ask cpu 0 order t urgent low else match h.ask cpu 1 order t urgent low with
    | some r => some r
    | none => h.ask cpu 0 order t urgent low
def backAll (h : Hp) : List Nat → Hp
  | [] => h
  | p :: l => backAll (h.backB p 0) l
def drainL (h : Hp) : List Ls → Hp
  | [] => h
  | l :: r => drainL (backAll h l.p) r
def Hp.drain (h : Hp) : Hp := { drainL h h.ls with ls := [] }
def Hp.alloc (h : Hp) (cpu order t : Nat) (urgent low : Bool) : Option (Hp × Nat) :=
  match (match h.attempt cpu order t urgent low with
    | some r => some r
    | none => h.drain.attempt cpu order t urgent low) with
  | some (h', a) => some ({ h' with live := putIn h'.live ⟨a, order, t⟩ }, a)
  | none => none
/-- a single page goes to a list; too many go back -/
def Hp.give (h : Hp) (cpu p : Nat) : Hp :=
  let l : Ls := ⟨cpu, h.zof p, (h.zone (h.zof p)).y.getD ((p - (h.zone (h.zof p)).f) / 8) 0, []⟩
  let h1 := { h with ls := pushL h.ls l p }
  match h1.ls[lbL h1.ls l.key]? with
  | some x => if 8 < x.p.length then { backAll h1 (x.p.take 4) with ls := h1.ls.set (lbL h1.ls l.key) { x with p := x.p.drop 4 } } else h1
  | none => h1
def Hp.freeB (h : Hp) (cpu i : Nat) (b : Bk) : Hp :=
  let h1 := { h with live := h.live.eraseIdx i }
  if 0 < b.o then h1.backB b.a b.o else h1.give cpu b.a
end Go.Proofs.YtkcaheebaicinaaGreatDoor
/- Contracts of package buddy: lowest; the predicate of Back. -/
namespace Go.Proofs.YtkcaheebaicinaaGreatDoor
open Go.RowKit
set_option linter.unusedVariables false

set_option maxHeartbeats 2000000 in
/-- do a block and one of a place and an order meet? -/
theorem meets_bk (x b : Bk) (B : Nat) (W : World) (hx : x.o ≤ 4) (hxa : x.a ≤ 1000) (hb : b.o ≤ 4) (hba : b.a ≤ 1000) (hB : B < W.heap.size) (h0 : W.cell? ⟨B, 0, none⟩ = some (.int .i64 b.a)) (h1 : W.cell? ⟨B, 1, none⟩ = some (.int .i64 b.o)) (h2 : W.cell? ⟨B, 2, none⟩ = some (.int .i64 b.t)) :
    Calls Tryz.prog 124 (#[.agg (encBk x).toArray] ++ #[.pointer (some ⟨B, 0, none⟩)]) W fun ev w' => ev = .returned (.bool (decide (x.a < b.fin ∧ b.a < x.fin))) ∧ Below W.heap.size W w' := by
  show Calls Tryz.prog 124 #[.agg #[.int .i64 x.a, .int .i64 x.o, .int .i64 x.t], .pointer (some ⟨B, 0, none⟩)] W _
  have hb0 := below_alloc W (.cells #[.int .i64 (x.a : Int), .int .i64 (x.o : Int), .int .i64 (x.t : Int)] 95)
  have K := box_new W #[.int .i64 (x.a : Int), .int .i64 (x.o : Int), .int .i64 (x.t : Int)] 95
  have hs : W.heap.size < (W.alloc (.cells #[.int .i64 (x.a : Int), .int .i64 (x.o : Int), .int .i64 (x.t : Int)] 95)).heap.size := by simp
  have hB2 : B < (W.alloc (.cells #[.int .i64 (x.a : Int), .int .i64 (x.o : Int), .int .i64 (x.t : Int)] 95)).heap.size := by omega
  have g0 := (hb0.cell (p := ⟨B, 0, none⟩) hB).trans h0
  have g1 := (hb0.cell (p := ⟨B, 1, none⟩) hB).trans h1
  have g2 := (hb0.cell (p := ⟨B, 2, none⟩) hB).trans h2
  have k0 := K 0
  have k1 := K 1
  have k2 := K 2
  simp only [List.getElem?_toArray, List.getElem?_cons_zero, List.getElem?_cons_succ] at k0 k1 k2
  have c1 : ((x.a : Int) < (b.fin : Int)) ↔ x.a < b.fin := by omega
  clear h0 h1 h2 K
  cases hd : decide (x.a < b.fin) with
  | true =>
    have hd' : decide ((x.a : Int) < (b.fin : Int)) = true := decide_eq_true (by have := of_decide_eq_true hd; omega)
    go_enter Tryz.func124, Tryz.ntmps124
    go_wp2_with fail
    generalize W.alloc (.cells #[.int .i64 (x.a : Int), .int .i64 (x.o : Int), .int .i64 (x.t : Int)] 95) = w0 at *
    refine wp_region_ext_lit (by kernel_rfl) (by kernel_rfl) ?_
    repeat (first | go_big_quiet_step ((go_at_call 105; first | with_reducible exact Calls.ext_of (end_bk b _ hb hba) | with_reducible exact Calls.ext_of (end_bk x _ hx hxa))) | quiet_step ((go_at_call 105; first | with_reducible exact Calls.ext_of (end_bk b _ hb hba) | with_reducible exact Calls.ext_of (end_bk x _ hx hxa))))
    refine wpQuiet_nil ?_
    rintro _ ⟨wx, rfl⟩
    have hbx := Below.step hb0 (ext_below w0 wx)
    go_wp2
    go_ret
    exact ⟨ret_bool (by rw [Bool.decide_and, hd, Bool.true_and]), hbx⟩
  | false =>
    have hd' : decide ((x.a : Int) < (b.fin : Int)) = false := decide_eq_false (by have := of_decide_eq_false hd; omega)
    go_enter Tryz.func124, Tryz.ntmps124
    go_wp2_with fail
    generalize W.alloc (.cells #[.int .i64 (x.a : Int), .int .i64 (x.o : Int), .int .i64 (x.t : Int)] 95) = w0 at *
    refine wp_region_ext_lit (by kernel_rfl) (by kernel_rfl) ?_
    repeat (first | go_big_quiet_step ((go_at_call 105; first | with_reducible exact Calls.ext_of (end_bk b _ hb hba) | with_reducible exact Calls.ext_of (end_bk x _ hx hxa))) | quiet_step ((go_at_call 105; first | with_reducible exact Calls.ext_of (end_bk b _ hb hba) | with_reducible exact Calls.ext_of (end_bk x _ hx hxa))))
    refine wpQuiet_nil ?_
    rintro _ ⟨wx, rfl⟩
    have hbx := Below.step hb0 (ext_below w0 wx)
    go_wp2
    go_ret
    exact ⟨ret_bool (by rw [Bool.decide_and, hd, Bool.false_and]), hbx⟩

theorem isOne (b : Bk) (o t B C : Nat) (W : World) (hB : B < W.heap.size) (hc : W.cell? ⟨B, 0, none⟩ = some (.int .i64 o)) (hC : C < W.heap.size) (hc2 : W.cell? ⟨C, 0, none⟩ = some (.int .i64 t)) :
    Calls Tryz.prog 156 (#[.agg (encBk b).toArray] ++ #[.pointer (some ⟨B, 0, none⟩), .pointer (some ⟨C, 0, none⟩)]) W fun ev w' => ev = .returned (.bool (decide (b.o = o ∧ b.t = t))) ∧ Below W.heap.size W w' := by
  have hne : B ≠ W.heap.size := by omega
  have hne2 : C ≠ W.heap.size := by omega
  show Calls Tryz.prog 156 #[.agg #[.int .i64 b.a, .int .i64 b.o, .int .i64 b.t], .pointer (some ⟨B, 0, none⟩), .pointer (some ⟨C, 0, none⟩)] W _
  by_cases c1 : b.o = o
  · by_cases c2 : b.t = t
    · subst c1 c2
      go_enter Tryz.func156, Tryz.ntmps156
      go_wp2
      go_ret
      exact ⟨ret_bool (by simp), below_alloc _ _⟩
    · have d2 : ((b.t : Int) == (t : Int)) = false := by rw [beq_eq_false_iff_ne]; omega
      subst c1
      go_enter Tryz.func156, Tryz.ntmps156
      go_wp2
      go_ret
      exact ⟨ret_bool (by symm; exact decide_eq_false (fun h => c2 h.2)), below_alloc _ _⟩
  · have d1 : ((b.o : Int) == (o : Int)) = false := by rw [beq_eq_false_iff_ne]; omega
    go_enter Tryz.func156, Tryz.ntmps156
    go_wp2
    go_ret
    exact ⟨ret_bool (by symm; exact decide_eq_false (fun h => c1 h.1)), below_alloc _ _⟩

theorem lowest_ok (a1 a2 : Option Addr) (n1 n2 c1 c2 : Nat) (f e : Nat) (z : Zn) (o t : Nat) (w : World) (hat : ZAt w a1 a2 n1 n2 z) (hl : n1 ≤ 1000) :
    Calls Tryz.prog 145 #[.agg #[.int .i64 f, .int .i64 e, .slice a1 n1 c1, .slice a2 n2 c2], .int .i64 o, .int .i64 t] w fun ev w' => ev = .returned (.int .i64 (findI (fun b => decide (b.o = o ∧ b.t = t)) z.l)) ∧ Below w.heap.size w w' := by
  obtain ⟨K3, K4, K5, F3, F4, F5, hsz, hbw⟩ := boxes3 w #[.int .i64 (f : Int), .int .i64 (e : Int), .slice a1 n1 c1, .slice a2 n2 c2] 110 #[.int .i64 (o : Int)] 3 #[.int .i64 (t : Int)] 3
  have hat0 := hat.below hbw
  have l1 := hat.l1
  have k4 := K4 0
  have k5 := K5 0
  simp only [List.getElem?_toArray, List.getElem?_cons_zero] at k4 k5
  clear hat K3 K4 K5 F3 F4 F5
  have eg : ∀ args w, (callFunc 156 args).run Tryz.prog w = .ok (.enter 156 args) w := enters_of Tryz.func156 (by kernel_rfl) rfl
  go_enter Tryz.func145, Tryz.ntmps145
  go_wp2_with fail
  generalize ((w.alloc (.cells #[.int .i64 (f : Int), .int .i64 (e : Int), .slice a1 n1 c1, .slice a2 n2 c2] 110)).alloc (.cells #[.int .i64 (o : Int)] 3)).alloc (.cells #[.int .i64 (t : Int)] 3) = w0 at *
  refine (indexFuncBk _ _ _ z.l _ _ (fun b => decide (b.o = o ∧ b.t = t)) _ l1 (by omega) hat0.r1 eg (fun W hW x hx => isOne x o t _ _ W (Nat.lt_of_lt_of_le (show w.heap.size + 1 < w0.heap.size by omega) hW.size) ((hW.cell (p := ⟨w.heap.size + 1, 0, none⟩) (by show w.heap.size + 1 < _; omega)).trans k4) (Nat.lt_of_lt_of_le (show w.heap.size + 1 + 1 < w0.heap.size by omega) hW.size) ((hW.cell (p := ⟨w.heap.size + 1 + 1, 0, none⟩) (by show w.heap.size + 1 + 1 < _; omega)).trans k5))).mono ?_
  rintro ev w1 ⟨rfl, hb1⟩
  go_wp2
  go_ret
  exact ⟨ret_int (by simp only [Bool.decide_and]), Below.step hbw hb1⟩
end Go.Proofs.YtkcaheebaicinaaGreatDoor
/- Heaps of pages in plain words: what Back and Take do. No program in sight. -/
namespace Go.Proofs.YtkcaheebaicinaaGreatDoor
set_option linter.unusedVariables false

theorem cnt_all (h : Hp) (p : Nat) : cnt h.all p = cnt h.z0.l p + cnt h.z1.l p + cnt (lsB h.ls) p + cnt h.live p := by
  unfold Hp.all
  rw [cnt_append, cnt_append, cnt_append]
  omega
theorem zone_cnt (h : Hp) (i p : Nat) : cnt (h.zone i).l p ≤ cnt h.all p := by
  rw [cnt_all]
  unfold Hp.zone
  split <;> omega
theorem all_setZ (h : Hp) (i : Nat) (z : Zn) (p : Nat) : cnt (h.setZ i z).all p + cnt (h.zone i).l p = cnt h.all p + cnt z.l p := by
  rw [cnt_all, cnt_all]
  unfold Hp.setZ Hp.zone
  split <;> simp only <;> omega
theorem HOk.zone {h : Hp} (hk : HOk h) (i : Nat) : (h.zone i).ok := by
  unfold Hp.zone
  split
  · exact hk.o0
  · exact hk.o1
theorem HOk.setZ {h : Hp} (hk : HOk h) (i : Nat) {z : Zn} (hz : z.ok) (hf : z.f = (h.zone i).f) (he : z.e = (h.zone i).e) (h1 : ∀ p, cnt (h.setZ i z).all p ≤ 1) : HOk (h.setZ i z) := by
  by_cases hi : i = 0
  · subst hi
    have e : h.setZ 0 z = { h with z0 := z } := if_pos rfl
    have e2 : h.zone 0 = h.z0 := if_pos rfl
    rw [e2] at hf he
    rw [e] at h1 ⊢
    exact ⟨hz, hk.o1, hf.trans hk.f0, he.trans hk.e0, hk.e1, hk.m0, hk.m1, hk.cp, hk.lk, fun l hl => by simp only; rw [he]; exact hk.lr l hl, hk.lv, hk.vs, h1⟩
  · have e : h.setZ i z = { h with z1 := z } := if_neg hi
    have e2 : h.zone i = h.z1 := if_neg hi
    rw [e2] at hf he
    rw [e] at h1 ⊢
    exact ⟨hk.o0, hz, hk.f0, hk.e0.trans hf.symm, he.trans hk.e1, hk.m0, hk.m1, hk.cp, hk.lk, hk.lr, hk.lv, hk.vs, h1⟩
/-- what a change of a zone's blocks leaves -/
structure Same (h g : Hp) : Prop where
  m0 : g.m0 = h.m0
  m1 : g.m1 = h.m1
  cpus : g.cpus = h.cpus
  split : g.z0.e = h.z0.e
theorem Same.refl (h : Hp) : Same h h := ⟨rfl, rfl, rfl, rfl⟩
theorem Same.trans {a b c : Hp} (h1 : Same a b) (h2 : Same b c) : Same a c := ⟨h2.m0.trans h1.m0, h2.m1.trans h1.m1, h2.cpus.trans h1.cpus, h2.split.trans h1.split⟩
theorem same_setZ {h : Hp} {i : Nat} {z : Zn} (he : z.e = (h.zone i).e) : Same h (h.setZ i z) ∧ (h.setZ i z).ls = h.ls ∧ (h.setZ i z).live = h.live := by
  unfold Hp.setZ
  unfold Hp.zone at he
  split
  · rename_i hi
    rw [if_pos hi] at he
    exact ⟨⟨rfl, rfl, rfl, he⟩, rfl, rfl⟩
  · exact ⟨⟨rfl, rfl, rfl, rfl⟩, rfl, rfl⟩
/-- a block that fits lies in the zone of its place -/
theorem HOk.fits {h : Hp} (hk : HOk h) {a o : Nat} (hb : fitsB 0 256 a o) : fitsB (h.zone (h.zof a)).f (h.zone (h.zof a)).e a o := by
  obtain ⟨h1, h2, h3, h4⟩ := hb
  unfold Hp.zof
  by_cases hlt : a < h.z0.e
  · rw [if_pos hlt]
    have e : h.zone 0 = h.z0 := if_pos rfl
    rw [e, hk.f0]
    exact ⟨h1, by omega, hlt, h4⟩
  · rw [if_neg hlt]
    have e : h.zone 1 = h.z1 := if_neg (by omega)
    rw [e, hk.e1, ← hk.e0]
    exact ⟨h1, by omega, h3, h4⟩
theorem HOk.backB {h : Hp} (hk : HOk h) {a o : Nat} (hb : fitsB 0 256 a o) (hd : ∀ p, cnt h.all p + hit ⟨a, o, 0⟩ p ≤ 1) :
    HOk (h.backB a o) ∧ (∀ p, cnt (h.backB a o).all p = cnt h.all p + hit ⟨a, o, 0⟩ p) ∧ Same h (h.backB a o) ∧ (h.backB a o).ls = h.ls ∧ (h.backB a o).live = h.live := by
  have hz := hk.zone (h.zof a)
  have hfit := hk.fits hb
  have hap : ∀ x ∈ (h.zone (h.zof a)).l, apartB a o x := fun x hx => apart_of_disj fun p h1 h2 => by
    have g1 := hd p
    have g2 := zone_cnt h (h.zof a) p
    have g3 := cnt_pos.2 (show covL (h.zone (h.zof a)).l p from ⟨x, hx, h2⟩)
    have g4 : hit ⟨a, o, 0⟩ p = 1 := hit_one.2 h1
    omega
  have hc : ∀ p, cnt (h.backB a o).all p = cnt h.all p + hit ⟨a, o, 0⟩ p := fun p => by
    have g1 := all_setZ h (h.zof a) ((h.zone (h.zof a)).back a o) p
    have g2 := cnt_back hz hfit hap 0 p
    unfold Hp.backB
    omega
  have hs := same_setZ (h := h) (i := h.zof a) (z := (h.zone (h.zof a)).back a o) rfl
  exact ⟨hk.setZ _ (Zn.back_ok hz hfit hap).1 rfl rfl (fun p => by have := hc p; unfold Hp.backB at this; rw [this]; exact hd p), hc, hs.1, hs.2.1, hs.2.2⟩
theorem szB_le {z : Zn} (hz : z.ok) : szB z.l ≤ 256 := by
  have h1 : ∀ b ∈ z.l, b.fin ≤ 256 := fun b hb => by
    have h2 := (hz.2.fit b hb).1
    have h3 := fits_end hz.1.e16 h2
    have h4 := hz.1.e2
    unfold Bk.fin
    omega
  rw [← sumTo_cnt h1]
  have h5 : ∀ n, sumTo (cnt z.l) n ≤ n := fun n => by
    induction n with
    | zero => exact Nat.le_refl _
    | succ n ih =>
      have := cnt_apart (sep_apart hz.2.sep) n
      rw [sumTo]
      omega
  exact h5 256
/-- what a take gives -/
structure Took (h : Hp) (order : Nat) (h' : Hp) (a : Nat) : Prop where
  ok : HOk h'
  fit : fitsB 0 256 a order
  c : ∀ t p, cnt h'.all p + hit ⟨a, order, t⟩ p = cnt h.all p
  same : Same h h'
  live : h'.live = h.live
theorem HOk.takeZ {h h' : Hp} (hk : HOk h) {i order t hd a : Nat} (ho : order ≤ 4) (ht : t < 3) (hi : i < 2) (he : h.takeZ i order t hd = some (h', a)) :
    Took h order h' a ∧ h'.ls = h.ls ∧ (a < h.z0.e ↔ i = 0) := by
  unfold Hp.takeZ at he
  split at he
  · cases he
  · cases hz : (h.zone i).take order t with
    | none => rw [hz] at he; cases he
    | some r =>
      obtain ⟨z', a'⟩ := r
      rw [hz] at he
      simp only [Option.some.injEq, Prod.mk.injEq] at he
      obtain ⟨rfl, rfl⟩ := he
      have hzok := hk.zone i
      have hex : ∃ b ∈ (h.zone i).l, order ≤ b.o := Classical.byContradiction fun hn => by
        rw [Zn.take_none hn] at hz; cases hz
      obtain ⟨z2, a2, h1, hT⟩ := Zn.take_some hzok ho ht hex
      rw [hz] at h1
      simp only [Option.some.injEq, Prod.mk.injEq] at h1
      obtain ⟨rfl, rfl⟩ := h1
      have hc : ∀ t p, cnt (h.setZ i z').all p + hit ⟨a', order, t⟩ p = cnt h.all p := fun t p => by
        have g1 := all_setZ h i z' p
        have g2 := cnt_take hzok hT t p
        omega
      have hs := same_setZ (h := h) (i := i) (z := z') hT.e
      have hfit := hT.fit
      have hbound : fitsB 0 256 a' order ∧ (a' < h.z0.e ↔ i = 0) := by
        obtain ⟨g1, g2, g3, g4⟩ := hfit
        unfold Hp.zone at g2 g3
        by_cases hi0 : i = 0
        · rw [if_pos hi0] at g2 g3
          have := hk.o0.1.e2
          exact ⟨⟨g1, by omega, by omega, g4⟩, fun _ => hi0, fun _ => g3⟩
        · rw [if_neg hi0] at g2 g3
          have := hk.e1
          have := hk.e0
          exact ⟨⟨g1, by omega, by omega, g4⟩, fun h => by omega, fun h => absurd h hi0⟩
      exact ⟨⟨hk.setZ i hT.ok hT.f hT.e (fun p => by have := hc 0 p; have := hk.one p; omega), hbound.1, hc, hs.1, hs.2.2⟩, hs.2.1, hbound.2⟩
end Go.Proofs.YtkcaheebaicinaaGreatDoor
/- Heaps of pages in plain words: lists of single pages. No program in sight. -/
namespace Go.Proofs.YtkcaheebaicinaaGreatDoor
set_option linter.unusedVariables false

theorem lsB_append (l m : List Ls) : lsB (l ++ m) = lsB l ++ lsB m := by
  induction l with
  | nil => rfl
  | cons x l ih => rw [List.cons_append, lsB, lsB, ih, List.append_assoc]
theorem cnt_pgs_append (l m : List Nat) (q : Nat) : cnt (pgs (l ++ m)) q = cnt (pgs l) q + cnt (pgs m) q := by
  unfold pgs
  rw [List.map_append, cnt_append]
theorem cnt_pgs_one (p q : Nat) : cnt (pgs [p]) q = hit ⟨p, 0, 0⟩ q := rfl
theorem cnt_lsB_app (l m : List Ls) (q : Nat) : cnt (lsB (l ++ m)) q = cnt (lsB l) q + cnt (lsB m) q := by rw [lsB_append, cnt_append]
theorem cnt_lsB_cons (x : Ls) (l : List Ls) (q : Nat) : cnt (lsB (x :: l)) q = cnt (pgs x.p) q + cnt (lsB l) q := by rw [lsB, cnt_append]
theorem split_at {l : List Ls} {i : Nat} (hi : i < l.length) : l = l.take i ++ l[i] :: l.drop (i + 1) := by
  rw [← List.drop_eq_getElem_cons hi, List.take_append_drop]
theorem cnt_lsB_set {l : List Ls} {i : Nat} (hi : i < l.length) (x : Ls) (q : Nat) : cnt (lsB (l.set i x)) q + cnt (pgs l[i].p) q = cnt (lsB l) q + cnt (pgs x.p) q := by
  have h1 : l.set i x = l.take i ++ x :: l.drop (i + 1) := by rw [List.set_eq_take_append_cons_drop, if_pos hi]
  conv => rhs; rw [split_at hi]
  rw [h1, cnt_lsB_app, cnt_lsB_app, cnt_lsB_cons, cnt_lsB_cons]
  omega
theorem cnt_lsB_erase {l : List Ls} {i : Nat} (hi : i < l.length) (q : Nat) : cnt (lsB (l.eraseIdx i)) q + cnt (pgs l[i].p) q = cnt (lsB l) q := by
  conv => rhs; rw [split_at hi]
  rw [List.eraseIdx_eq_take_drop_succ, cnt_lsB_app, cnt_lsB_app, cnt_lsB_cons]
  omega
theorem cnt_lsB_ins (l : List Ls) (i : Nat) (x : Ls) (q : Nat) : cnt (lsB (l.take i ++ x :: l.drop i)) q = cnt (lsB l) q + cnt (pgs x.p) q := by
  conv => rhs; rw [← List.take_append_drop i l]
  rw [cnt_lsB_app, cnt_lsB_app, cnt_lsB_cons]
  omega
theorem cnt_push (ls : List Ls) (l : Ls) (p q : Nat) : cnt (lsB (pushL ls l p)) q = cnt (lsB ls) q + hit ⟨p, 0, 0⟩ q := by
  unfold pushL
  split
  · rename_i x hx
    obtain ⟨hi, hxi⟩ := List.getElem?_eq_some_iff.1 hx
    split
    · have h := cnt_lsB_set hi { x with p := x.p ++ [p] } q
      rw [hxi] at h
      simp only [cnt_pgs_append, cnt_pgs_one] at h
      omega
    · rw [cnt_lsB_ins]
      rfl
  · rw [cnt_lsB_ins]
    rfl

/-! ## Order -/
def RiseL (ls : List Ls) : Prop := ls.Pairwise fun a b => a.key < b.key
theorem lbL_le (ls : List Ls) (k : Nat) : lbL ls k ≤ ls.length := by
  unfold lbL
  exact (List.takeWhile_prefix _).length_le
theorem lbL_below {ls : List Ls} {k : Nat} : ∀ x ∈ ls.take (lbL ls k), x.key < k := by
  intro x hx
  unfold lbL at hx
  rw [take_tw] at hx
  exact of_decide_eq_true (tw_mem (p := fun l : Ls => decide (l.key < k)) hx)
theorem lbL_above {ls : List Ls} (h : RiseL ls) {k : Nat} : ∀ x ∈ ls.drop (lbL ls k), k ≤ x.key := by
  intro x hx
  unfold lbL at hx
  rw [drop_tw] at hx
  induction ls with
  | nil => simp at hx
  | cons y ls ih =>
    obtain ⟨h1, h2⟩ := List.pairwise_cons.1 h
    by_cases hy : y.key < k
    · rw [List.dropWhile_cons_of_pos (by simpa using hy)] at hx
      exact ih h2 hx
    · rw [List.dropWhile_cons_of_neg (by simpa using hy), List.mem_cons] at hx
      rcases hx with rfl | hx
      · omega
      · have := h1 x hx; omega
theorem rise_set {ls : List Ls} (h : RiseL ls) {i : Nat} (hi : i < ls.length) {x : Ls} (hx : x.key = ls[i].key) : RiseL (ls.set i x) := by
  unfold RiseL at *
  rw [List.pairwise_iff_getElem] at *
  intro a b ha hb hab
  rw [List.length_set] at ha hb
  rw [List.getElem_set, List.getElem_set]
  have h1 := h a b ha hb hab
  by_cases e1 : i = a
  · subst e1
    rw [if_pos rfl, if_neg (by omega), hx]
    exact h1
  · rw [if_neg e1]
    by_cases e2 : i = b
    · subst e2
      rw [if_pos rfl, hx]
      exact h1
    · rw [if_neg e2]
      exact h1
theorem rise_ins {ls : List Ls} (h : RiseL ls) {x : Ls} (hn : ∀ y ∈ ls, y.key ≠ x.key) : RiseL (ls.take (lbL ls x.key) ++ x :: ls.drop (lbL ls x.key)) := by
  unfold RiseL
  rw [List.pairwise_append]
  refine ⟨h.sublist (List.take_sublist _ _), List.pairwise_cons.2 ⟨fun y hy => ?_, h.sublist (List.drop_sublist _ _)⟩, fun a ha b hb => ?_⟩
  · have h1 := lbL_above h y hy
    have h2 := hn y (List.mem_of_mem_drop hy)
    omega
  · have h1 := lbL_below a ha
    rw [List.mem_cons] at hb
    rcases hb with rfl | hb
    · exact h1
    · have h2 := lbL_above h b hb
      omega
/-- the list of a key stands where it would stand -/
theorem lbL_hit {ls : List Ls} (h : RiseL ls) {x : Ls} (hx : x ∈ ls) : ls[lbL ls x.key]? = some x := by
  have hm : x ∈ ls.drop (lbL ls x.key) := by
    have := hx
    rw [← List.take_append_drop (lbL ls x.key) ls, List.mem_append] at this
    rcases this with h1 | h1
    · have := lbL_below x h1; omega
    · exact h1
  cases hd : ls.drop (lbL ls x.key) with
  | nil => rw [hd] at hm; simp at hm
  | cons y r =>
    have hy : ls[lbL ls x.key]? = some y := by
      have := congrArg (·[0]?) hd
      simpa [List.getElem?_drop] using this
    rw [hd, List.mem_cons] at hm
    rcases hm with rfl | hm
    · exact hy
    · have h1 : (ls.drop (lbL ls x.key)).Pairwise fun a b => a.key < b.key := h.sublist (List.drop_sublist _ _)
      rw [hd] at h1
      have h2 := (List.pairwise_cons.1 h1).1 x hm
      have h3 := lbL_above h (k := x.key) y (by rw [hd]; simp)
      omega
/-- none of a key: none stands there -/
theorem lbL_miss {ls : List Ls} (h : RiseL ls) {k : Nat} (hm : ∀ y, ls[lbL ls k]? = some y → y.key ≠ k) : ∀ y ∈ ls, y.key ≠ k := by
  intro y hy e
  subst e
  exact hm y (lbL_hit h hy) rfl
theorem key_inj {a b : Ls} (ha : a.z < 2 ∧ a.t < 3) (hb : b.z < 2 ∧ b.t < 3) (h : a.key = b.key) : a.c = b.c ∧ a.z = b.z ∧ a.t = b.t := by
  unfold Ls.key at h
  omega

/-- pages of a list, with another bound on how many there are -/
def okLsN (N cpus split : Nat) (l : Ls) : Prop := l.c < cpus ∧ l.z < 2 ∧ l.t < 3 ∧ 0 < l.p.length ∧ l.p.length ≤ N ∧ ∀ p ∈ l.p, p < 256 ∧ (p < split ↔ l.z = 0)
theorem okLs_iff (cpus split : Nat) (l : Ls) : okLs cpus split l ↔ okLsN 8 cpus split l := Iff.rfl
theorem push_rise {ls : List Ls} (h : RiseL ls) (l : Ls) (p : Nat) : RiseL (pushL ls l p) := by
  unfold pushL
  split
  · rename_i x hx
    obtain ⟨hi, hxi⟩ := List.getElem?_eq_some_iff.1 hx
    split
    · exact rise_set h hi (by rw [hxi]; rfl)
    · rename_i hne
      exact rise_ins (x := { l with p := [p] }) h (lbL_miss h fun y hy => by
        change ls[lbL ls l.key]? = some y at hy
        rw [hx] at hy
        obtain rfl := Option.some.inj hy
        exact hne)
  · rename_i hx
    exact rise_ins (x := { l with p := [p] }) h (lbL_miss h fun y hy => by
      change ls[lbL ls l.key]? = some y at hy
      rw [hx] at hy
      cases hy)
theorem push_ok {ls : List Ls} {N M cpus split : Nat} (h : ∀ x ∈ ls, okLsN N cpus split x) {l : Ls} {p : Nat} (hl : l.c < cpus ∧ l.z < 2 ∧ l.t < 3) (hp : p < 256 ∧ (p < split ↔ l.z = 0)) (hNM : N ≤ M) (hM : 1 ≤ M) (hx : ∀ x ∈ ls, x.key = l.key → x.p.length + 1 ≤ M) : ∀ x ∈ pushL ls l p, okLsN M cpus split x := by
  have up : ∀ x ∈ ls, okLsN M cpus split x := fun x hx => by
    obtain ⟨h1, h2, h3, h4, h5, h6⟩ := h x hx
    exact ⟨h1, h2, h3, h4, by omega, h6⟩
  have new : okLsN M cpus split { l with p := [p] } := ⟨hl.1, hl.2.1, hl.2.2, by simp, by simpa using hM, fun q hq => by
    obtain rfl : q = p := by simpa using hq
    exact hp⟩
  intro y hy
  unfold pushL at hy
  split at hy
  · rename_i x hxe
    obtain ⟨hi, hxi⟩ := List.getElem?_eq_some_iff.1 hxe
    have hxm : x ∈ ls := by rw [← hxi]; exact List.getElem_mem hi
    split at hy
    · rename_i hk
      rcases List.mem_or_eq_of_mem_set hy with hy | rfl
      · exact up y hy
      · obtain ⟨h1, h2, h3, h4, h5, h6⟩ := h x hxm
        have hkk := key_inj ⟨h2, h3⟩ ⟨hl.2.1, hl.2.2⟩ hk
        refine ⟨h1, h2, h3, by simp, by have := hx x hxm hk; simpa using this, fun q hq => ?_⟩
        simp only [List.mem_append, List.mem_singleton] at hq
        rcases hq with hq | rfl
        · exact h6 q hq
        · exact ⟨hp.1, by rw [hkk.2.1]; exact hp.2⟩
    · rw [List.mem_append, List.mem_cons] at hy
      rcases hy with hy | rfl | hy
      · exact up y (List.mem_of_mem_take hy)
      · exact new
      · exact up y (List.mem_of_mem_drop hy)
  · rw [List.mem_append, List.mem_cons] at hy
    rcases hy with hy | rfl | hy
    · exact up y (List.mem_of_mem_take hy)
    · exact new
    · exact up y (List.mem_of_mem_drop hy)
end Go.Proofs.YtkcaheebaicinaaGreatDoor
/- Heaps of pages in plain words: single pages, filling, draining. No program in sight. -/
namespace Go.Proofs.YtkcaheebaicinaaGreatDoor
set_option linter.unusedVariables false

/-- a page comes to a list: what was in hand is there -/
theorem HOk.push {h : Hp} (hk : HOk h) {l : Ls} {p : Nat} (hl : l.c < h.cpus ∧ l.z < 2 ∧ l.t < 3) (hp : p < 256 ∧ (p < h.z0.e ↔ l.z = 0)) (h8 : ∀ x ∈ h.ls, x.key = l.key → x.p.length + 1 ≤ 8) (hd : ∀ q, cnt h.all q + hit ⟨p, 0, 0⟩ q ≤ 1) :
    HOk { h with ls := pushL h.ls l p } ∧ ∀ q, cnt ({ h with ls := pushL h.ls l p } : Hp).all q = cnt h.all q + hit ⟨p, 0, 0⟩ q := by
  have hc : ∀ q, cnt ({ h with ls := pushL h.ls l p } : Hp).all q = cnt h.all q + hit ⟨p, 0, 0⟩ q := fun q => by
    rw [cnt_all, cnt_all]
    simp only
    rw [cnt_push]
    omega
  exact ⟨⟨hk.o0, hk.o1, hk.f0, hk.e0, hk.e1, hk.m0, hk.m1, hk.cp, push_rise hk.lk l p, push_ok (N := 8) (M := 8) hk.lr hl hp (Nat.le_refl _) (by omega) h8, hk.lv, hk.vs, fun q => by rw [hc]; exact hd q⟩, hc⟩

/-- how long the list of a key is -/
def lenL (ls : List Ls) (k : Nat) : Nat := match ls.find? fun x => decide (x.key = k) with
  | some x => x.p.length
  | none => 0
theorem lenL_mem {ls : List Ls} (h : RiseL ls) {x : Ls} (hx : x ∈ ls) : lenL ls x.key = x.p.length := by
  unfold lenL
  have : ls.find? (fun y => decide (y.key = x.key)) = some x := by
    induction ls with
    | nil => simp at hx
    | cons y ls ih =>
      obtain ⟨h1, h2⟩ := List.pairwise_cons.1 h
      rw [List.mem_cons] at hx
      rcases hx with rfl | hx
      · rw [List.find?_cons_of_pos (by simp)]
      · rw [List.find?_cons_of_neg (by have := h1 x hx; simp; omega)]
        exact ih h2 hx
  rw [this]
theorem push_mem {ls : List Ls} {l : Ls} {p : Nat} (h : RiseL ls) : ∀ x ∈ pushL ls l p, x.key = l.key → x.p.length = lenL ls l.key + 1 := by
  intro x hx hkey
  have hr := push_rise h l p
  unfold pushL at hx hr
  split at hx
  · rename_i y hy
    obtain ⟨hi, hyi⟩ := List.getElem?_eq_some_iff.1 hy
    have hym : y ∈ ls := by rw [← hyi]; exact List.getElem_mem hi
    by_cases hk : y.key = l.key
    · rw [if_pos hk] at hx
      have hl := lenL_mem h hym
      rw [hk] at hl
      rcases List.mem_or_eq_of_mem_set hx with hm | rfl
      · obtain ⟨j, hj, rfl⟩ := List.getElem_of_mem hx
        rw [List.length_set] at hj
        rw [List.getElem_set] at hkey ⊢
        by_cases he : lbL ls l.key = j
        · rw [if_pos he] at hkey ⊢
          simp [hl]
        · rw [if_neg he] at hkey
          exfalso
          rcases Nat.lt_or_gt_of_ne he with hlt | hgt
          · have := List.pairwise_iff_getElem.1 h _ _ hi hj hlt
            rw [hyi, hk, hkey] at this
            omega
          · have := List.pairwise_iff_getElem.1 h _ _ hj hi hgt
            rw [hyi, hk, hkey] at this
            omega
      · simp [hl]
    · rw [if_neg hk] at hx
      have hmiss := lbL_miss h (k := l.key) fun w hw => by rw [hy] at hw; obtain rfl := Option.some.inj hw; exact hk
      have hz : lenL ls l.key = 0 := by
        unfold lenL
        rw [List.find?_eq_none.2 (fun w hw => by simpa using hmiss w hw)]
      rw [List.mem_append, List.mem_cons] at hx
      rcases hx with hm | rfl | hm
      · exact absurd hkey (hmiss x (List.mem_of_mem_take hm))
      · rw [hz]; rfl
      · exact absurd hkey (hmiss x (List.mem_of_mem_drop hm))
  · rename_i hy
    have hmiss := lbL_miss h (k := l.key) fun w hw => by rw [hy] at hw; cases hw
    have hz : lenL ls l.key = 0 := by
      unfold lenL
      rw [List.find?_eq_none.2 (fun w hw => by simpa using hmiss w hw)]
    rw [List.mem_append, List.mem_cons] at hx
    rcases hx with hm | rfl | hm
    · exact absurd hkey (hmiss x (List.mem_of_mem_take hm))
    · rw [hz]; rfl
    · exact absurd hkey (hmiss x (List.mem_of_mem_drop hm))

/-- what filling leaves -/
theorem HOk.fill {l : Ls} {hd : Nat} : ∀ (n : Nat) {h : Hp}, HOk h → (l.c < h.cpus ∧ l.z < 2 ∧ l.t < 3) → (∀ x ∈ h.ls, x.key = l.key → x.p.length + n ≤ 8) → n ≤ 8 →
    HOk (h.fill l hd n) ∧ (∀ q, cnt (h.fill l hd n).all q = cnt h.all q) ∧ Same h (h.fill l hd n) ∧ (h.fill l hd n).live = h.live
  | 0, h, hk, _, _, _ => ⟨hk, fun _ => rfl, Same.refl h, rfl⟩
  | n + 1, h, hk, hl, h8, hn => by
    unfold Hp.fill
    cases ht : h.takeZ l.z 0 l.t hd with
    | none => exact ⟨hk, fun _ => rfl, Same.refl h, rfl⟩
    | some r =>
      obtain ⟨h', a⟩ := r
      obtain ⟨hT, hls, hz⟩ := hk.takeZ (by omega) hl.2.2 hl.2.1 ht
      have hl' : l.c < h'.cpus ∧ l.z < 2 ∧ l.t < 3 := by rw [hT.same.cpus]; exact hl
      obtain ⟨g1, g2⟩ := hT.ok.push (l := l) (p := a) hl' ⟨hT.fit.2.2.1, by rw [hT.same.split]; exact hz⟩ (fun x hx hk => by rw [hls] at hx; have := h8 x hx hk; omega) (fun q => by rw [hT.c 0 q]; exact hk.one q)
      obtain ⟨k1, k2, k3, k4⟩ := HOk.fill n (h := { h' with ls := pushL h'.ls l a }) g1 hl' (fun x hx hkey => by
        have := push_mem hT.ok.lk x hx hkey
        have h2 : lenL h'.ls l.key + (n + 1) ≤ 8 := by
          unfold lenL
          cases hf : h'.ls.find? fun x => decide (x.key = l.key) with
          | none => simp only; omega
          | some y =>
            have hy := List.mem_of_find?_eq_some hf
            have hyk := List.find?_some hf
            rw [hls] at hy
            exact h8 y hy (of_decide_eq_true hyk)
        omega) (by omega)
      exact ⟨k1, fun q => by rw [k2, g2, hT.c 0 q], Same.trans (b := { h' with ls := pushL h'.ls l a }) (Same.trans hT.same ⟨rfl, rfl, rfl, rfl⟩) k3, k4.trans hT.live⟩
end Go.Proofs.YtkcaheebaicinaaGreatDoor
