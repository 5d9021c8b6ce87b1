/- Contracts of package boot: end, CheckRegion, list, Check. -/
import Derived.Test.YteonmoncofcajaaExt
import Derived.Test.YteonmoncofcajaaLow1
namespace Go.Proofs.Yteonmoncofcajaa
open Go.RowKit
set_option linter.unusedVariables false

structure Rg where
  f : Int
  s : Int
deriving DecidableEq

def encRg (r : Rg) : List Value := [vI r.f, vI r.s]
theorem encRg_length (r : Rg) : (encRg r).length = 2 := rfl
def aggRg (r : Rg) : Value := .agg #[.int .i64 r.f, .int .i64 r.s]
def Rg.fin (r : Rg) : Int := r.f + r.s
/-- numbers of a region that no sum leaves -/
def Rg.small (r : Rg) : Prop := -4611686018427387904 ≤ r.f ∧ r.f ≤ 4611686018427387903 ∧ -4611686018427387904 ≤ r.s ∧ r.s ≤ 4611686018427387903

theorem end_any (r : Rg) (w : World) (h : r.small) :
    Calls Try.prog 42 #[.agg #[.int .i64 r.f, .int .i64 r.s]] w fun e w' => e = .returned (.int .i64 (r.f + r.s)) ∧ Below w.heap.size w w' := by
  obtain ⟨h1, h2, h3, h4⟩ := h
  go_enter Try.func42, Try.ntmps42
  go_wp2
  go_ret
  exact ⟨rfl, (Below.refl _ _).alloc (Nat.le_refl _) _⟩

def ckRg (r : Rg) : Bool := decide (0 ≤ r.f ∧ 1 ≤ r.s ∧ r.s ≤ 256 ∧ r.f ≤ 256 - r.s)

theorem ck_parts {r : Rg} (h : ckRg r = true) : 0 ≤ r.f ∧ 1 ≤ r.s ∧ r.s ≤ 256 ∧ r.f ≤ 256 - r.s := of_decide_eq_true h

theorem checkRegion_ok (r : Rg) (w : World) (h : ckRg r = true) :
    Calls Try.prog 45 #[.agg #[.int .i64 r.f, .int .i64 r.s]] w fun e w' => e = .returned (.int .i64 0) ∧ Below w.heap.size w w' := by
  obtain ⟨h1, h2, h3, h4⟩ := ck_parts h
  clear h
  go_enter Try.func45, Try.ntmps45
  go_wp2
  go_ret
  exact ⟨rfl, (Below.refl _ _).alloc (Nat.le_refl _) _⟩

theorem checkRegion_bad (r : Rg) (w : World) (h : ckRg r = false) :
    Calls Try.prog 45 #[.agg #[.int .i64 r.f, .int .i64 r.s]] w fun e w' => e = .returned (.int .i64 1) ∧ Below w.heap.size w w' := by
  obtain ⟨f, s⟩ := r
  have h' := of_decide_eq_false h
  simp only at h' ⊢
  clear h
  by_cases h1 : 0 ≤ f
  · by_cases h2 : 1 ≤ s
    · by_cases h3 : s ≤ 256
      · have h4 : 256 - s < f := by omega
        clear h'
        go_enter Try.func45, Try.ntmps45
        go_wp2
        go_ret
        exact ⟨rfl, (Below.refl _ _).alloc (Nat.le_refl _) _⟩
      · clear h'
        go_enter Try.func45, Try.ntmps45
        go_wp2
        go_ret
        exact ⟨rfl, (Below.refl _ _).alloc (Nat.le_refl _) _⟩
    · clear h'
      go_enter Try.func45, Try.ntmps45
      go_wp2
      go_ret
      exact ⟨rfl, (Below.refl _ _).alloc (Nat.le_refl _) _⟩
  · clear h'
    go_enter Try.func45, Try.ntmps45
    go_wp2
    go_ret
    exact ⟨rfl, (Below.refl _ _).alloc (Nat.le_refl _) _⟩

/-! ## list: do regions rise, without touching? -/
def rgPair : Option Rg → Rg → Bool
  | none, _ => true
  | some p, r => decide (p.f + p.s < r.f)

/-- regions that may be, one behind the other, from behind a first one on -/
def rgFrom : Option Rg → List Rg → Bool
  | _, [] => true
  | p, r :: l => ckRg r && rgPair p r && rgFrom (some r) l

def listOk (l : List Rg) : Bool := decide (l.length ≤ 40) && rgFrom none l

theorem rgFrom_split : ∀ (l : List Rg) (p : Option Rg) (k : Nat), rgFrom p l = (rgFrom p (l.take k) && rgFrom ((l.take k).getLast?.or p) (l.drop k))
  | [], p, k => by simp [rgFrom]
  | r :: l, p, 0 => by simp [rgFrom]
  | r :: l, p, k + 1 => by
    rw [List.take_succ_cons, List.drop_succ_cons, rgFrom, rgFrom, rgFrom_split l (some r) k, ← Bool.and_assoc]
    congr 2
    cases h : l.take k with
    | nil => simp
    | cons x t => simp [List.getLast?_cons]

/-- round k of the check: what is said of the k-th region -/
def rgAt (l : List Rg) (k : Nat) (r : Rg) : Bool := ckRg r && rgPair (l[k - 1]?.bind fun p => if k = 0 then none else some p) r

theorem rgFrom_succ (l : List Rg) (k : Nat) (hk : k < l.length) : rgFrom none (l.take (k + 1)) = (rgFrom none (l.take k) && rgAt l k l[k]) := by
  rw [List.take_succ_eq_append_getElem hk, rgFrom_split (l.take k ++ [l[k]]) none k]
  have hl : (l.take k).length = k := by rw [List.length_take]; omega
  rw [List.take_left' hl, List.drop_left' hl]
  congr 1
  have e : ((l.take k).getLast?.or none) = (l[k - 1]?.bind fun p => if k = 0 then none else some p) := by
    rcases k with _ | k
    · simp
    · rw [List.getLast?_eq_getElem?, hl]
      simp
  rw [e]
  simp [rgFrom, rgAt]

theorem list_any (a : Option Addr) (cap : Nat) (l : List Rg) (w : World) (hl : l.length ≤ 9223372036854775807) (hr : Row w a (flat encRg l)) (hs : ∀ r ∈ l, r.small) :
    Calls Try.prog 41 #[.slice a l.length cap] w fun e w' => e = .returned (.bool (listOk l)) ∧ Below w.heap.size w w' := by
  by_cases hlen : l.length ≤ 40
  · have hb0 : decide (40 < (l.length : Int)) = false := decide_eq_false (by omega)
    have hE : listOk l = rgFrom none l := by simp [listOk, hlen]
    have HE := Hid.mk hE
    clear hE
    go_enter Try.func41, Try.ntmps41
    go_wp2
    go_loopw [3, 4, 10] (fun _ _ s10 wr => ∃ k : Nat, k ≤ l.length ∧ s10 = .int .i64 k ∧ Hid (rgFrom none (l.take k) = true) ∧ Below w.heap.size w wr) (fun _ _ s10 _ => l.length - (intOf s10).toNat)
    case atStart => exact ⟨0, Nat.zero_le _, rfl, by simp [Hid, rgFrom], Below.refl _ _⟩
    case round =>
      obtain ⟨k, hk, rfl, hok, hbw⟩ := hrel
      by_cases hlt : k < l.length
      · obtain ⟨b, off, rfl, hb, hc⟩ := row_elem encRg_length (by decide) (hr.below hbw) hlt
        have hc0 := hc 0 (vI l[k].f) rfl
        have hc1 := hc 1 (vI l[k].s) rfl
        simp only [vI, Nat.add_zero] at hc0 hc1
        go_wp2_with fail
        have h10 : (wr.alloc (.cells #[.int .i64 l[k].f, .int .i64 l[k].s] 51)).cell? ⟨wr.heap.size, 0, none⟩ = some (.int .i64 l[k].f) := by simp [go_sem]
        have h11 : (wr.alloc (.cells #[.int .i64 l[k].f, .int .i64 l[k].s] 51)).cell? ⟨wr.heap.size, 1, none⟩ = some (.int .i64 l[k].s) := by simp [go_sem]
        have hs1 : wr.heap.size < (wr.alloc (.cells #[.int .i64 l[k].f, .int .i64 l[k].s] 51)).heap.size := by simp
        have hb1 : Below w.heap.size w (wr.alloc (.cells #[.int .i64 l[k].f, .int .i64 l[k].s] 51)) := hbw.alloc hbw.size _
        clear hc hc0 hc1
        generalize wr.alloc (.cells #[.int .i64 l[k].f, .int .i64 l[k].s] 51) = w1 at *
        have hsucc := rgFrom_succ l k hlt
        rw [hok.out, Bool.true_and] at hsucc
        have HS := Hid.mk hsucc
        clear hsucc
        cases hck : ckRg l[k] with
        | false =>
          have hfalse : Hid (rgFrom none l = false) := by
            rw [Hid, rgFrom_split l none (k + 1), HS.out]
            simp [rgAt, hck]
          refine wp_region_ext_lit (by kernel_rfl) (by kernel_rfl) ?_
          repeat (first | go_big_quiet_step ((go_at_call 45; exact Calls.ext_of (checkRegion_bad l[k] _ hck))) | quiet_step ((go_at_call 45; exact Calls.ext_of (checkRegion_bad l[k] _ hck))))
          refine wpQuiet_nil ?_
          rintro _ ⟨wx, rfl⟩
          have hbx : Below w.heap.size w (ext w1 wx) := Below.step hb1 (ext_below w1 wx)
          go_wp2
          go_ret
          exact ⟨ret_bool (by rw [HE.out, hfalse.out]), hbx⟩
        | true =>
          by_cases hk0 : 0 < k
          · have hd : decide (0 < (k : Int)) = true := decide_eq_true (by omega)
            have hkk : k - 1 < l.length := by omega
            have hsp := hs l[k - 1] (List.getElem_mem hkk)
            obtain ⟨b', off', e', hb', hc'⟩ := row_elem encRg_length (by decide) (hr.below hb1) hkk
            obtain ⟨rfl, rfl⟩ : b = b' ∧ off = off' := by simpa using e'
            have hc0 := hc' 0 (vI l[k - 1].f) rfl
            have hc1 := hc' 1 (vI l[k - 1].s) rfl
            simp only [vI, Nat.add_zero] at hc0 hc1
            clear hc' e'
            have hi1 : 0 ≤ (k : Int) - 1 := by omega
            have hi2 : (k : Int) - 1 < (l.length : Int) := by omega
            have hi3 : ((k : Int) - 1).toNat = k - 1 := by omega
            have hi4 : IntKind.i64.wrap ((k : Int) - 1) = (k : Int) - 1 := IntWalk.i64_in _ (by omega)
            cases hp : decide (l[k].f ≤ l[k - 1].f + l[k - 1].s) with
            | true =>
              refine wp_region_ext_lit (by kernel_rfl) (by kernel_rfl) ?_
              repeat (first | go_big_quiet_step ((first | (go_at_call 45; exact Calls.ext_of (checkRegion_ok l[k] _ hck)) | (go_at_call 42; exact Calls.ext_of (end_any l[k - 1] _ hsp)))) | quiet_step ((first | (go_at_call 45; exact Calls.ext_of (checkRegion_ok l[k] _ hck)) | (go_at_call 42; exact Calls.ext_of (end_any l[k - 1] _ hsp)))))
              refine wpQuiet_nil ?_
              rintro _ ⟨wx, rfl⟩
              have hbx : Below w.heap.size w (ext w1 wx) := Below.step hb1 (ext_below w1 wx)
              have hfalse : Hid (rgFrom none l = false) := by
                have hp' := of_decide_eq_true hp
                rw [Hid, rgFrom_split l none (k + 1), HS.out]
                have : rgAt l k l[k] = false := by
                  unfold rgAt
                  rw [hck, Bool.true_and, List.getElem?_eq_getElem hkk, Option.bind_some, if_neg (by omega)]
                  exact decide_eq_false (by omega)
                rw [this, Bool.false_and]
              go_wp2
              go_ret
              exact ⟨ret_bool (by rw [HE.out, hfalse.out]), hbx⟩
            | false =>
              have htrue : Hid (rgFrom none (l.take (k + 1)) = true) := by
                have hp' := of_decide_eq_false hp
                rw [Hid, HS.out]
                unfold rgAt
                rw [hck, Bool.true_and, List.getElem?_eq_getElem hkk, Option.bind_some, if_neg (by omega)]
                exact decide_eq_true (by omega)
              refine wp_region_ext_lit (by kernel_rfl) (by kernel_rfl) ?_
              repeat (first | go_big_quiet_step ((first | (go_at_call 45; exact Calls.ext_of (checkRegion_ok l[k] _ hck)) | (go_at_call 42; exact Calls.ext_of (end_any l[k - 1] _ hsp)))) | quiet_step ((first | (go_at_call 45; exact Calls.ext_of (checkRegion_ok l[k] _ hck)) | (go_at_call 42; exact Calls.ext_of (end_any l[k - 1] _ hsp)))))
              refine wpQuiet_nil ?_
              rintro _ ⟨wx, rfl⟩
              have hbx : Below w.heap.size w (ext w1 wx) := Below.step hb1 (ext_below w1 wx)
              go_wp2
              go_roundw
              case rel => exact ⟨k + 1, by omega, by go_num, htrue.out, hbx⟩
              case measure => simp [intOf]; omega
          · have hd : decide (0 < (k : Int)) = false := decide_eq_false (by omega)
            have htrue : Hid (rgFrom none (l.take (k + 1)) = true) := by
              obtain rfl : k = 0 := by omega
              rw [Hid, HS.out]; unfold rgAt; rw [hck, Bool.true_and]
              cases l[0 - 1]? <;> rfl
            refine wp_region_ext_lit (by kernel_rfl) (by kernel_rfl) ?_
            repeat (first | go_big_quiet_step ((go_at_call 45; exact Calls.ext_of (checkRegion_ok l[k] _ hck))) | quiet_step ((go_at_call 45; exact Calls.ext_of (checkRegion_ok l[k] _ hck))))
            refine wpQuiet_nil ?_
            rintro _ ⟨wx, rfl⟩
            have hbx : Below w.heap.size w (ext w1 wx) := Below.step hb1 (ext_below w1 wx)
            go_wp2
            go_roundw
            case rel => exact ⟨k + 1, by omega, by go_num, htrue.out, hbx⟩
            case measure => simp [intOf]; omega
      · obtain rfl : k = l.length := by omega
        have htrue : Hid (rgFrom none l = true) := by rw [List.take_of_length_le (Nat.le_refl _)] at hok; exact hok
        clear hok
        go_wp2
        go_ret
        exact ⟨ret_bool (by rw [HE.out, htrue.out]), hbw⟩
  · have hb0 : decide (40 < (l.length : Int)) = true := decide_eq_true (by omega)
    have hE : Hid (listOk l = false) := by unfold Hid listOk; rw [decide_eq_false hlen, Bool.false_and]
    go_enter Try.func41, Try.ntmps41
    go_wp2
    go_ret
    exact ⟨ret_bool hE.out.symm, Below.refl _ _⟩

/-- list's contract, the length apart -/
theorem list_n (a : Option Addr) (n cap : Nat) (l : List Rg) (w : World) (hn : l.length = n) (hl : n ≤ 9223372036854775807) (hr : Row w a (flat encRg l)) (hs : ∀ r ∈ l, r.small) (b : Bool) (hb : listOk l = b) :
    Calls Try.prog 41 #[.slice a n cap] w fun e w' => e = .returned (.bool b) ∧ Below w.heap.size w w' := by
  subst hn; subst hb
  exact list_any a cap l w hl hr hs

/-! ## Check -/
theorem bootCheck_ok (a1 a2 : Option Addr) (n1 n2 c1 c2 : Nat) (m r : List Rg) (w : World) (hn1 : m.length = n1) (hn2 : r.length = n2) (hl1 : n1 ≤ 9223372036854775807) (hl2 : n2 ≤ 9223372036854775807) (hr1 : Row w a1 (flat encRg m)) (hr2 : Row w a2 (flat encRg r)) (hs1 : ∀ x ∈ m, x.small) (hs2 : ∀ x ∈ r, x.small) (h1 : listOk m = true) (h2 : listOk r = true) :
    Calls Try.prog 25 #[.agg #[.slice a1 n1 c1, .slice a2 n2 c2]] w fun e w' => e = .returned (.int .i64 0) ∧ Below w.heap.size w w' := by
  have hal : Below w.heap.size w (w.alloc (.cells #[.slice a1 n1 c1, .slice a2 n2 c2] 42)) := below_alloc _ _
  have hr1' := hr1.below hal
  have hr2' := hr2.below hal
  clear hr1 hr2
  go_enter Try.func25, Try.ntmps25
  go_wp2_with fail
  refine (list_n _ _ _ m _ hn1 hl1 hr1' hs1 true h1).mono ?_
  rintro e w1 ⟨rfl, hb1⟩
  have B1 := box_call hb1
  go_wp2_with fail
  refine (list_n _ _ _ r _ hn2 hl2 (hr2'.below hb1) hs2 true h2).mono ?_
  rintro e w2 ⟨rfl, hb2⟩
  go_wp2
  go_ret
  exact ⟨rfl, Below.step hal (Below.step hb1 hb2)⟩
end Go.Proofs.Yteonmoncofcajaa
