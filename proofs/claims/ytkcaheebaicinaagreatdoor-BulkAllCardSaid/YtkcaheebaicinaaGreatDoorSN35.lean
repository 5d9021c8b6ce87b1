/- Sb9, Sb16, Ss4, Bt, Sy6, Sy8, Frame: texts of this claim, joined. -/
import Derived.Test.YtkcaheebaicinaaGreatDoorSN1
import Derived.Test.YtkcaheebaicinaaGreatDoorSN19
import Derived.Test.YtkcaheebaicinaaGreatDoorSN22
import Derived.Test.YtkcaheebaicinaaGreatDoorSN23
import Derived.Test.YtkcaheebaicinaaGreatDoorSN27
import Derived.Test.YtkcaheebaicinaaGreatDoorSN34
import Derived.ProofKit
import Derived.OpenShut
import Derived.Below
import Derived.ChangeSame
import Derived.Carry
/- Contracts of slices.Clone at string, api.Slab, int. -/
namespace Go.Proofs.YtkcaheebaicinaaGreatDoor
open Go.RowKit
set_option linter.unusedVariables false

theorem encI_one (l : List Int) : ∀ u ∈ flat encI l, u.oneCell' = true := by
  intro u hu
  simp only [flat, List.mem_flatMap] at hu
  obtain ⟨r, _, hr⟩ := hu
  simp only [encI, List.mem_cons, List.not_mem_nil, or_false] at hr
  rcases hr with rfl <;> rfl
/-- slices.Clone at string -/
theorem cloneS (a : Option Addr) (n cap : Nat) (xs : List (List UInt8)) (w : World) (hn : xs.length = n) (hl : n * 16 ≤ 140737488355328) (hr : Row w a (flat encS xs)) :
    Calls Tryz.prog 62 #[.slice a n cap] w fun e w' => ∃ a' c', e = .returned (.slice a' n c') ∧ w'.ownsRow w.heap.size 9 1 (.slice a' n c') n (flat encS xs) ∧ Below w.heap.size w w' := by
  have q22 : ∀ (w : World) (a : Option Addr) (n c n' c' : Nat), (binOp .eql 69 (.slice a n c) (.slice none n' c')).run Tryz.prog w = .ok (.bool a.isNone) w := fun w a n c n' c' => Lib.run_eql_slice_nil w _ _ a n c n' c' Tryz.underlying69
  subst hn
  cases a with
  | none =>
    have hx : xs = [] := by
      cases xs with
      | nil => rfl
      | cons u l => obtain ⟨b, off, e1, _⟩ := row_elem encS_length (by decide) hr (j := 0) (by simp); cases e1
    subst hx
    go_enter Tryz.func62, Tryz.ntmps62
    go_wp2
    go_ret
    exact ⟨none, 0, rfl, World.ownsRow_nil _ _ _ _, Below.refl _ _⟩
  | some ad =>
    go_enter Tryz.func62, Tryz.ntmps62
    go_wp2_with (at_builtin; refine wpList_app rfl _ _ 69 rfl w.heap.size 9 (.string ByteArray.empty) 1 16 Tryz.underlying69 info_s rfl (by decide) (by decide) _ _ _ _ rfl (World.ownsRow_made w #[] 0 (Nat.le_refl _) (Nat.zero_le _) (by simp)) (some ad) xs.length cap (flat encS xs) rfl ?q1 ?q2 ?q3 ?q4 ?q5 ?_)
    case q1 => exact flat_length encS_length xs
    case q2 => exact hr.below (below_alloc _ _)
    case q3 => exact encS_one xs
    case q4 => rw [Nat.zero_add]; exact hl
    case q5 => simp
    intro a' c' w1 hown hgrow
    go_wp2
    go_ret
    exact ⟨a', c', rfl, hown, (below_alloc w _).grown hgrow (by simp) (by intro k hk; simp [Value.ownBlock] at hk; omega)⟩

/-- slices.Clone at api.Slab -/
theorem cloneSl (a : Option Addr) (n cap : Nat) (xs : List Sl) (w : World) (hn : xs.length = n) (hl : n * 24 ≤ 140737488355328) (hr : Row w a (flat encSl xs)) :
    Calls Tryz.prog 63 #[.slice a n cap] w fun e w' => ∃ a' c', e = .returned (.slice a' n c') ∧ w'.ownsRow w.heap.size 87 3 (.slice a' n c') n (flat encSl xs) ∧ Below w.heap.size w w' := by
  have q22 : ∀ (w : World) (a : Option Addr) (n c n' c' : Nat), (binOp .eql 70 (.slice a n c) (.slice none n' c')).run Tryz.prog w = .ok (.bool a.isNone) w := fun w a n c n' c' => Lib.run_eql_slice_nil w _ _ a n c n' c' Tryz.underlying70
  subst hn
  cases a with
  | none =>
    have hx : xs = [] := by
      cases xs with
      | nil => rfl
      | cons u l => obtain ⟨b, off, e1, _⟩ := row_elem encSl_length (by decide) hr (j := 0) (by simp); cases e1
    subst hx
    go_enter Tryz.func63, Tryz.ntmps63
    go_wp2
    go_ret
    exact ⟨none, 0, rfl, World.ownsRow_nil _ _ _ _, Below.refl _ _⟩
  | some ad =>
    go_enter Tryz.func63, Tryz.ntmps63
    go_wp2_with (at_builtin; refine wpList_app rfl _ _ 70 rfl w.heap.size 87 (.agg #[.int .i64 0, .int .i64 0, .int .i64 0]) 3 24 Tryz.underlying70 info_sl rfl (by decide) (by decide) _ _ _ _ rfl (World.ownsRow_made w #[] 0 (Nat.le_refl _) (Nat.zero_le _) (by simp)) (some ad) xs.length cap (flat encSl xs) rfl ?q1 ?q2 ?q3 ?q4 ?q5 ?_)
    case q1 => exact flat_length encSl_length xs
    case q2 => exact hr.below (below_alloc _ _)
    case q3 => exact encSl_one xs
    case q4 => rw [Nat.zero_add]; exact hl
    case q5 => simp
    intro a' c' w1 hown hgrow
    go_wp2
    go_ret
    exact ⟨a', c', rfl, hown, (below_alloc w _).grown hgrow (by simp) (by intro k hk; simp [Value.ownBlock] at hk; omega)⟩

/-- slices.Clone at int -/
theorem cloneI (a : Option Addr) (n cap : Nat) (xs : List Int) (w : World) (hn : xs.length = n) (hl : n * 8 ≤ 140737488355328) (hr : Row w a (flat encI xs)) :
    Calls Tryz.prog 60 #[.slice a n cap] w fun e w' => ∃ a' c', e = .returned (.slice a' n c') ∧ w'.ownsRow w.heap.size 3 1 (.slice a' n c') n (flat encI xs) ∧ Below w.heap.size w w' := by
  have q22 : ∀ (w : World) (a : Option Addr) (n c n' c' : Nat), (binOp .eql 30 (.slice a n c) (.slice none n' c')).run Tryz.prog w = .ok (.bool a.isNone) w := fun w a n c n' c' => Lib.run_eql_slice_nil w _ _ a n c n' c' Tryz.underlying30
  subst hn
  cases a with
  | none =>
    have hx : xs = [] := by
      cases xs with
      | nil => rfl
      | cons u l => obtain ⟨b, off, e1, _⟩ := row_elem encI_length (by decide) hr (j := 0) (by simp); cases e1
    subst hx
    go_enter Tryz.func60, Tryz.ntmps60
    go_wp2
    go_ret
    exact ⟨none, 0, rfl, World.ownsRow_nil _ _ _ _, Below.refl _ _⟩
  | some ad =>
    go_enter Tryz.func60, Tryz.ntmps60
    go_wp2_with (at_builtin; refine wpList_app rfl _ _ 30 rfl w.heap.size 3 (.int .i64 0) 1 8 Tryz.underlying30 info_int rfl (by decide) (by decide) _ _ _ _ rfl (World.ownsRow_made w #[] 0 (Nat.le_refl _) (Nat.zero_le _) (by simp)) (some ad) xs.length cap (flat encI xs) rfl ?q1 ?q2 ?q3 ?q4 ?q5 ?_)
    case q1 => exact flat_length encI_length xs
    case q2 => exact hr.below (below_alloc _ _)
    case q3 => exact encI_one xs
    case q4 => rw [Nat.zero_add]; exact hl
    case q5 => simp
    intro a' c' w1 hown hgrow
    go_wp2
    go_ret
    exact ⟨a', c', rfl, hown, (below_alloc w _).grown hgrow (by simp) (by intro k hk; simp [Value.ownBlock] at hk; omega)⟩

end Go.Proofs.YtkcaheebaicinaaGreatDoor
/- Contract of slices.BinarySearch at string. -/
namespace Go.Proofs.YtkcaheebaicinaaGreatDoor
open Go.RowKit
set_option linter.unusedVariables false
set_option linter.unusedSimpArgs false

theorem tw_iff {α : Type} {q : α → Bool} : ∀ {l : List α}, (∀ i j (hi : i < l.length) (hj : j < l.length), i < j → q l[j] = true → q l[i] = true) → ∀ k (hk : k < l.length), k < (l.takeWhile q).length ↔ q l[k] = true
  | [], _, k, hk => by simp at hk
  | a :: l, h, k, hk => by
    by_cases ha : q a = true
    · rw [List.takeWhile_cons_of_pos ha]
      cases k with
      | zero => simpa using ha
      | succ k =>
        have ih := tw_iff (l := l) (fun i j hi hj hij hq => h (i + 1) (j + 1) (by simpa using hi) (by simpa using hj) (by omega) hq) k (by simpa using hk)
        simpa using ih
    · rw [List.takeWhile_cons_of_neg ha]
      cases k with
      | zero => simpa using ha
      | succ k =>
        simp only [List.length_nil, Nat.not_lt_zero, false_iff, List.getElem_cons_succ]
        intro hq
        exact ha (h 0 (k + 1) (by simp) hk (by omega) hq)
theorem lbN_iff {l : List (List UInt8)} {v : List UInt8} (hl : l.Pairwise fun a b => Go.Op.bytesLess a b = true) {k : Nat} (hk : k < l.length) : k < lbN l v ↔ Go.Op.bytesLess l[k] v = true :=
  tw_iff (q := fun x => Go.Op.bytesLess x v) (fun i j hi hj hij hq => bl_trans (List.pairwise_iff_getElem.1 hl i j hi hj hij) hq) k hk
theorem lbN_le (l : List (List UInt8)) (v : List UInt8) : lbN l v ≤ l.length := (List.takeWhile_sublist _).length_le

theorem run_lss_s {x y : List UInt8} (w : World) {b : Bool} (h : Go.Op.bytesLess x y = b) : (binOp .lss 9 (.string ⟨x.toArray⟩) (.string ⟨y.toArray⟩)).run Tryz.prog w = .ok (.bool b) w := by
  simp [binOp, Go.Op.stringOp]
  exact h
theorem run_neq_s (x : List UInt8) (w : World) : (binOp .neq 9 (.string ⟨x.toArray⟩) (.string ⟨x.toArray⟩)).run Tryz.prog w = .ok (.bool false) w := by
  simp [binOp, Go.Op.stringOp]
theorem nanC_ok (x : List UInt8) (w : World) : Calls Tryz.prog 99 #[.string ⟨x.toArray⟩] w fun ev w' => ev = .returned (.bool false) ∧ w = w' := by
  have h := run_neq_s x w
  go_enter Tryz.func99, Tryz.ntmps99
  go_wp2
  go_ret
  exact ⟨rfl, rfl⟩
theorem nanS_ok (x : List UInt8) (w : World) : Calls Tryz.prog 65 #[.string ⟨x.toArray⟩] w fun ev w' => ev = .returned (.bool false) ∧ w = w' := by
  have h := run_neq_s x w
  go_enter Tryz.func65, Tryz.ntmps65
  go_wp2
  go_ret
  exact ⟨rfl, rfl⟩
theorem lessS_ok (x y : List UInt8) (w : World) : Calls Tryz.prog 64 #[.string ⟨x.toArray⟩, .string ⟨y.toArray⟩] w fun ev w' => ev = .returned (.bool (Go.Op.bytesLess x y)) ∧ w = w' := by
  have h := run_lss_s (x := x) (y := y) w rfl
  go_enter Tryz.func64, Tryz.ntmps64
  go_wp2_with (go_at_call 99; refine (nanC_ok x _).mono ?_; rintro ev w' ⟨rfl, rfl⟩)
  go_ret
  exact ⟨rfl, rfl⟩
/-- what the search answers -/
def binP (l : List (List UInt8)) (v : List UInt8) (w : World) (e : Ending) (w' : World) : Prop := ∃ b : Bool, e = .returned (.tuple #[.int .i64 (lbN l v : Int), .bool b]) ∧ w = w'
set_option maxHeartbeats 4000000 in
set_option maxRecDepth 100000 in
theorem binS_ok (a : Option Addr) (n cap : Nat) (l : List (List UInt8)) (v : List UInt8) (w : World) (hn : l.length = n) (hl : n ≤ 1000) (hr : Row w a (flat encS l)) (hrise : l.Pairwise fun a b => Go.Op.bytesLess a b = true) :
    Calls Tryz.prog 28 #[.slice a n cap, .string ⟨v.toArray⟩] w (binP l v w) := by
  subst hn
  have hle := lbN_le l v
  go_enter Tryz.func28, Tryz.ntmps28
  go_wp2
  go_loopw [7, 8, 9] (fun s7 s8 _ wr => wr = w ∧ ∃ i j : Nat, i ≤ lbN l v ∧ lbN l v ≤ j ∧ j ≤ l.length ∧ s7 = .int .i64 i ∧ s8 = .int .i64 j) (fun s7 s8 _ _ => (intOf s8).toNat - (intOf s7).toNat)
  case atStart => exact ⟨rfl, 0, l.length, Nat.zero_le _, hle, Nat.le_refl _, rfl, rfl⟩
  case round =>
    obtain ⟨rfl, i, j, h1, h2, h3, rfl, rfl⟩ := hrel
    by_cases hlt : i < j
    · have hhl : (i + j) / 2 < l.length := by omega
      have hiff := Hid.mk (lbN_iff hrise (v := v) hhl)
      obtain ⟨b, off, rfl, hb, hc⟩ := row_elem encS_length (by decide) hr hhl
      have hc0 := encS_cells hc
      rw [Nat.mul_one] at hc0
      clear hr hc
      generalize l[(i + j) / 2] = y at *
      cases hb2 : Go.Op.bytesLess y v with
      | true =>
        have h4 := hiff.out.2 hb2
        have HL := Hid.mk (lessS_ok y v wr)
        rw [hb2] at HL
        clear hb2
        go_wp2_with (go_at_call 64; refine HL.out.mono ?_; rintro ev w' ⟨rfl, rfl⟩)
        go_roundw
        case rel => exact ⟨by first | rfl | trivial, (i + j) / 2 + 1, j, by omega, h2, h3, by go_num, rfl⟩
        case measure => simp [intOf]; omega
      | false =>
        have h4 : ¬ (i + j) / 2 < lbN l v := fun h => by rw [hiff.out.1 h] at hb2; cases hb2
        have HL := Hid.mk (lessS_ok y v wr)
        rw [hb2] at HL
        clear hb2
        go_wp2_with (go_at_call 64; refine HL.out.mono ?_; rintro ev w' ⟨rfl, rfl⟩)
        go_roundw
        case rel => exact ⟨by first | rfl | trivial, i, (i + j) / 2, h1, by omega, by omega, rfl, by go_num⟩
        case measure => simp [intOf]; omega
    · obtain rfl : i = lbN l v := by omega
      have hkk : (lbN l v : Int) ≤ l.length := by omega
      by_cases hk : lbN l v < l.length
      · obtain ⟨b, off, rfl, hb, hc⟩ := row_elem encS_length (by decide) hr hk
        have hc0 := encS_cells hc
        rw [Nat.mul_one] at hc0
        have hk2 : (lbN l v : Int) < l.length := by omega
        clear hr hc
        generalize l[lbN l v] = y at *
        generalize hK0 : lbN l v = K at *
        have HK := Hid.mk hK0
        clear hK0
        cases hvx : y == v with
        | true =>
          have h5 := (bytes_eq y v).trans hvx
          go_wp2_with (go_at_call 65; refine (nanS_ok _ _).mono ?_; rintro ev w' ⟨rfl, rfl⟩)
          exact bodyPost_ret (v := .tuple #[.int .i64 (K : Int), .bool true]) (by simp [results, Tryz.results28, go_sem]) rfl ⟨true, by rw [HK.out], rfl⟩
        | false =>
          have h5 := (bytes_eq y v).trans hvx
          go_wp2_with (go_at_call 65; refine (nanS_ok _ _).mono ?_; rintro ev w' ⟨rfl, rfl⟩)
          exact bodyPost_ret (v := .tuple #[.int .i64 (K : Int), .bool false]) (by simp [results, Tryz.results28, go_sem]) rfl ⟨false, by rw [HK.out], rfl⟩
      · have hk2 : ¬ (lbN l v : Int) < l.length := by omega
        clear hr
        generalize hK0 : lbN l v = K at *
        have HK := Hid.mk hK0
        clear hK0
        go_wp2
        exact bodyPost_ret (v := .tuple #[.int .i64 (K : Int), .bool false]) (by simp [results, Tryz.results28, go_sem]) rfl ⟨false, by rw [HK.out], rfl⟩
end Go.Proofs.YtkcaheebaicinaaGreatDoor
/- A system behind a pointer: other names of a cache. No program in sight but its types. -/
namespace Go.Proofs.YtkcaheebaicinaaGreatDoor
open Go.RowKit
set_option linter.unusedVariables false
section
variable {W W' W1 W2 : World} {G : Nat} {X Y : Nat → Prop} {s s' : Sy} {v v' : Sc}
theorem SS.putNsY (hs : SS W G X s v) {i : Nat} (hi : i < v.ys.length) {y : Cc} (hy : v.ys[i] = y) {l' : List (List UInt8)} {a' : Option Addr} {n' c' : Nat} (hown : W2.ownsRow 0 9 1 (.slice a' n' c') n' (flat encS l')) (hg : W.grownBy W2 (nsR y).v.ownBlock)
    (hl : ∀ k, (Value.slice a' n' c').ownBlock = some k → (nsR y).v.ownBlock = some k ∨ W.heap.size ≤ k) {gc : Nat} (hgc : v.a2 = some ⟨gc, 0, none⟩) :
    ∃ v', SS (W2.setCell ⟨gc, i * 6, none⟩ (.slice a' n' c')) G X (s.setC i { y.c with ns := l' }) v' ∧ Safe X W (W2.setCell ⟨gc, i * 6, none⟩ (.slice a' n' c')) ∧ v'.a2 = v.a2 := by
  subst hy
  have h := hs.putNs hi hown hg hl hgc
  exact ⟨_, h.1, h.2, rfl⟩
theorem SR.cs_ns (hs : SR W G X s v) {i : Nat} (hi : i < v.ys.length) {y : Cc} (hy : v.ys[i] = y) {gc : Nat} (hgc : v.a2 = some ⟨gc, 0, none⟩) : (nsR y).v.ownBlock ≠ some gc := fun e => by
  subst hy
  have h := (hs.fown hi).off (i := 1) (j := 2) (by simp) (by simp) (by decide) gc (by show (csR v).v.ownBlock = _; unfold csR; rw [hgc]; rfl)
  exact h e
end
end Go.Proofs.YtkcaheebaicinaaGreatDoor
/- Boots in memory. -/
namespace Go.Proofs.YtkcaheebaicinaaGreatDoor
open Go.RowKit
set_option linter.unusedVariables false

structure Bt where
  m : List Rg
  r : List Rg
def Bt.ok (b : Bt) : Bool := listOk b.m && listOk b.r
/-- a Boot in memory -/
structure BtAt (w : World) (a1 a2 : Option Addr) (n1 n2 : Nat) (b : Bt) : Prop where
  l1 : b.m.length = n1
  l2 : b.r.length = n2
  r1 : Row w a1 (flat encRg b.m)
  r2 : Row w a2 (flat encRg b.r)
theorem BtAt.below {w w' : World} {a1 a2 : Option Addr} {n1 n2 : Nat} {b : Bt} (h : BtAt w a1 a2 n1 n2 b) (hb : Below w.heap.size w w') : BtAt w' a1 a2 n1 n2 b := ⟨h.l1, h.l2, h.r1.below hb, h.r2.below hb⟩

/-- a Boot with two fresh lists -/
structure BtOwn (w : World) (base : Nat) (a1 a2 : Option Addr) (n1 n2 c1 c2 : Nat) (b : Bt) : Prop where
  l1 : b.m.length = n1
  l2 : b.r.length = n2
  o1 : w.ownsRow base 24 2 (.slice a1 n1 c1) n1 (flat encRg b.m)
  o2 : w.ownsRow base 24 2 (.slice a2 n2 c2) n2 (flat encRg b.r)
theorem BtOwn.at {w : World} {base : Nat} {a1 a2 : Option Addr} {n1 n2 c1 c2 : Nat} {b : Bt} (h : BtOwn w base a1 a2 n1 n2 c1 c2 b) : BtAt w a1 a2 n1 n2 b := ⟨h.l1, h.l2, own_row h.o1, own_row h.o2⟩
theorem BtOwn.below {w w' : World} {base : Nat} {a1 a2 : Option Addr} {n1 n2 c1 c2 : Nat} {b : Bt} (h : BtOwn w base a1 a2 n1 n2 c1 c2 b) (hb : Below w.heap.size w w') : BtOwn w' base a1 a2 n1 n2 c1 c2 b := ⟨h.l1, h.l2, own_below h.o1 hb (Nat.le_refl _), own_below h.o2 hb (Nat.le_refl _)⟩
theorem BtOwn.base {w : World} {base base' : Nat} {a1 a2 : Option Addr} {n1 n2 c1 c2 : Nat} {b : Bt} (h : BtOwn w base a1 a2 n1 n2 c1 c2 b) (hb : base' ≤ base) : BtOwn w base' a1 a2 n1 n2 c1 c2 b := ⟨h.l1, h.l2, own_base h.o1 hb, own_base h.o2 hb⟩
theorem BtOwn.set {w : World} {base : Nat} {a1 a2 : Option Addr} {n1 n2 c1 c2 : Nat} {b : Bt} (h : BtOwn w base a1 a2 n1 n2 c1 c2 b) {g : Nat} (hg : (Value.slice a1 n1 c1).ownBlock ≠ some g ∧ (Value.slice a2 n2 c2).ownBlock ≠ some g) (i : Nat) (u : Value) : BtOwn (w.setCell ⟨g, i, none⟩ u) base a1 a2 n1 n2 c1 c2 b := ⟨h.l1, h.l2, own_set h.o1 hg.1 u, own_set h.o2 hg.2 u⟩
theorem BtOwn.ne {w : World} {base : Nat} {a1 a2 : Option Addr} {n1 n2 c1 c2 : Nat} {b : Bt} (h : BtOwn w base a1 a2 n1 n2 c1 c2 b) {g : Nat} (hg : g < base ∨ w.heap.size ≤ g) : (Value.slice a1 n1 c1).ownBlock ≠ some g ∧ (Value.slice a2 n2 c2).ownBlock ≠ some g := ⟨own_ne h.o1 hg, own_ne h.o2 hg⟩
end Go.Proofs.YtkcaheebaicinaaGreatDoor
/- Systems in plain words: how many objects of four words come from so many pages. No program in sight. -/
namespace Go.Proofs.YtkcaheebaicinaaGreatDoor
set_option linter.unusedVariables false

/-- cache i has objects of four words; the one processor's own slab has f free ones, all others have none -/
def Pf (s : Sy) (i f : Nat) : Prop := ∃ c, s.cs[i]? = some c ∧ c.z = 4 ∧ c.ac.length = 1 ∧ (∀ x ∈ c.sl, (x.p : Int) = c.ac.getD 0 (-1) → x.n = f) ∧ (∀ x ∈ c.sl, (x.p : Int) ≠ c.ac.getD 0 (-1) → x.n = 0) ∧ (0 < f → ∃ x ∈ c.sl, (x.p : Int) = c.ac.getD 0 (-1))
theorem sr_inj {l : List Sl} (hl : l.Pairwise fun a b => a.p < b.p) {j k : Nat} (hj : j < l.length) (hk : k < l.length) (h : l[j].p = l[k].p) : j = k := by
  rw [List.pairwise_iff_getElem] at hl
  rcases Nat.lt_trichotomy j k with h1 | h1 | h1
  · have := hl j k hj hk h1
    omega
  · exact h1
  · have := hl k j hk hj h1
    omega
theorem pf_pop {s t : Sy} (hk : SOk s) {i k f : Nat} {c : Ca} {x : Sl} {a : Int} (hc : s.cs[i]? = some c) (hx : c.sl[k]? = some x) (hz : c.z = 4) (hac : c.ac.length = 1) (hp : (x.p : Int) = c.ac.getD 0 (-1)) (hn : x.n = f + 1) (ho : ∀ y ∈ c.sl, (y.p : Int) ≠ c.ac.getD 0 (-1) → y.n = 0) (h : s.pop i k = some (t, a)) : t.h = s.h ∧ Pf t i f := by
  obtain ⟨h1, h2, h3, _, h5⟩ := hk.pop hc hx (by omega) h
  have hil := (List.getElem?_eq_some_iff.1 hc).1
  obtain ⟨hkl, hkx⟩ := List.getElem?_eq_some_iff.1 hx
  have hsr := (hk.ck c (List.mem_of_getElem? hc)).sr
  refine ⟨h2, { c with sl := c.sl.set k ⟨x.p, x.n - 1, s.w.getD x.h.toNat 0⟩ }, ?_, hz, hac, fun y hy hyp => ?_, fun y hy hyp => ?_, fun _ => ?_⟩
  · rw [h5]
    show (s.cs.set i _)[i]? = _
    rw [List.getElem?_set_self hil]
  · obtain ⟨j, hj, e⟩ := List.mem_iff_getElem.1 hy
    have hj' : j < c.sl.length := by simpa using hj
    rw [List.getElem_set] at e
    split at e
    · rw [← e]
      show x.n - 1 = f
      omega
    · rename_i hne
      exfalso
      apply hne
      have hyp2 : (y.p : Int) = c.ac.getD 0 (-1) := hyp
      refine sr_inj hsr hkl hj' ?_
      rw [hkx, e]
      omega
  · obtain ⟨j, hj, e⟩ := List.mem_iff_getElem.1 hy
    rw [List.getElem_set] at e
    split at e
    · exact absurd (by rw [← e]; exact hp) hyp
    · exact ho y (by rw [← e]; exact List.getElem_mem _) hyp
  · exact ⟨⟨x.p, x.n - 1, s.w.getD x.h.toNat 0⟩, List.mem_iff_getElem.2 ⟨k, by simpa using hkl, by simp⟩, hp⟩
theorem pop_some {s : Sy} {i k : Nat} {c : Ca} {x : Sl} (hc : s.cs[i]? = some c) (hx : c.sl[k]? = some x) : ∃ t a, s.pop i k = some (t, a) := by
  unfold Sy.pop
  rw [hc]
  simp only [hx]
  exact ⟨_, _, rfl⟩
theorem pf_pos {s : Sy} (hk : SOk s) {i f : Nat} (h : Pf s i (f + 1)) : ∃ t a, s.one i 0 = some (t, a) ∧ t.h = s.h ∧ Pf t i f := by
  obtain ⟨c, hc, hz, hac, h1, h2, h3⟩ := h
  obtain ⟨x0, hx0, hp0⟩ := h3 (by omega)
  have hown : ∃ k x, c.own 0 = some k ∧ c.sl[k]? = some x ∧ (x.p : Int) = c.ac.getD 0 (-1) := by
    unfold Ca.own Ca.find
    cases hf : c.sl.findIdx? (fun x => decide ((x.p : Int) = c.ac.getD 0 (-1))) with
    | none =>
      rw [List.findIdx?_eq_none_iff] at hf
      have := hf x0 hx0
      simp [hp0] at this
    | some k =>
      rw [List.findIdx?_eq_some_iff_getElem] at hf
      obtain ⟨hkl, hkp, _⟩ := hf
      have hkp' : (c.sl[k].p : Int) = c.ac.getD 0 (-1) := by simpa using hkp
      have hn := h1 _ (List.getElem_mem hkl) hkp'
      refine ⟨k, c.sl[k], ?_, List.getElem?_eq_getElem hkl, hkp'⟩
      simp only [List.getElem?_eq_getElem hkl]
      rw [if_pos (by omega)]
  obtain ⟨k, x, ho, hx, hp⟩ := hown
  obtain ⟨t, a, hpop⟩ := pop_some hc hx
  refine ⟨t, a, ?_, pf_pop hk hc hx hz hac hp (h1 x (List.mem_of_getElem? hx) hp) h2 hpop⟩
  unfold Sy.one Sy.choose
  rw [hc]
  simp only [ho]
  exact hpop
theorem pf_none {s : Sy} {i : Nat} (h : Pf s i 0) : ∃ c, s.cs[i]? = some c ∧ c.z = 4 ∧ c.ac.length = 1 ∧ (∀ x ∈ c.sl, x.n = 0) ∧ c.own 0 = none ∧ c.nobody = none := by
  obtain ⟨c, hc, hz, hac, h1, h2, _⟩ := h
  have hall : ∀ x ∈ c.sl, x.n = 0 := fun x hx => by
    by_cases hp : (x.p : Int) = c.ac.getD 0 (-1)
    · exact h1 x hx hp
    · exact h2 x hx hp
  refine ⟨c, hc, hz, hac, hall, ?_, ?_⟩
  · unfold Ca.own
    split
    · split
      · rename_i x hx
        rw [if_neg]
        have := hall x (List.mem_of_getElem? hx)
        omega
      · rfl
    · rfl
  · unfold Ca.nobody
    rw [List.findIdx?_eq_none_iff]
    intro x hx
    simp [hall x hx]
theorem pf_zero_none {s : Sy} (hk : SOk s) {i : Nat} (h : Pf s i 0) (ha : s.h.alloc 0 0 0 false false = none) : s.one i 0 = none := by
  obtain ⟨c, hc, hz, _, _, ho, hn⟩ := pf_none h
  have hco : c.o = 0 := by
    rw [(hk.ck c (List.mem_of_getElem? hc)).o, hz]
    rfl
  unfold Sy.one Sy.choose
  rw [hc]
  simp only [ho, hn]
  unfold Sy.grow
  rw [hco, ha]
theorem pf_zero_some {s : Sy} (hk : SOk s) (hcp : s.h.cpus = 1) {i a : Nat} {h' : Hp} (h : Pf s i 0) (ha : s.h.alloc 0 0 0 false false = some (h', a)) : ∃ t b, s.one i 0 = some (t, b) ∧ t.h = h' ∧ Pf t i 3 := by
  obtain ⟨c, hc, hz, hac, hall, ho, hn⟩ := pf_none h
  have hck := hk.ck c (List.mem_of_getElem? hc)
  have hil := (List.getElem?_eq_some_iff.1 hc).1
  have hco : c.o = 0 := by rw [hck.o, hz]; rfl
  have hcr : c.r = 4 := by rw [hck.r, hz]; rfl
  have hg : s.grow i 0 c = some ({ w := chainTo s.w (16 * a) c.z c.r c.r, h := h', cs := s.cs.set i { c with sl := putS c.sl ⟨a, c.r, ((16 * a : Nat) : Int)⟩ } }, lbS c.sl a) := by
    unfold Sy.grow
    rw [hco, ha]
  obtain ⟨hk2, hcp2, _⟩ := hk.grow hc (by omega) hg
  obtain ⟨s2, hs2⟩ : ∃ s2, ({ w := chainTo s.w (16 * a) c.z c.r c.r, h := h', cs := s.cs.set i { c with sl := putS c.sl ⟨a, c.r, ((16 * a : Nat) : Int)⟩ } } : Sy) = s2 := ⟨_, rfl⟩
  have hc2 : s2.cs[i]? = some { c with sl := putS c.sl ⟨a, c.r, ((16 * a : Nat) : Int)⟩ } := by
    rw [← hs2]
    show (s.cs.set i _)[i]? = _
    rw [List.getElem?_set_self hil]
  have hh2 : s2.h = h' := by rw [← hs2]
  rw [hs2] at hg hk2
  have hx2 : (putS c.sl ⟨a, c.r, ((16 * a : Nat) : Int)⟩)[lbS c.sl a]? = some ⟨a, c.r, ((16 * a : Nat) : Int)⟩ := putS_get c.sl ⟨a, c.r, ((16 * a : Nat) : Int)⟩
  have hpn : ∀ b ∈ c.ac, b ≠ ((⟨a, c.r, ((16 * a : Nat) : Int)⟩ : Sl).p : Int) := by
    obtain ⟨_, _, c', x', g1, g2, _, g4⟩ := hk.grow hc (show 0 < s.h.cpus by omega) hg
    rw [hc2] at g1
    obtain rfl := Option.some.inj g1
    have g2' : (putS c.sl ⟨a, c.r, ((16 * a : Nat) : Int)⟩)[lbS c.sl a]? = some x' := g2
    rw [hx2] at g2'
    obtain rfl := Option.some.inj g2'
    exact g4
  obtain ⟨hk3, hh3, _, hc3⟩ := hk2.mine (cpu := 0) hc2 hx2 hpn
  have hget : (c.ac.set 0 (a : Int)).getD 0 (-1) = a := by
    match hca : c.ac, hac with
    | [b], _ => rfl
  obtain ⟨t, b, hpop⟩ := pop_some hc3 hx2
  have hsr := (hk2.ck _ (List.mem_of_getElem? hc2)).sr
  obtain ⟨hkl, hkx⟩ := List.getElem?_eq_some_iff.1 hx2
  obtain ⟨g1, g2⟩ := pf_pop (f := 3) hk3 hc3 hx2 hz (by simpa using hac) (by show (a : Int) = _; exact hget.symm) (by show c.r = 4; exact hcr) (fun y hy hyp => by
    have hy' : y ∈ putS c.sl ⟨a, c.r, ((16 * a : Nat) : Int)⟩ := hy
    rcases mem_putS.1 hy' with rfl | hy'
    · exact absurd hget.symm hyp
    · exact hall y hy') hpop
  refine ⟨t, b, ?_, by rw [g1, hh3, hh2], g2⟩
  unfold Sy.one Sy.choose
  rw [hc]
  simp only [ho, hn, hg]
  exact hpop

/-- so many pages, one behind the other -/
def alN (h : Hp) : Nat → Option Hp
  | 0 => some h
  | m + 1 => match alN h m with
    | some h1 => match h1.alloc 0 0 0 false false with
      | some (h2, _) => some h2
      | none => none
    | none => none
theorem alN_le {h : Hp} : ∀ {m : Nat}, (∃ g, alN h m = some g) → ∀ j, j ≤ m → ∃ g, alN h j = some g
  | 0, hm, j, hj => by
    obtain rfl : j = 0 := by omega
    exact hm
  | m + 1, hm, j, hj => by
    by_cases e : j = m + 1
    · subst e; exact hm
    · refine alN_le (m := m) ?_ j (by omega)
      obtain ⟨g, hg⟩ := hm
      unfold alN at hg
      cases h1 : alN h m with
      | none => rw [h1] at hg; cases hg
      | some g1 => exact ⟨g1, rfl⟩
theorem bulk_pf {s : Sy} (hk : SOk s) (hcp : s.h.cpus = 1) {i m : Nat} (h : Pf s i 0) (hm : ∃ g, alN s.h m = some g) : ∀ j, j ≤ 4 * m → ∃ t l, s.bulk i 0 j = some (t, l) ∧ SOk t ∧ t.h.cpus = 1 ∧ l.length = j ∧ alN s.h ((j + 3) / 4) = some t.h ∧ Pf t i (4 * ((j + 3) / 4) - j)
  | 0, _ => ⟨s, [], rfl, hk, hcp, rfl, rfl, h⟩
  | j + 1, hj => by
    obtain ⟨t, l, h1, h2, h3, h4, h5, h6⟩ := bulk_pf hk hcp h hm j (by omega)
    have fin : ∀ (u : Sy) (b : Int), t.one i 0 = some (u, b) → s.bulk i 0 (j + 1) = some (u, l ++ [b]) ∧ (l ++ [b]).length = j + 1 ∧ SOk u ∧ u.h.cpus = 1 := fun u b hu => by
      obtain ⟨c, hc, _⟩ := h6
      obtain ⟨g1, g2, _⟩ := h2.one hc (by omega) hu
      refine ⟨?_, by simp [h4], g1, by omega⟩
      unfold Sy.bulk
      rw [h1]
      simp only [hu]
    by_cases hq : j % 4 = 0
    · have e1 : 4 * ((j + 3) / 4) - j = 0 := by omega
      have e2 : (j + 1 + 3) / 4 = (j + 3) / 4 + 1 := by omega
      rw [e1] at h6
      obtain ⟨g, hg⟩ := alN_le hm ((j + 3) / 4 + 1) (by omega)
      have hg2 := hg
      unfold alN at hg2
      rw [h5] at hg2
      simp only at hg2
      cases hal : t.h.alloc 0 0 0 false false with
      | none => rw [hal] at hg2; cases hg2
      | some r =>
        obtain ⟨h', a⟩ := r
        rw [hal] at hg2
        have hgg : h' = g := by simpa using hg2
        obtain ⟨u, b, hu, hh, hp⟩ := pf_zero_some h2 h3 h6 hal
        obtain ⟨f1, f2, f3, f4⟩ := fin u b hu
        refine ⟨u, l ++ [b], f1, f3, f4, f2, by rw [e2, hg, hh, hgg], ?_⟩
        rw [show 4 * ((j + 1 + 3) / 4) - (j + 1) = 3 by omega]
        exact hp
    · have e2 : (j + 1 + 3) / 4 = (j + 3) / 4 := by omega
      have e3 : 4 * ((j + 3) / 4) - j = (4 * ((j + 1 + 3) / 4) - (j + 1)) + 1 := by omega
      rw [e3] at h6
      obtain ⟨u, b, hu, hh, hp⟩ := pf_pos h2 h6
      obtain ⟨f1, f2, f3, f4⟩ := fin u b hu
      exact ⟨u, l ++ [b], f1, f3, f4, f2, by rw [e2, h5, hh], hp⟩
theorem bulk_pf_none {s : Sy} (hk : SOk s) (hcp : s.h.cpus = 1) {i m : Nat} (h : Pf s i 0) (hm : ∃ g, alN s.h m = some g) (hn : alN s.h (m + 1) = none) : ∀ j, 4 * m < j → s.bulk i 0 j = none := by
  obtain ⟨t, l, h1, h2, h3, h4, h5, h6⟩ := bulk_pf hk hcp h hm (4 * m) (Nat.le_refl _)
  have e : (4 * m + 3) / 4 = m := by omega
  rw [e] at h5 h6
  rw [show 4 * m - 4 * m = 0 by omega] at h6
  have hal : t.h.alloc 0 0 0 false false = none := by
    unfold alN at hn
    rw [h5] at hn
    simp only at hn
    cases ha : t.h.alloc 0 0 0 false false with
    | none => rfl
    | some r => rw [ha] at hn; cases hn
  have h7 := pf_zero_none h2 h6 hal
  have key : ∀ q, 4 * m < q → s.bulk i 0 q = none := fun q => by
    induction q with
    | zero => intro h; omega
    | succ q ih =>
      intro hq
      unfold Sy.bulk
      by_cases e : q = 4 * m
      · rw [e, h1]
        simp only [h7]
      · rw [ih (by omega)]
  exact key
end Go.Proofs.YtkcaheebaicinaaGreatDoor
/- Systems in plain words: names stay. No program in sight. -/
namespace Go.Proofs.YtkcaheebaicinaaGreatDoor
set_option linter.unusedVariables false
theorem map_set_same {α β : Type} {f : α → β} {l : List α} {i : Nat} {c c' : α} (h : l[i]? = some c) (he : f c' = f c) : (l.set i c').map f = l.map f := by
  obtain ⟨hi, hc⟩ := List.getElem?_eq_some_iff.1 h
  apply List.ext_getElem (by simp)
  intro j h1 h2
  simp only [List.getElem_map, List.getElem_set]
  split
  · rename_i e
    subst e
    rw [he, hc]
  · rfl
def Sy.nss (s : Sy) : List (List (List UInt8)) := s.cs.map (·.ns)
theorem mine_nss (s : Sy) (i cpu k : Nat) : (s.mine i cpu k).nss = s.nss := by
  unfold Sy.mine Sy.nss
  cases hc : s.cs[i]? with
  | none => rfl
  | some c =>
    simp only
    cases hx : c.sl[k]? with
    | none => rfl
    | some x => exact map_set_same hc rfl
theorem pop_nss {s t : Sy} {i k : Nat} {a : Int} (h : s.pop i k = some (t, a)) : t.nss = s.nss := by
  unfold Sy.pop at h
  cases hc : s.cs[i]? with
  | none => rw [hc] at h; cases h
  | some c =>
    rw [hc] at h
    simp only at h
    cases hx : c.sl[k]? with
    | none => rw [hx] at h; cases h
    | some x =>
      rw [hx] at h
      have h1 := Option.some.inj h
      rw [Prod.mk.injEq] at h1
      rw [← h1.1]
      exact map_set_same hc rfl
theorem grow_nss {s t : Sy} {i cpu k : Nat} {c : Ca} (hc : s.cs[i]? = some c) (h : s.grow i cpu c = some (t, k)) : t.nss = s.nss := by
  unfold Sy.grow at h
  split at h
  · have h1 := Option.some.inj h
    rw [Prod.mk.injEq] at h1
    rw [← h1.1]
    exact map_set_same hc rfl
  · cases h
theorem choose_nss {s t : Sy} {i cpu k : Nat} (h : s.choose i cpu = some (t, k)) : t.nss = s.nss := by
  unfold Sy.choose at h
  cases hc : s.cs[i]? with
  | none => rw [hc] at h; cases h
  | some c =>
    rw [hc] at h
    simp only at h
    split at h
    · have h1 := Option.some.inj h
      rw [Prod.mk.injEq] at h1
      rw [← h1.1]
    · split at h
      · have h1 := Option.some.inj h
        rw [Prod.mk.injEq] at h1
        rw [← h1.1]
        exact mine_nss _ _ _ _
      · split at h
        · rename_i heq
          have h1 := Option.some.inj h
          rw [Prod.mk.injEq] at h1
          rw [← h1.1, mine_nss]
          exact grow_nss hc heq
        · cases h
theorem one_nss {s t : Sy} {i cpu : Nat} {a : Int} (h : s.one i cpu = some (t, a)) : t.nss = s.nss := by
  unfold Sy.one at h
  cases hc : s.choose i cpu with
  | none => rw [hc] at h; cases h
  | some r =>
    obtain ⟨u, k⟩ := r
    rw [hc] at h
    exact (pop_nss h).trans (choose_nss hc)
theorem bulk_nss {s : Sy} {i cpu : Nat} : ∀ {j : Nat} {t : Sy} {l : List Int}, s.bulk i cpu j = some (t, l) → t.nss = s.nss
  | 0, t, l, h => by
    have h1 := Option.some.inj h
    rw [Prod.mk.injEq] at h1
    rw [← h1.1]
  | j + 1, t, l, h => by
    unfold Sy.bulk at h
    cases hb : s.bulk i cpu j with
    | none => rw [hb] at h; cases h
    | some r =>
      obtain ⟨u, l'⟩ := r
      rw [hb] at h
      simp only at h
      cases ho : u.one i cpu with
      | none => rw [ho] at h; cases h
      | some q =>
        obtain ⟨t', a⟩ := q
        rw [ho] at h
        have h1 := Option.some.inj h
        rw [Prod.mk.injEq] at h1
        rw [← h1.1]
        exact (one_nss ho).trans (bulk_nss hb)
theorem names_of_nss {s t : Sy} (h : t.nss = s.nss) {N : Nat} (hs : ∀ c ∈ s.cs, c.ns.length ≤ N) : ∀ c ∈ t.cs, c.ns.length ≤ N := fun c hc => by
  have h1 : c.ns ∈ t.nss := List.mem_map_of_mem hc
  rw [h] at h1
  obtain ⟨d, hd, e⟩ := List.mem_map.1 h1
  rw [← e]
  exact hs d hd
end Go.Proofs.YtkcaheebaicinaaGreatDoor
/- 'post' out of 'Below': the lemma that the guide's page of small lemmas gives to copy. -/
namespace Go.Proofs.YtkcaheebaicinaaGreatDoor
open Go.RowKit Go.WideShapes Go.ChangeShapes
section
variable {H : Type} {enc : TypeId × Value → H} {P : Program}

/-- The arguments read behind the call as they did before, whatever their types. -/
theorem trodAll_keep (hl : laidOutB P = true) {W W' : World} (hb : Below W.heap.size W W') : ∀ (ts : List TypeId) (vs : List Value) (ds : List (DataW H)) (p : List MemPlace),
    (∀ t ∈ ts, P.readableRec t = true ∧ t < P.types.size) → (∀ x ∈ p, x.block < W.heap.size) → DataW.TrodAll enc P W 0 (fun _ => true) true ts vs ds p → DataW.TrodAll enc P W' 0 (fun b => decide (b < W.heap.size)) true ts vs ds p
  | [], [], [], p, _, _, h => h
  | t :: ts, v :: vs, d :: ds, p, hr, hp, h => by
    obtain ⟨p1, p2, h1, h2, rfl⟩ := h
    refine ⟨p1, p2, ?_, trodAll_keep hl hb ts vs ds p2 (fun t ht => hr t (by simp [ht])) (fun x hx => hp x (by simp [hx])) h2, rfl⟩
    have := hr t (by simp)
    exact Below.trod hl this.1 this.2 h1 hb fun x hx => hp x (by simp [hx])
  | [], [], _ :: _, _, _, _, h => h.elim
  | [], _ :: _, _, _, _, _, h => h.elim
  | _ :: _, [], _, _, _, _, h => h.elim
  | _ :: _, _ :: _, [], _, _, _, h => h.elim

/-- 'post' of a law, out of 'Below' alone. -/
theorem post_law {f : Func} {s : ChangeSpec} {apart : Bool} {W W' : World} {args : Array Value} {ds : List (DataW H)} {before : List MemPlace}
    (hl : laidOutB P = true) (hr : ∀ t ∈ f.params.toList, P.readableRec t = true ∧ t < P.types.size)
    (hW : DataW.Whole enc P f.params.toList s.vars apart W args.toList ds [] before) (hv : s.vars = []) {tb : TypeId} (hres : f.resultTypes = #[tb]) (htb : P.underlying tb = some .bool)
    (hf1 : (s.fn H (ds ++ [])).results = [.lit (.bool true)]) (hf2 : (s.fn H (ds ++ [])).args = ds) (hf3 : (s.fn H (ds ++ [])).vars = []) (hb : Below W.heap.size W W') :
    s.post enc P f apart true false false W args (.bool true) W' := by
  have hlt : ∀ p ∈ before, p.block < W.heap.size := fun p hp => hW.lt p hp
  obtain ⟨pa, pv, h1, h2, h3, h4, h5⟩ := hW
  refine ⟨ds, [], before, [], pa, [], ⟨pa, pv, h1, h2, h3, h4, h5⟩, ?_, ?_, ?_, World.keptBut_mono (fun p f => f.elim) (hb.frame (fun _ => False)), fun h => by cases h⟩
  · rw [hres, hf1]
    exact trodAll_mk1 (shut_bool htb true)
  · rw [hf2]
    exact trodAll_keep hl hb _ _ _ _ hr (fun x hx => hlt x (by rw [h3]; simp [hx])) h1
  · rw [hv, hf3]
    rfl
end

section
variable {H : Type} {enc : TypeId × Value → H} {P : Program}
theorem post_of_below {f : Func} {s : ChangeSpec} {apart fresh handsOn again : Bool} {W W' : World} {args : Array Value} {v : Value} {ds gs : List (DataW H)} {before pa pv : List MemPlace}
    (hW : DataW.Whole enc P f.params.toList s.vars apart W args.toList ds gs before)
    (hres : ∀ (b : Nat) (sp : Nat → Bool) (hd : Bool), DataW.TrodAll enc P W' b sp hd f.resultTypes.toList (v.resultList f.resultTypes.size) (s.fn H (ds ++ gs)).results [])
    (hargs : ∀ sp : Nat → Bool, (∀ p ∈ before, sp p.block = true) → DataW.TrodAll enc P W' 0 sp true f.params.toList args.toList (s.fn H (ds ++ gs)).args pa)
    (hvars : ∀ sp : Nat → Bool, (∀ p ∈ before, sp p.block = true) → DataW.TrodVars enc P W' sp s.vars (s.fn H (ds ++ gs)).vars pv)
    (hps : before = pa ++ pv) (hb : Below W.heap.size W W')
    (hok : ∀ (j : Nat) (t : TypeId) (r : Value), f.resultTypes[j]? = some t → (v.resultList f.resultTypes.size)[j]? = some r → Value.okWide P W' .any 0 t r) :
    s.post enc P f apart fresh handsOn again W args v W' := by
  have hlt : ∀ p ∈ before, p.block < W.heap.size := fun p hp => hW.lt p hp
  have hold : ∀ p ∈ before, (fun b => decide (b < W.heap.size)) p.block = true := fun p hp => by simpa using hlt p hp
  refine ⟨ds, gs, before, [], pa, pv, hW, hres _ _ _, hargs _ hold, hvars _ hold, World.keptBut_mono (fun p hp => ⟨hp, ?_⟩) (hb.frame (· ∈ before)), fun _ => ?_⟩
  · rw [hps, List.mem_append] at hp
    exact Or.inr hp
  · obtain ⟨_, _, _, _, _, hz, hn⟩ := hW
    refine ⟨hok, _, _, ([] ++ pa) ++ pv, ⟨[] ++ pa, pv, trodAll_append (hargs _ (fun _ _ => rfl)) (hres _ _ _), hvars _ (fun _ _ => rfl), rfl, ?_, ?_⟩, ?_⟩
    · intro b off hp
      have hin : MemPlace.cell b off ∈ before := by rw [hps]; simpa using hp
      rw [hb.frozen (hlt _ hin)]
      exact hz b off hin
    · intro ha
      have := hn ha
      rw [hps] at this
      simpa using this
    · intro p hp _
      rw [hps]
      simpa using hp
end

theorem spot_none {W : World} {ad : Addr} {v : Value} (h : W.cell? (ad.add 0) = some v) : ad.spot = none := by
  obtain ⟨b, off, spot⟩ := ad
  have e : (Addr.add ⟨b, off, spot⟩ 0) = ⟨b, off, spot⟩ := rfl
  rw [e] at h
  unfold World.cell? at h
  cases spot with
  | none => rfl
  | some x => exfalso; simp only at h; split at h <;> simp at h

/-- A slice of ints that came in. -/
theorem arg_ints {H : Type} {enc : TypeId × Value → H} {P : Program} {W : World} {t e : TypeId} {a : Option Addr} {n c : Nat} {d : DataW H} {p : List MemPlace} (ht : P.underlying t = some (.slice e)) (he : P.underlying e = some (.int .i64)) (hc : P.cellsOf e = 1)
    (h : DataW.Trod enc P W 0 (fun _ => true) true t (.slice a n c) d p) : ∃ zs : List Int, zs.length = n ∧ Row W a (zs.map vI) ∧ n ≤ c ∧ c ≤ maxLen ∧ ∀ z ∈ zs, (Lit.int .i64 z).wf = true := by
  obtain ⟨fuel, hf⟩ := h
  rcases open_ints ht he hc hf with ⟨hcs, _⟩ | ⟨ad, len, cap, zs, hcs, _, hl, hm, hz, _, hcell, hwf⟩
  · simp only [Value.cells, List.cons.injEq, Value.slice.injEq, and_true] at hcs
    obtain ⟨rfl, rfl, rfl⟩ := hcs
    exact ⟨[], rfl, Row.nil _ _, Nat.le_refl _, Nat.zero_le _, by simp⟩
  · simp only [Value.cells, List.cons.injEq, Value.slice.injEq, and_true] at hcs
    obtain ⟨rfl, rfl, rfl⟩ := hcs
    simp only [if_true] at hz
    refine ⟨zs.take n, by rw [List.length_take]; omega, ?_, hl, hm, fun z hz => hwf z (List.mem_of_mem_take hz)⟩
    intro j v hj
    have hjl : j < n := by have := (List.getElem?_eq_some_iff.1 hj).1; rw [List.length_map, List.length_take] at this; omega
    have hce := hcell j (by omega)
    rw [List.getElem?_map, List.getElem?_take, if_pos hjl, List.getElem?_eq_getElem (by omega), Option.map_some, Option.some.injEq] at hj
    subst hj
    rw [List.getD_eq_getElem?_getD, List.getElem?_eq_getElem (by omega), Option.getD_some] at hce
    have hspot := spot_none (hcell 0 (by omega))
    obtain ⟨b, off, spot⟩ := ad
    simp only at hspot
    subst hspot
    rw [Addr.add_lit] at hce
    exact ⟨b, off, rfl, World.block_lt_of_cell? W _ hce, hce⟩
end Go.Proofs.YtkcaheebaicinaaGreatDoor
