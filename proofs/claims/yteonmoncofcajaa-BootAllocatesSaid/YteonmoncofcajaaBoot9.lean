/- Contracts of package boot: Alloc. -/
import Derived.Test.YteonmoncofcajaaBoot8
namespace Go.Proofs.Yteonmoncofcajaa
open Go.RowKit
set_option linter.unusedVariables false

theorem divmul (x k : Int) (hx : 0 ≤ x) (hk : 1 ≤ k) : 0 ≤ x / k * k ∧ x / k * k ≤ x ∧ x < x / k * k + k := by
  have h1 := Int.mul_ediv_add_emod x k
  have h2 := Int.emod_nonneg x (show k ≠ 0 by omega)
  have h3 := Int.emod_lt_of_pos x (show 0 < k by omega)
  have h4 : 0 ≤ x / k * k := Int.mul_nonneg (Int.ediv_nonneg hx (by omega)) (by omega)
  have h5 : x / k * k = k * (x / k) := Int.mul_comm _ _
  omega

def fromR (lo : Int) (r : Rg) : Int := if r.f < lo then lo else r.f
def toR (hi : Int) (r : Rg) : Int := if hi < r.f + r.s then hi else r.f + r.s
/-- where a region's pages may begin -/
def firstR (lo k : Int) (r : Rg) : Int := ((if r.f < lo then lo else r.f) + k - 1) / k * k
/-- where a region's last pages begin -/
def lastR (hi n k : Int) (r : Rg) : Int := ((if hi < r.f + r.s then hi else r.f + r.s) - n) / k * k
def fitR (lo hi n k : Int) (r : Rg) : Bool := decide (firstR lo k r + n ≤ if hi < r.f + r.s then hi else r.f + r.s)
/-- the place that Alloc finds, or -1 -/
def upAt (lo hi n k : Int) : List Rg → Int
  | [] => -1
  | r :: l => if fitR lo hi n k r then firstR lo k r else upAt lo hi n k l
def downAt (lo hi n k : Int) (l : List Rg) : Int := l.foldl (fun b r => if fitR lo hi n k r then lastR hi n k r else b) (-1)

theorem upAt_none {lo hi n k : Int} : ∀ {l : List Rg}, (∀ r ∈ l, fitR lo hi n k r = false) → upAt lo hi n k l = -1
  | [], _ => rfl
  | r :: l, h => by unfold upAt; rw [h r (by simp), if_neg (by simp), upAt_none fun x hx => h x (by simp [hx])]
theorem upAt_hit {lo hi n k : Int} : ∀ {l : List Rg} {j : Nat} (hj : j < l.length), fitR lo hi n k l[j] = true → (∀ r ∈ l.take j, fitR lo hi n k r = false) → upAt lo hi n k l = firstR lo k l[j]
  | r :: l, 0, _, h, _ => by unfold upAt; rw [if_pos (show fitR lo hi n k r = true from h)]; rfl
  | r :: l, j + 1, hj, h, hn => by
    unfold upAt
    rw [hn r (by simp), if_neg (by simp)]
    exact upAt_hit (l := l) (j := j) (by simpa using hj) h fun x hx => hn x (by simp [hx])
theorem downAt_succ (lo hi n k : Int) (l : List Rg) (j : Nat) (hj : j < l.length) : downAt lo hi n k (l.take (j + 1)) = if fitR lo hi n k l[j] then lastR hi n k l[j] else downAt lo hi n k (l.take j) := by
  unfold downAt
  rw [List.take_succ_eq_append_getElem hj, List.foldl_append]
  rfl

theorem fit_bounds {lo hi n k : Int} {r : Rg} (hr : ckRg r = true) (hlo : 0 ≤ lo) (hlo2 : lo ≤ 256) (hhi : hi ≤ 256) (hn : 1 ≤ n) (hn2 : n ≤ 256) (hk : 1 ≤ k) (hk2 : k ≤ 256) (h : fitR lo hi n k r = true) :
    0 ≤ firstR lo k r ∧ firstR lo k r ≤ lastR hi n k r ∧ lastR hi n k r + n ≤ hi ∧ lastR hi n k r + n ≤ r.f + r.s ∧ lo ≤ firstR lo k r ∧ r.f ≤ firstR lo k r := by
  obtain ⟨g1, g2, g3, g4⟩ := ck_parts hr
  have h' : firstR lo k r + n ≤ if hi < r.f + r.s then hi else r.f + r.s := of_decide_eq_true h
  unfold firstR at h'
  unfold firstR lastR
  generalize hF : (if r.f < lo then lo else r.f) = F at *
  generalize hT : (if hi < r.f + r.s then hi else r.f + r.s) = T at *
  have e1 : lo ≤ F ∧ r.f ≤ F ∧ F ≤ 256 := by rw [← hF]; split <;> omega
  have e2 : T ≤ hi ∧ T ≤ r.f + r.s := by rw [← hT]; split <;> omega
  have d1 := divmul (F + k - 1) k (by omega) hk
  have h0 : (F + k - 1) / k ≤ (T - n) / k := by
    rw [Int.le_ediv_iff_mul_le (by omega)]
    omega
  have h1 : (F + k - 1) / k * k ≤ (T - n) / k * k := Int.mul_le_mul_of_nonneg_right h0 (by omega)
  have d2 := divmul (T - n) k (by omega) hk
  omega
theorem first_bounds {lo k : Int} {r : Rg} (hr : ckRg r = true) (hlo : 0 ≤ lo) (hlo2 : lo ≤ 256) (hk : 1 ≤ k) (hk2 : k ≤ 256) : 0 ≤ ((if r.f < lo then lo else r.f) + k - 1) / k * k ∧ ((if r.f < lo then lo else r.f) + k - 1) / k * k ≤ 600 := by
  obtain ⟨g1, g2, g3, g4⟩ := ck_parts hr
  generalize hF : (if r.f < lo then lo else r.f) = F
  have e1 : lo ≤ F ∧ r.f ≤ F ∧ F ≤ 256 := by rw [← hF]; split <;> omega
  have d1 := divmul (F + k - 1) k (by omega) hk
  omega

theorem downAt_fit {lo hi n k : Int} {l : List Rg} : downAt lo hi n k l = -1 ∨ ∃ r ∈ l, fitR lo hi n k r = true ∧ downAt lo hi n k l = lastR hi n k r := by
  suffices h : ∀ (l : List Rg) (b : Int), (l.foldl (fun b r => if fitR lo hi n k r then lastR hi n k r else b) b) = b ∨ ∃ r ∈ l, fitR lo hi n k r = true ∧ (l.foldl (fun b r => if fitR lo hi n k r then lastR hi n k r else b) b) = lastR hi n k r from h l (-1)
  intro l
  induction l with
  | nil => intro b; exact .inl rfl
  | cons r l ih =>
    intro b
    rw [List.foldl_cons]
    rcases ih (if fitR lo hi n k r then lastR hi n k r else b) with h | ⟨x, hx, h1, h2⟩
    · cases hf : fitR lo hi n k r with
      | true => rw [hf, if_pos rfl] at h; exact .inr ⟨r, by simp, hf, by rw [if_pos rfl, h]⟩
      | false => rw [hf, if_neg (by simp)] at h; left; rw [if_neg (by simp), h]
    · exact .inr ⟨x, by simp [hx], h1, h2⟩

set_option maxHeartbeats 2000000 in
set_option maxRecDepth 100000 in
/-- no region has room -/
theorem alloc_none (a1 a2 : Option Addr) (n1 n2 c1 c2 : Nat) (b : Bt) (n k lo hi : Int) (down : Bool) (w : World) (hat : BtAt w a1 a2 n1 n2 b) (h1 : listOk b.m = true) (h2 : listOk b.r = true)
    (hn : 1 ≤ n) (hn2 : n ≤ 256) (hk : 1 ≤ k) (hk2 : k ≤ 256) (hlo : 0 ≤ lo) (hhi : hi ≤ 256) (hlh : lo ≤ hi) (hno : ∀ r ∈ freeOf b, fitR lo hi n k r = false) :
    Calls Try.prog 26 #[.agg #[.slice a1 n1 c1, .slice a2 n2 c2], .int .i64 n, .int .i64 k, .int .i64 lo, .int .i64 hi, .bool down] w fun e w' => e = .returned (.tuple #[.agg #[.slice none 0 0, .slice none 0 0], .int .i64 0, .int .i64 6]) ∧ Below w.heap.size w w' := by
  obtain ⟨K0, K1, F0, F1, hsz, hbw⟩ := boxes2 w #[.slice a1 n1 c1, .slice a2 n2 c2] 42 #[.slice none 0 0, .slice none 0 0] 42
  have hat0 := hat.below hbw
  have hckf := regionsOf_ck (freeF b)
  go_enter Try.func26, Try.ntmps26
  go_wp2_with fail
  generalize (w.alloc (.cells #[.slice a1 n1 c1, .slice a2 n2 c2] 42)).alloc (.cells #[.slice none 0 0, .slice none 0 0] 42) = w0 at *
  refine (ranges_ok _ _ _ _ _ _ b _ hat0 h1 h2).mono ?_
  rintro e w1 ⟨a', c', rfl, hown1, hb1⟩
  have K0a := box_step K0 (by omega) hb1
  have K1a := box_step K1 (by omega) hb1
  have F1a := frz_step F1 (by omega) hb1
  have hbw1 := Below.step hbw hb1
  have hsz1 : w.heap.size + 1 < w1.heap.size := Nat.lt_of_lt_of_le hsz hb1.size
  have hrow := own_row hown1
  have hlen := regTo_len (freeF b) 256
  have hck : ∀ r ∈ freeOf b, ckRg r = true := hckf
  have hlen2' : (freeOf b).length ≤ 256 := hlen
  clear hown1 K0 F0 K1 F1 hat0 hckf hlen
  generalize freeOf b = L at *
  clear hat K0a
  go_wp2
  go_loopw [17, 19, 20, 21, 22, 63] (fun s17 _ _ _ _ s63 wr => ∃ j : Nat, j ≤ L.length ∧ s63 = .int .i64 j ∧ s17 = .int .i64 (-1) ∧ Below w1.heap.size w1 wr) (fun _ _ _ _ _ s63 _ => L.length - (intOf s63).toNat)
  case atStart => exact ⟨0, Nat.zero_le _, rfl, rfl, Below.refl _ _⟩
  case round =>
    obtain ⟨j, hj, rfl, rfl, hb3⟩ := hrel
    by_cases hlt : j < L.length
    · obtain ⟨bb, off, rfl, hb, hc⟩ := row_elem encRg_length (by decide) (hrow.below hb3) hlt
      obtain ⟨hc0, hc1⟩ := encRg_cells hc
      have hckj := hck _ (List.getElem_mem hlt)
      have hfit := hno _ (List.getElem_mem hlt)
      clear hno
      generalize L[j] = r at *
      obtain ⟨g1, g2, g3, g4⟩ := ck_parts hckj
      have hsm := ck_small hckj
      have hsz3 := hb3.size
      obtain ⟨hq0, hq1⟩ := first_bounds (lo := lo) (k := k) hckj hlo (by omega) hk hk2
      have hd : (if hi < r.f + r.s then hi else r.f + r.s) < ((if r.f < lo then lo else r.f) + k - 1) / k * k + n := by have := of_decide_eq_false hfit; unfold firstR at this; omega
      go_wp2_with fail
      have C0 : (wr.alloc (.cells #[.int .i64 r.f, .int .i64 r.s] 51)).cell? ⟨wr.heap.size, 0, none⟩ = some (.int .i64 r.f) := by simp [go_sem]
      have C1 : (wr.alloc (.cells #[.int .i64 r.f, .int .i64 r.s] 51)).cell? ⟨wr.heap.size, 1, none⟩ = some (.int .i64 r.s) := by simp [go_sem]
      have hs1 : wr.heap.size < (wr.alloc (.cells #[.int .i64 r.f, .int .i64 r.s] 51)).heap.size := by simp
      have hb4 : Below w1.heap.size w1 (wr.alloc (.cells #[.int .i64 r.f, .int .i64 r.s] 51)) := Below.step hb3 (below_alloc _ _)
      clear hc hc0 hc1
      generalize wr.alloc (.cells #[.int .i64 r.f, .int .i64 r.s] 51) = w2 at *
      refine wp_region_ext_lit (by kernel_rfl) (by kernel_rfl) ?_
      repeat (first | go_big_quiet_step ((go_at_call 42; exact Calls.ext_of (end_any r _ hsm))) | quiet_step ((go_at_call 42; exact Calls.ext_of (end_any r _ hsm))))
      refine wpQuiet_nil ?_
      rintro _ ⟨wx, rfl⟩
      have hb4x : Below w1.heap.size w1 (ext w2 wx) := Below.step hb4 (ext_below w2 wx)
      go_wp2
      exact ⟨⟨j + 1, by omega, by go_num, rfl, hb4x⟩, by simp [intOf]; omega⟩
    · obtain rfl : j = L.length := by omega
      have K1b := box_step K1a (by omega) hb3
      have F1b := frz_step F1a (by omega) hb3
      have hsz3 := hb3.size
      clear hno hrow K1a F1a
      go_wp2
      refine bodyPost_ret (v := .tuple #[.agg #[.slice none 0 0, .slice none 0 0], .int .i64 0, .int .i64 6]) (by simp [results, Try.results26, go_sem, K1b]) rfl ⟨rfl, ?_⟩
      exact Below.setCell (Below.setCell (Below.step hbw1 hb3) (by simp only; omega) _) (by simp only; omega) _

end Go.Proofs.Yteonmoncofcajaa
