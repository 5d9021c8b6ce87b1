/- Contracts of package boot: Alloc, where a place is found. -/
import Derived.Test.YteonmoncofcajaaBoot9
namespace Go.Proofs.Yteonmoncofcajaa
open Go.RowKit
set_option linter.unusedVariables false

set_option maxHeartbeats 2000000 in
set_option maxRecDepth 100000 in
/-- the lowest place -/
theorem alloc_up (a1 a2 : Option Addr) (n1 n2 c1 c2 : Nat) (b : Bt) (n' p : Nat) (k lo hi : Int) (w : World) (hat : BtAt w a1 a2 n1 n2 b) (h1 : listOk b.m = true) (h2 : listOk b.r = true)
    (hn : 1 ≤ n') (hn2 : n' ≤ 256) (hk : 1 ≤ k) (hk2 : k ≤ 256) (hlo : 0 ≤ lo) (hhi : hi ≤ 256) (hlh : lo ≤ hi) (hpn : p + n' ≤ 256) (hlen1 : (b.change p n' true true).m.length ≤ 40) (hlen2 : (b.change p n' true true).r.length ≤ 40) (hno : upAt lo hi n' k (freeOf b) = p) :
    Calls Try.prog 26 #[.agg #[.slice a1 n1 c1, .slice a2 n2 c2], .int .i64 (n' : Int), .int .i64 k, .int .i64 lo, .int .i64 hi, .bool false] w fun e w' => ∃ a1' n1' c1' a2' n2' c2', e = .returned (.tuple #[.agg #[.slice a1' n1' c1', .slice a2' n2' c2'], .int .i64 p, .int .i64 0]) ∧ BtOwn w' w.heap.size a1' a2' n1' n2' c1' c2' (b.change p n' true true) ∧ Below w.heap.size w w' := by
  obtain ⟨K0, K1, F0, F1, hsz, hbw⟩ := boxes2 w #[.slice a1 n1 c1, .slice a2 n2 c2] 42 #[.slice none 0 0, .slice none 0 0] 42
  have hat0 := hat.below hbw
  have hckf := regionsOf_ck (freeF b)
  go_enter Try.func26, Try.ntmps26
  go_wp2_with fail
  generalize (w.alloc (.cells #[.slice a1 n1 c1, .slice a2 n2 c2] 42)).alloc (.cells #[.slice none 0 0, .slice none 0 0] 42) = w0 at *
  refine (ranges_ok _ _ _ _ _ _ b _ hat0 h1 h2).mono ?_
  rintro e w1 ⟨a', c', rfl, hown1, hb1⟩
  have K0a := box_step K0 (by omega) hb1
  have K1a := box_step K1 (by omega) hb1
  have F1a := frz_step F1 (by omega) hb1
  have hbw1 := Below.step hbw hb1
  have hsz1 : w.heap.size + 1 < w1.heap.size := Nat.lt_of_lt_of_le hsz hb1.size
  have hrow := own_row hown1
  have hlen := regTo_len (freeF b) 256
  have hck : ∀ r ∈ freeOf b, ckRg r = true := hckf
  have hlen2' : (freeOf b).length ≤ 256 := hlen
  clear hown1 K0 F0 K1 F1 hat0 hckf hlen
  generalize freeOf b = L at *
  have hno : upAt lo hi n' k L = p := hno
  go_wp2
  go_loopw [17, 19, 20, 21, 22, 63] (fun s17 _ _ _ _ s63 wr => ∃ j : Nat, j ≤ L.length ∧ s63 = .int .i64 j ∧ s17 = .int .i64 (-1) ∧ Hid (∀ x ∈ L.take j, fitR lo hi n' k x = false) ∧ Below w1.heap.size w1 wr) (fun _ _ _ _ _ s63 _ => L.length - (intOf s63).toNat)
  case atStart => exact ⟨0, Nat.zero_le _, rfl, rfl, by simp [Hid], Below.refl _ _⟩
  case round =>
    obtain ⟨j, hj, rfl, rfl, hnot, hb3⟩ := hrel
    by_cases hlt : j < L.length
    · obtain ⟨bb, off, rfl, hb, hc⟩ := row_elem encRg_length (by decide) (hrow.below hb3) hlt
      obtain ⟨hc0, hc1⟩ := encRg_cells hc
      have hckj := hck _ (List.getElem_mem hlt)
      have hhit : Hid (fitR lo hi n' k L[j] = true → firstR lo k L[j] = p) := fun h => by rw [← hno]; exact (upAt_hit hlt h hnot.out).symm
      have hmiss : Hid (fitR lo hi n' k L[j] = false → ∀ x ∈ L.take (j + 1), fitR lo hi n' k x = false) := fun h x hx => by
        rw [List.take_succ_eq_append_getElem hlt, List.mem_append, List.mem_singleton] at hx
        rcases hx with hx | rfl
        · exact hnot.out x hx
        · exact h
      clear hnot
      generalize L[j] = r at *
      obtain ⟨g1, g2, g3, g4⟩ := ck_parts hckj
      have hsm := ck_small hckj
      have hsz3 := hb3.size
      obtain ⟨hq0, hq1⟩ := first_bounds (lo := lo) (k := k) hckj hlo (by omega) hk hk2
      have hfit2 : fitR lo hi n' k r = false ∨ fitR lo hi n' k r = true := by cases fitR lo hi n' k r <;> simp
      rcases hfit2 with hfit | hfit
      · have hm2 := Hid.mk (hmiss.out hfit)
        have hd : (if hi < r.f + r.s then hi else r.f + r.s) < ((if r.f < lo then lo else r.f) + k - 1) / k * k + n' := by have := of_decide_eq_false hfit; unfold firstR at this; omega
        go_wp2_with fail
        have C0 : (wr.alloc (.cells #[.int .i64 r.f, .int .i64 r.s] 51)).cell? ⟨wr.heap.size, 0, none⟩ = some (.int .i64 r.f) := by simp [go_sem]
        have C1 : (wr.alloc (.cells #[.int .i64 r.f, .int .i64 r.s] 51)).cell? ⟨wr.heap.size, 1, none⟩ = some (.int .i64 r.s) := by simp [go_sem]
        have hs1 : wr.heap.size < (wr.alloc (.cells #[.int .i64 r.f, .int .i64 r.s] 51)).heap.size := by simp
        have hb4 : Below w1.heap.size w1 (wr.alloc (.cells #[.int .i64 r.f, .int .i64 r.s] 51)) := Below.step hb3 (below_alloc _ _)
        clear hc hc0 hc1
        generalize wr.alloc (.cells #[.int .i64 r.f, .int .i64 r.s] 51) = w2 at *
        refine wp_region_ext_lit (by kernel_rfl) (by kernel_rfl) ?_
        repeat (first | go_big_quiet_step ((go_at_call 42; exact Calls.ext_of (end_any r _ hsm))) | quiet_step ((go_at_call 42; exact Calls.ext_of (end_any r _ hsm))))
        refine wpQuiet_nil ?_
        rintro _ ⟨wx, rfl⟩
        have hb4x : Below w1.heap.size w1 (ext w2 wx) := Below.step hb4 (ext_below w2 wx)
        go_wp2
        exact ⟨⟨j + 1, by omega, by go_num, rfl, hm2.out, hb4x⟩, by simp [intOf]; omega⟩
      have heq : ((if r.f < lo then lo else r.f) + k - 1) / k * k = (p : Int) := hhit.out hfit
      have hd : (p : Int) + n' ≤ (if hi < r.f + r.s then hi else r.f + r.s) := by have := of_decide_eq_true hfit; unfold firstR at this; omega
      clear hmiss hhit
      generalize hF : (if r.f < lo then lo else r.f) = F at *
      generalize hT : (if hi < r.f + r.s then hi else r.f + r.s) = T at *
      go_wp2_with fail
      have C0 : (wr.alloc (.cells #[.int .i64 r.f, .int .i64 r.s] 51)).cell? ⟨wr.heap.size, 0, none⟩ = some (.int .i64 r.f) := by simp [go_sem]
      have C1 : (wr.alloc (.cells #[.int .i64 r.f, .int .i64 r.s] 51)).cell? ⟨wr.heap.size, 1, none⟩ = some (.int .i64 r.s) := by simp [go_sem]
      have hs1 : wr.heap.size < (wr.alloc (.cells #[.int .i64 r.f, .int .i64 r.s] 51)).heap.size := by simp
      have hb4 : Below w1.heap.size w1 (wr.alloc (.cells #[.int .i64 r.f, .int .i64 r.s] 51)) := Below.step hb3 (below_alloc _ _)
      clear hc hc0 hc1
      generalize wr.alloc (.cells #[.int .i64 r.f, .int .i64 r.s] 51) = w2 at *
      refine wp_region_ext_lit (by kernel_rfl) (by kernel_rfl) ?_
      repeat (first | go_big_quiet_step ((go_at_call 42; exact Calls.ext_of (end_any r _ hsm))) | quiet_step ((go_at_call 42; exact Calls.ext_of (end_any r _ hsm))))
      refine wpQuiet_nil ?_
      rintro _ ⟨wx, rfl⟩
      have hb4x : Below w1.heap.size w1 (ext w2 wx) := Below.step hb4 (ext_below w2 wx)
      have hb3 := hb4x
      have hbwr := Below.step hbw1 hb4x
      generalize ext w2 wx = w3 at *
      have hatw := hat.below hbwr
      have K0b := box_step K0a (by omega) hb3
      have K1b := box_step K1a (by omega) hb3
      have F1b := frz_step F1a (by omega) hb3
      have hszr : w.heap.size + 1 < w3.heap.size := Nat.lt_of_lt_of_le hsz1 hb3.size
      clear K0a K1a F1a hno hrow
      go_wp2_with fail
      refine (bootReserve_ok _ _ _ _ _ _ b p n' _ hatw h1 h2 (by omega) (by omega) hlen1 hlen2).mono ?_
      rintro e w4 ⟨a1', n1', c1', a2', n2', c2', rfl, hat1, hb5⟩
      have K1c := box_step K1b (by omega) hb5
      have F1c := frz_step F1b (by omega) hb5
      have hsz4 := hb5.size
      have nx := hat1.ne (g := w.heap.size + 1) (.inl (by omega))
      have hbw4 := Below.step hbwr hb5
      have HAT := Hid.mk hat1
      clear hat1 K0b K1b F1b
      have K1d := box_step K1c (by omega) (below_alloc w4 (.cells #[.slice a1' n1' c1', .slice a2' n2' c2'] 42))
      have F1d := frz_step F1c (by omega) (below_alloc w4 (.cells #[.slice a1' n1' c1', .slice a2' n2' c2'] 42))
      have K2d := box_new w4 #[.slice a1' n1' c1', .slice a2' n2' c2'] 42
      clear K1c F1c
      go_wp2
      refine bodyPost_ret (v := .tuple #[.agg #[.slice a1' n1' c1', .slice a2' n2' c2'], .int .i64 p, .int .i64 0]) (by simp [results, Try.results26, go_sem, K1d]) rfl ⟨a1', _, c1', a2', _, c2', rfl, (((HAT.out.below (below_alloc _ _)).set nx _ _).set nx _ _).base (by omega), ?_⟩
      exact Below.setCell (Below.setCell (Below.step hbw4 (below_alloc _ _)) (by simp only; omega) _) (by simp only; omega) _

    · exfalso
      obtain rfl : j = L.length := by omega
      rw [Hid, List.take_of_length_le (Nat.le_refl _)] at hnot
      rw [upAt_none hnot] at hno
      omega

set_option maxHeartbeats 2000000 in
set_option maxRecDepth 100000 in
/-- the highest place -/
theorem alloc_down (a1 a2 : Option Addr) (n1 n2 c1 c2 : Nat) (b : Bt) (n' p : Nat) (k lo hi : Int) (w : World) (hat : BtAt w a1 a2 n1 n2 b) (h1 : listOk b.m = true) (h2 : listOk b.r = true)
    (hn : 1 ≤ n') (hn2 : n' ≤ 256) (hk : 1 ≤ k) (hk2 : k ≤ 256) (hlo : 0 ≤ lo) (hhi : hi ≤ 256) (hlh : lo ≤ hi) (hpn : p + n' ≤ 256) (hlen1 : (b.change p n' true true).m.length ≤ 40) (hlen2 : (b.change p n' true true).r.length ≤ 40) (hno : downAt lo hi n' k (freeOf b) = p) :
    Calls Try.prog 26 #[.agg #[.slice a1 n1 c1, .slice a2 n2 c2], .int .i64 (n' : Int), .int .i64 k, .int .i64 lo, .int .i64 hi, .bool true] w fun e w' => ∃ a1' n1' c1' a2' n2' c2', e = .returned (.tuple #[.agg #[.slice a1' n1' c1', .slice a2' n2' c2'], .int .i64 p, .int .i64 0]) ∧ BtOwn w' w.heap.size a1' a2' n1' n2' c1' c2' (b.change p n' true true) ∧ Below w.heap.size w w' := by
  obtain ⟨K0, K1, F0, F1, hsz, hbw⟩ := boxes2 w #[.slice a1 n1 c1, .slice a2 n2 c2] 42 #[.slice none 0 0, .slice none 0 0] 42
  have hat0 := hat.below hbw
  have hckf := regionsOf_ck (freeF b)
  go_enter Try.func26, Try.ntmps26
  go_wp2_with fail
  generalize (w.alloc (.cells #[.slice a1 n1 c1, .slice a2 n2 c2] 42)).alloc (.cells #[.slice none 0 0, .slice none 0 0] 42) = w0 at *
  refine (ranges_ok _ _ _ _ _ _ b _ hat0 h1 h2).mono ?_
  rintro e w1 ⟨a', c', rfl, hown1, hb1⟩
  have K0a := box_step K0 (by omega) hb1
  have K1a := box_step K1 (by omega) hb1
  have F1a := frz_step F1 (by omega) hb1
  have hbw1 := Below.step hbw hb1
  have hsz1 : w.heap.size + 1 < w1.heap.size := Nat.lt_of_lt_of_le hsz hb1.size
  have hrow := own_row hown1
  have hlen := regTo_len (freeF b) 256
  have hck : ∀ r ∈ freeOf b, ckRg r = true := hckf
  have hlen2' : (freeOf b).length ≤ 256 := hlen
  clear hown1 K0 F0 K1 F1 hat0 hckf hlen
  generalize freeOf b = L at *
  have hno : downAt lo hi n' k L = p := hno
  go_wp2
  go_loopw [17, 19, 20, 21, 22, 63] (fun s17 _ _ _ _ s63 wr => ∃ j : Nat, j ≤ L.length ∧ s63 = .int .i64 j ∧ s17 = .int .i64 (downAt lo hi n' k (L.take j)) ∧ Below w1.heap.size w1 wr) (fun _ _ _ _ _ s63 _ => L.length - (intOf s63).toNat)
  case atStart => exact ⟨0, Nat.zero_le _, rfl, rfl, Below.refl _ _⟩
  case round =>
    obtain ⟨j, hj, rfl, rfl, hb3⟩ := hrel
    by_cases hlt : j < L.length
    · obtain ⟨bb, off, rfl, hb, hc⟩ := row_elem encRg_length (by decide) (hrow.below hb3) hlt
      obtain ⟨hc0, hc1⟩ := encRg_cells hc
      have hckj := hck _ (List.getElem_mem hlt)
      have hsucc := Hid.mk (downAt_succ lo hi n' k L j hlt)
      generalize downAt lo hi n' k (L.take j) = D at *
      generalize L[j] = r at *
      obtain ⟨g1, g2, g3, g4⟩ := ck_parts hckj
      have hsm := ck_small hckj
      have hsz3 := hb3.size
      obtain ⟨hq0, hq1⟩ := first_bounds (lo := lo) (k := k) hckj hlo (by omega) hk hk2
      cases hfit : fitR lo hi n' k r with
      | false =>
        rw [hfit, if_neg (by simp)] at hsucc
        have hd : (if hi < r.f + r.s then hi else r.f + r.s) < ((if r.f < lo then lo else r.f) + k - 1) / k * k + n' := by have := of_decide_eq_false hfit; unfold firstR at this; omega
        go_wp2_with fail
        have C0 : (wr.alloc (.cells #[.int .i64 r.f, .int .i64 r.s] 51)).cell? ⟨wr.heap.size, 0, none⟩ = some (.int .i64 r.f) := by simp [go_sem]
        have C1 : (wr.alloc (.cells #[.int .i64 r.f, .int .i64 r.s] 51)).cell? ⟨wr.heap.size, 1, none⟩ = some (.int .i64 r.s) := by simp [go_sem]
        have hs1 : wr.heap.size < (wr.alloc (.cells #[.int .i64 r.f, .int .i64 r.s] 51)).heap.size := by simp
        have hb4 : Below w1.heap.size w1 (wr.alloc (.cells #[.int .i64 r.f, .int .i64 r.s] 51)) := Below.step hb3 (below_alloc _ _)
        clear hc hc0 hc1
        generalize wr.alloc (.cells #[.int .i64 r.f, .int .i64 r.s] 51) = w2 at *
        refine wp_region_ext_lit (by kernel_rfl) (by kernel_rfl) ?_
        repeat (first | go_big_quiet_step ((go_at_call 42; exact Calls.ext_of (end_any r _ hsm))) | quiet_step ((go_at_call 42; exact Calls.ext_of (end_any r _ hsm))))
        refine wpQuiet_nil ?_
        rintro _ ⟨wx, rfl⟩
        have hb4x : Below w1.heap.size w1 (ext w2 wx) := Below.step hb4 (ext_below w2 wx)
        go_wp2
        exact ⟨⟨j + 1, by omega, by go_num, by rw [hsucc.out], hb4x⟩, by simp [intOf]; omega⟩
      | true =>
        rw [hfit, if_pos rfl] at hsucc
        have hd : ((if r.f < lo then lo else r.f) + k - 1) / k * k + n' ≤ (if hi < r.f + r.s then hi else r.f + r.s) := by have := of_decide_eq_true hfit; unfold firstR at this; omega
        have hfb := fit_bounds hckj hlo (by omega) hhi (by omega) (by omega) hk hk2 hfit
        have hl0 : 0 ≤ ((if hi < r.f + r.s then hi else r.f + r.s) - n') / k * k := by unfold lastR at hfb; omega
        have hl1 : ((if hi < r.f + r.s then hi else r.f + r.s) - n') / k * k ≤ 256 := by unfold lastR at hfb; omega
        clear hfb
        go_wp2_with fail
        have C0 : (wr.alloc (.cells #[.int .i64 r.f, .int .i64 r.s] 51)).cell? ⟨wr.heap.size, 0, none⟩ = some (.int .i64 r.f) := by simp [go_sem]
        have C1 : (wr.alloc (.cells #[.int .i64 r.f, .int .i64 r.s] 51)).cell? ⟨wr.heap.size, 1, none⟩ = some (.int .i64 r.s) := by simp [go_sem]
        have hs1 : wr.heap.size < (wr.alloc (.cells #[.int .i64 r.f, .int .i64 r.s] 51)).heap.size := by simp
        have hb4 : Below w1.heap.size w1 (wr.alloc (.cells #[.int .i64 r.f, .int .i64 r.s] 51)) := Below.step hb3 (below_alloc _ _)
        clear hc hc0 hc1
        generalize wr.alloc (.cells #[.int .i64 r.f, .int .i64 r.s] 51) = w2 at *
        refine wp_region_ext_lit (by kernel_rfl) (by kernel_rfl) ?_
        repeat (first | go_big_quiet_step ((go_at_call 42; exact Calls.ext_of (end_any r _ hsm))) | quiet_step ((go_at_call 42; exact Calls.ext_of (end_any r _ hsm))))
        refine wpQuiet_nil ?_
        rintro _ ⟨wx, rfl⟩
        have hb4x : Below w1.heap.size w1 (ext w2 wx) := Below.step hb4 (ext_below w2 wx)
        go_wp2
        go_roundw
        case rel => exact ⟨j + 1, by omega, by go_num, by rw [hsucc.out]; rfl, hb4x⟩
        case measure => simp [intOf]; omega
    · obtain rfl : j = L.length := by omega
      rw [List.take_of_length_le (Nat.le_refl _), hno]
      have hbwr := Below.step hbw1 hb3
      have hatw := hat.below hbwr
      have K0b := box_step K0a (by omega) hb3
      have K1b := box_step K1a (by omega) hb3
      have F1b := frz_step F1a (by omega) hb3
      have hszr : w.heap.size + 1 < wr.heap.size := Nat.lt_of_lt_of_le hsz1 hb3.size
      clear K0a K1a F1a hno hrow
      go_wp2_with fail
      refine (bootReserve_ok _ _ _ _ _ _ b p n' _ hatw h1 h2 (by omega) (by omega) hlen1 hlen2).mono ?_
      rintro e w4 ⟨a1', n1', c1', a2', n2', c2', rfl, hat1, hb5⟩
      have K1c := box_step K1b (by omega) hb5
      have F1c := frz_step F1b (by omega) hb5
      have hsz4 := hb5.size
      have nx := hat1.ne (g := w.heap.size + 1) (.inl (by omega))
      have hbw4 := Below.step hbwr hb5
      have HAT := Hid.mk hat1
      clear hat1 K0b K1b F1b
      have K1d := box_step K1c (by omega) (below_alloc w4 (.cells #[.slice a1' n1' c1', .slice a2' n2' c2'] 42))
      have F1d := frz_step F1c (by omega) (below_alloc w4 (.cells #[.slice a1' n1' c1', .slice a2' n2' c2'] 42))
      have K2d := box_new w4 #[.slice a1' n1' c1', .slice a2' n2' c2'] 42
      clear K1c F1c
      go_wp2
      refine bodyPost_ret (v := .tuple #[.agg #[.slice a1' n1' c1', .slice a2' n2' c2'], .int .i64 p, .int .i64 0]) (by simp [results, Try.results26, go_sem, K1d]) rfl ⟨a1', _, c1', a2', _, c2', rfl, (((HAT.out.below (below_alloc _ _)).set nx _ _).set nx _ _).base (by omega), ?_⟩
      exact Below.setCell (Below.setCell (Below.step hbw4 (below_alloc _ _)) (by simp only; omega) _) (by simp only; omega) _


end Go.Proofs.Yteonmoncofcajaa
