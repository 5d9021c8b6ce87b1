/- Contracts of package boot: Add, Remove, Reserve, Free. -/
import Derived.Test.YteonmoncofcajaaBoot5
namespace Go.Proofs.Yteonmoncofcajaa
open Go.RowKit
set_option linter.unusedVariables false
/-- boot.Add, where all goes well -/
theorem bootAdd_ok (a1 a2 : Option Addr) (n1 n2 c1 c2 : Nat) (b : Bt) (f s : Nat) (w : World) (hat : BtAt w a1 a2 n1 n2 b) (h1 : listOk b.m = true) (h2 : listOk b.r = true) (hs1 : 1 ≤ s) (hfs : f + s ≤ 256) (hlen1 : (b.change f s false true).m.length ≤ 40) (hlen2 : (b.change f s false true).r.length ≤ 40) :
    Calls Try.prog 35 #[.agg #[.slice a1 n1 c1, .slice a2 n2 c2], .agg #[.int .i64 f, .int .i64 s]] w fun e w' => ∃ a1' n1' c1' a2' n2' c2', e = .returned (.tuple #[.agg #[.slice a1' n1' c1', .slice a2' n2' c2'], .int .i64 0]) ∧ BtOwn w' w.heap.size a1' a2' n1' n2' c1' c2' (b.change f s false true) ∧ Below w.heap.size w w' := by
  obtain ⟨K0, K1, K2, F0, F1, F2, hsz, hbw⟩ := boxes3 w #[.slice a1 n1 c1, .slice a2 n2 c2] 42 #[.int .i64 (f : Int), .int .i64 (s : Int)] 51 #[.slice none 0 0, .slice none 0 0] 42
  have hat0 := hat.below hbw
  clear hat
  go_enter Try.func35, Try.ntmps35
  go_wp2_with fail
  generalize ((w.alloc (.cells #[.slice a1 n1 c1, .slice a2 n2 c2] 42)).alloc (.cells #[.int .i64 (f : Int), .int .i64 (s : Int)] 51)).alloc (.cells #[.slice none 0 0, .slice none 0 0] 42) = w0 at *
  refine (change_ok _ _ _ _ _ _ b f s false true _ hat0 h1 h2 hs1 hfs hlen1 hlen2).mono ?_
  rintro e w1 ⟨a1', n1', c1', a2', n2', c2', rfl, hat1, hb1⟩
  have K2a := box_step K2 (by omega) hb1
  have F2a := frz_step F2 (by omega) hb1
  have hs1' := hb1.size
  go_wp2
  have nx := hat1.ne (g := w.heap.size + 1 + 1) (.inl (by omega))
  have hbw1 := Below.step hbw hb1
  refine bodyPost_ret (v := .tuple #[.agg #[.slice a1' n1' c1', .slice a2' n2' c2'], .int .i64 0]) (by simp [results, Try.results35, go_sem, K2a]) rfl ⟨a1', _, c1', a2', _, c2', rfl, ((hat1.set nx _ _).set nx _ _).base (by omega), ?_⟩
  exact Below.setCell (Below.setCell hbw1 (by simp only; omega) _) (by simp only; omega) _


/-- boot.Remove, where all goes well -/
theorem bootRemove_ok (a1 a2 : Option Addr) (n1 n2 c1 c2 : Nat) (b : Bt) (f s : Nat) (w : World) (hat : BtAt w a1 a2 n1 n2 b) (h1 : listOk b.m = true) (h2 : listOk b.r = true) (hs1 : 1 ≤ s) (hfs : f + s ≤ 256) (hlen1 : (b.change f s false false).m.length ≤ 40) (hlen2 : (b.change f s false false).r.length ≤ 40) :
    Calls Try.prog 36 #[.agg #[.slice a1 n1 c1, .slice a2 n2 c2], .agg #[.int .i64 f, .int .i64 s]] w fun e w' => ∃ a1' n1' c1' a2' n2' c2', e = .returned (.tuple #[.agg #[.slice a1' n1' c1', .slice a2' n2' c2'], .int .i64 0]) ∧ BtOwn w' w.heap.size a1' a2' n1' n2' c1' c2' (b.change f s false false) ∧ Below w.heap.size w w' := by
  obtain ⟨K0, K1, K2, F0, F1, F2, hsz, hbw⟩ := boxes3 w #[.slice a1 n1 c1, .slice a2 n2 c2] 42 #[.int .i64 (f : Int), .int .i64 (s : Int)] 51 #[.slice none 0 0, .slice none 0 0] 42
  have hat0 := hat.below hbw
  clear hat
  go_enter Try.func36, Try.ntmps36
  go_wp2_with fail
  generalize ((w.alloc (.cells #[.slice a1 n1 c1, .slice a2 n2 c2] 42)).alloc (.cells #[.int .i64 (f : Int), .int .i64 (s : Int)] 51)).alloc (.cells #[.slice none 0 0, .slice none 0 0] 42) = w0 at *
  refine (change_ok _ _ _ _ _ _ b f s false false _ hat0 h1 h2 hs1 hfs hlen1 hlen2).mono ?_
  rintro e w1 ⟨a1', n1', c1', a2', n2', c2', rfl, hat1, hb1⟩
  have K2a := box_step K2 (by omega) hb1
  have F2a := frz_step F2 (by omega) hb1
  have hs1' := hb1.size
  go_wp2
  have nx := hat1.ne (g := w.heap.size + 1 + 1) (.inl (by omega))
  have hbw1 := Below.step hbw hb1
  refine bodyPost_ret (v := .tuple #[.agg #[.slice a1' n1' c1', .slice a2' n2' c2'], .int .i64 0]) (by simp [results, Try.results36, go_sem, K2a]) rfl ⟨a1', _, c1', a2', _, c2', rfl, ((hat1.set nx _ _).set nx _ _).base (by omega), ?_⟩
  exact Below.setCell (Below.setCell hbw1 (by simp only; omega) _) (by simp only; omega) _


/-- boot.Reserve, where all goes well -/
theorem bootReserve_ok (a1 a2 : Option Addr) (n1 n2 c1 c2 : Nat) (b : Bt) (f s : Nat) (w : World) (hat : BtAt w a1 a2 n1 n2 b) (h1 : listOk b.m = true) (h2 : listOk b.r = true) (hs1 : 1 ≤ s) (hfs : f + s ≤ 256) (hlen1 : (b.change f s true true).m.length ≤ 40) (hlen2 : (b.change f s true true).r.length ≤ 40) :
    Calls Try.prog 37 #[.agg #[.slice a1 n1 c1, .slice a2 n2 c2], .agg #[.int .i64 f, .int .i64 s]] w fun e w' => ∃ a1' n1' c1' a2' n2' c2', e = .returned (.tuple #[.agg #[.slice a1' n1' c1', .slice a2' n2' c2'], .int .i64 0]) ∧ BtOwn w' w.heap.size a1' a2' n1' n2' c1' c2' (b.change f s true true) ∧ Below w.heap.size w w' := by
  obtain ⟨K0, K1, K2, F0, F1, F2, hsz, hbw⟩ := boxes3 w #[.slice a1 n1 c1, .slice a2 n2 c2] 42 #[.int .i64 (f : Int), .int .i64 (s : Int)] 51 #[.slice none 0 0, .slice none 0 0] 42
  have hat0 := hat.below hbw
  clear hat
  go_enter Try.func37, Try.ntmps37
  go_wp2_with fail
  generalize ((w.alloc (.cells #[.slice a1 n1 c1, .slice a2 n2 c2] 42)).alloc (.cells #[.int .i64 (f : Int), .int .i64 (s : Int)] 51)).alloc (.cells #[.slice none 0 0, .slice none 0 0] 42) = w0 at *
  refine (change_ok _ _ _ _ _ _ b f s true true _ hat0 h1 h2 hs1 hfs hlen1 hlen2).mono ?_
  rintro e w1 ⟨a1', n1', c1', a2', n2', c2', rfl, hat1, hb1⟩
  have K2a := box_step K2 (by omega) hb1
  have F2a := frz_step F2 (by omega) hb1
  have hs1' := hb1.size
  go_wp2
  have nx := hat1.ne (g := w.heap.size + 1 + 1) (.inl (by omega))
  have hbw1 := Below.step hbw hb1
  refine bodyPost_ret (v := .tuple #[.agg #[.slice a1' n1' c1', .slice a2' n2' c2'], .int .i64 0]) (by simp [results, Try.results37, go_sem, K2a]) rfl ⟨a1', _, c1', a2', _, c2', rfl, ((hat1.set nx _ _).set nx _ _).base (by omega), ?_⟩
  exact Below.setCell (Below.setCell hbw1 (by simp only; omega) _) (by simp only; omega) _


/-- boot.Free, where all goes well -/
theorem bootFree_ok (a1 a2 : Option Addr) (n1 n2 c1 c2 : Nat) (b : Bt) (f s : Nat) (w : World) (hat : BtAt w a1 a2 n1 n2 b) (h1 : listOk b.m = true) (h2 : listOk b.r = true) (hs1 : 1 ≤ s) (hfs : f + s ≤ 256) (hlen1 : (b.change f s true false).m.length ≤ 40) (hlen2 : (b.change f s true false).r.length ≤ 40) :
    Calls Try.prog 28 #[.agg #[.slice a1 n1 c1, .slice a2 n2 c2], .agg #[.int .i64 f, .int .i64 s]] w fun e w' => ∃ a1' n1' c1' a2' n2' c2', e = .returned (.tuple #[.agg #[.slice a1' n1' c1', .slice a2' n2' c2'], .int .i64 0]) ∧ BtOwn w' w.heap.size a1' a2' n1' n2' c1' c2' (b.change f s true false) ∧ Below w.heap.size w w' := by
  obtain ⟨K0, K1, K2, F0, F1, F2, hsz, hbw⟩ := boxes3 w #[.slice a1 n1 c1, .slice a2 n2 c2] 42 #[.int .i64 (f : Int), .int .i64 (s : Int)] 51 #[.slice none 0 0, .slice none 0 0] 42
  have hat0 := hat.below hbw
  clear hat
  go_enter Try.func28, Try.ntmps28
  go_wp2_with fail
  generalize ((w.alloc (.cells #[.slice a1 n1 c1, .slice a2 n2 c2] 42)).alloc (.cells #[.int .i64 (f : Int), .int .i64 (s : Int)] 51)).alloc (.cells #[.slice none 0 0, .slice none 0 0] 42) = w0 at *
  refine (change_ok _ _ _ _ _ _ b f s true false _ hat0 h1 h2 hs1 hfs hlen1 hlen2).mono ?_
  rintro e w1 ⟨a1', n1', c1', a2', n2', c2', rfl, hat1, hb1⟩
  have K2a := box_step K2 (by omega) hb1
  have F2a := frz_step F2 (by omega) hb1
  have hs1' := hb1.size
  go_wp2
  have nx := hat1.ne (g := w.heap.size + 1 + 1) (.inl (by omega))
  have hbw1 := Below.step hbw hb1
  refine bodyPost_ret (v := .tuple #[.agg #[.slice a1' n1' c1', .slice a2' n2' c2'], .int .i64 0]) (by simp [results, Try.results28, go_sem, K2a]) rfl ⟨a1', _, c1', a2', _, c2', rfl, ((hat1.set nx _ _).set nx _ _).base (by omega), ?_⟩
  exact Below.setCell (Below.setCell hbw1 (by simp only; omega) _) (by simp only; omega) _


end Go.Proofs.Yteonmoncofcajaa
