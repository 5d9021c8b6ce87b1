/- Blk4, Blk5: texts of this claim, joined. -/
import Derived.Test.YtkcaheebaicinaaGreatDoorSN4
import Derived.Test.YtkcaheebaicinaaGreatDoorSN7
import Derived.StillTailTactics
import Derived.Lib.Overlaps
import Derived.Laws.Externs
/- Contract of slices.Delete at Block, one element. -/
namespace Go.Proofs.YtkcaheebaicinaaGreatDoor
open Go.RowKit
set_option linter.unusedVariables false
attribute [local go_sem ↓] sliced_cut

theorem zero_bk (w : World) : (zeroValue 95).run Tryz.prog w = .ok (.agg #[.int .i64 0, .int .i64 0, .int .i64 0]) w := by
  obtain ⟨i, hi, hz, hs, hb⟩ := info_parts info_bk
  simp [zeroValue, typeInfo, hi, hz]

set_option maxRecDepth 100000 in
theorem delete_bk (base : Nat) (a : Option Addr) (n c : Nat) (l : List Bk) (i : Nat) (w : World) (hown : w.ownsRow base 95 3 (.slice a n c) n (flat encBk l)) (hi : i < n) (hn : n ≤ 1000) (hbase : base ≤ w.heap.size) :
    Calls Tryz.prog 118 #[.slice a n c, .int .i64 i, .int .i64 (i + 1)] w fun ev w' => ev = .returned (.slice a (n - 1) c) ∧ w'.ownsRow base 95 3 (.slice a (n - 1) c) (n - 1) (flat encBk (l.eraseIdx i)) ∧ w.grownBy w' (Value.ownBlock (.slice a n c)) := by
  have hln : l.length = n := own_flat_len encBk_length (by decide) hown
  have hnc := own_cap hown
  have hcm : c ≤ 9223372036854775807 := by
    rcases hown.2 with ⟨h', h2⟩ | ⟨g, cap, cur, h', _, _, _, hcm, _⟩
    · simp at h'; omega
    · have : c = cap := by simp at h'; exact h'.2
      unfold maxLen at hcm; omega
  have HO := Hid.mk hown
  clear hown
  have b0 : (i : Int) ≤ n := by omega
  have b1 : (i : Int) + 1 ≤ n := by omega
  have b2 : (i : Int) ≤ c := by omega
  have b3 : (i : Int) + 1 ≤ c := by omega
  have b4 : (n : Int) ≤ c := by omega
  have b5 : (0 : Int) ≤ (i : Int) + 1 := by omega
  have b6 : ((i : Int) + 1).toNat = i + 1 := by omega
  go_enter Tryz.func118, Tryz.ntmps118
  go_wp2_with fail
  go_still_tail 6, (by kernel_rfl)
  change wpList _ _ _ _ _ w.drew
  have HO2 := own_below HO.out ((Below.refl w.heap.size w).drew) (Nat.le_refl _)
  have hrow := (own_row HO2).cut (i + 1) c 3 ((n - (i + 1)) * 3) (by omega)
  have hfl := flat_length encBk_length l
  rw [List.take_of_length_le (by rw [List.length_drop, hfl]; omega), flat_drop encBk_length] at hrow
  have hpre := own_prefix HO2 (show i ≤ n by omega)
  rw [flat_take encBk_length] at hpre
  have HG : Hid (∀ w', w.drew.grownBy w' (Value.ownBlock (.slice a i c)) → w.grownBy w' (Value.ownBlock (.slice a n c))) := fun w' h => ⟨h.os, h.tape, h.output, h.size, fun k hk hne => h.block k hk (by cases a with | none => simp [Value.ownBlock] | some x => simpa [Value.ownBlock] using hne)⟩
  have hdw : w.drew.heap.size = w.heap.size := rfl
  clear HO2
  generalize w.drew = w1 at *
  refine wpList_appr rfl _ _ 33 rfl base 95 (.agg #[.int .i64 0, .int .i64 0, .int .i64 0]) 3 24 Tryz.underlying33 info_bk (by decide) a i c _ rfl hpre (cutA a (i + 1) c 3) (n - (i + 1)) (c - (i + 1)) (flat encBk (l.drop (i + 1))) rfl (by rw [flat_length encBk_length, List.length_drop, hln]) hrow (encBk_one _) (by omega) ?_
  intro w2 hown2 hg2
  have hG2 := HG.out w2 hg2
  rw [← flat_append, ← List.eraseIdx_eq_take_drop_succ] at hown2
  have e1 : i + (n - (i + 1)) = n - 1 := by omega
  rw [e1] at hown2 ⊢
  have HO3 := Hid.mk hown2
  have b7 : (n : Int) - 1 ≤ n := by omega
  have b8 : ((n - 1 : Nat) : Int) ≤ n := by omega
  have b9 : n - (n - 1) = 1 := by omega
  clear hown2 hg2 hrow hpre HO hfl
  obtain ⟨w3, hclr, hown3, hg3⟩ := run_clr (P := Tryz.prog) 33 0 95 Tryz.underlying33 3 (.agg #[.int .i64 0, .int .i64 0, .int .i64 0]) zero_bk rfl (by decide) base (n - 1) 1 c (c - (n - 1)) a _ HO3.out (by omega)
  have HO4 := Hid.mk hown3
  have HG4 : Hid (w.grownBy w3 (Value.ownBlock (.slice a n c))) := ⟨hg3.os.trans hG2.os, hg3.tape.trans hG2.tape, hg3.output.trans hG2.output, Nat.le_trans hG2.size hg3.size, fun k hk hne => (hg3.block k (Nat.lt_of_lt_of_le hk hG2.size) (by cases a with | none => simp [Value.ownBlock] | some x => simpa [Value.ownBlock] using hne)).trans (hG2.block k hk hne)⟩
  clear hown3 HO3 hG2 hg3
  go_wp2
  go_ret
  exact ⟨rfl, HO4.out, HG4.out⟩
end Go.Proofs.YtkcaheebaicinaaGreatDoor
/- Contract of slices.Insert at Block, one element. -/
namespace Go.Proofs.YtkcaheebaicinaaGreatDoor
open Go.RowKit
set_option linter.unusedVariables false
attribute [local go_sem ↓] sliced_cut

/-- 'append' of zeros onto an owned row that has no room: a new row -/
theorem run_app0 {P : Program} {w : World} (t tn ty e : TypeId) (ht : P.underlying t = some (.slice e)) (htn : P.underlying tn = some (.int .i64)) (z : Value) (size bytes : Nat) (hinfo : (P.info? e).map (fun i => (i.zero, i.size, i.bytes)) = some (some z, size, bytes)) (hzs : z.cells.size = size) (hsz : 0 < size)
    (as_ : Option Addr) (n cs : Nat) (xs : List Value) (base : Nat) (hown : w.ownsRow base e size (.slice as_ n cs) n xs) (k : Nat) (hk : 0 < k) (hg : cs < n + k) (hbytes : (n + k) * bytes ≤ 140737488355328) (hbp : 0 < bytes) :
    ∃ G zs w', (Builtin.append_ #[t, tn] ty #[.slice as_ n cs, .int .i64 k]).run P w = .ok (.slice (some ⟨w.heap.size, 0, none⟩) (n + k) G) w' ∧ zs.length = k * size ∧ w'.ownsRow w.heap.size e size (.slice (some ⟨w.heap.size, 0, none⟩) (n + k) G) (n + k) (xs ++ zs) ∧ w.grownBy w' none := by
  obtain ⟨i, hi, hz, hsize, hby⟩ := info_parts hinfo
  subst hsize
  subst hby
  have h63 : n + k ≤ maxLen := by
    have : n + k ≤ (n + k) * i.bytes := Nat.le_mul_of_pos_right _ hbp
    simp only [maxLen]; omega
  have hold : (Builtin.firstCells i.size n (.slice as_ n cs)).run P w.drew = .ok xs.toArray w.drew := firstCells_row i.size n as_ n cs xs hown.1 (own_row (own_below hown ((Below.refl w.heap.size w).drew) (Nat.le_refl _)))
  have h := Lib.run_append_grow_zeros (P := P) w t tn ty e i z .i64 .i64 ht htn hi hz as_ n cs xs hold k hk hsz hg (by unfold maxLen at h63; omega) (by have := Nat.mul_le_mul_right i.bytes (show k ≤ n + k by omega); omega) (growslice_fits hg hbytes)
  have hge := grownCap_ge w (n + k) cs e
  have hcm : grownCap w (n + k) cs e ≤ maxLen := grownCap_le_maxLen w (n + k) cs e h63
  refine ⟨_, (Builtin.zeroCells z.cells k).toList, _, h, ?_, ⟨?_, .inr ⟨w.heap.size, _, _, rfl, Nat.le_refl _, heap_alloc_new w.drew _, hge, hcm, ?_, ?_⟩⟩, ⟨rfl, rfl, rfl, by simp, fun j hj _ => heap_alloc_old w.drew _ hj⟩⟩
  · rw [Array.length_toList, size_zeroCells, hzs]
  · rw [List.length_append, hown.1, Array.length_toList, size_zeroCells, hzs, Nat.add_mul]
  · simp only [Array.size_append, List.size_toArray, size_zeroCells, hzs, hown.1, ← Nat.add_mul]
    congr 1
    omega
  · have hl : (xs ++ (Builtin.zeroCells z.cells k).toList).length = (n + k) * i.size := by rw [List.length_append, hown.1, Array.length_toList, size_zeroCells, hzs, Nat.add_mul]
    simp only [Array.toList_append]
    rw [← hl]
    exact List.take_left

theorem wpList_app_run {P : Program} {w : World} {ops : Array Oper} {rest : List Oper} {o : Oper} {a : Act} {Q : Exit → Act → World → Prop} (hgd : o.guard = none) (s x : Operand) (t tn : TypeId)
    (ho : o.op = .call { callee := .builtin .append, args := #[s, x], argTypes := #[t, tn] }) (v u : Value) (hs : a.eval s = v) (hx : a.eval x = u) {v' : Value} {w' : World}
    (hr : (Builtin.append_ #[t, tn] o.type #[v, u]).run P w = .ok v' w') (h : wpList P ops Q rest (a.put o.dst v') w') : wpList P ops Q (o :: rest) a w := by
  refine wpList_plain hgd fun K hK => ?_
  unfold Oper.wp execOp
  simp only [ho, resolve, invoke, builtin, Sem.run_bind, Sem.run_pure, Result.andThen_ok, List.map_toArray, List.map_cons, List.map_nil, hs, hx, hr]
  exact hK _ _ h

set_option maxRecDepth 100000 in
theorem insert_end (base : Nat) (a : Option Addr) (n c g : Nat) (l : List Bk) (b : Bk) (w : World) (hown : w.ownsRow base 95 3 (.slice a n c) n (flat encBk l)) (hn : n ≤ 1000) (hbase : base ≤ w.heap.size) (hv : Row w (some ⟨g, 0, none⟩) (encBk b)) :
    Calls Tryz.prog 82 #[.slice a n c, .int .i64 n, .slice (some ⟨g, 0, none⟩) 1 1] w fun ev w' => ∃ a' c', ev = .returned (.slice a' (n + 1) c') ∧ w'.ownsRow base 95 3 (.slice a' (n + 1) c') (n + 1) (flat encBk (l ++ [b])) ∧ w.grownBy w' (Value.ownBlock (.slice a n c)) := by
  have hnc := own_cap hown
  have HO := Hid.mk hown
  clear hown
  have b2 : (n : Int) ≤ c := by omega
  go_enter Tryz.func82, Tryz.ntmps82
  go_wp2_with (at_builtin; refine wpList_app rfl _ _ 33 rfl base 95 (.agg #[.int .i64 0, .int .i64 0, .int .i64 0]) 3 24 Tryz.underlying33 info_bk rfl (by decide) (by decide) _ _ _ _ rfl HO.out (some ⟨g, 0, none⟩) 1 1 (encBk b) rfl rfl hv (by simp [encBk, vI, Value.oneCell']) (by omega) hbase ?_)
  intro a' c' w1 hown1 hg
  rw [show flat encBk l ++ encBk b = flat encBk (l ++ [b]) from by rw [flat_append, flat_one]] at hown1
  have HO1 := Hid.mk hown1
  clear hown1 HO
  go_wp2
  go_ret
  exact ⟨a', c', rfl, HO1.out, hg⟩

set_option maxRecDepth 100000 in
theorem insert_grow (base : Nat) (a : Option Addr) (n c g i : Nat) (l : List Bk) (b : Bk) (w : World) (hown : w.ownsRow base 95 3 (.slice a n c) n (flat encBk l)) (hi : i < n) (hn : n ≤ 1000) (hc : c < n + 1) (hbase : base ≤ w.heap.size) (hv : Row w (some ⟨g, 0, none⟩) (encBk b)) :
    Calls Tryz.prog 82 #[.slice a n c, .int .i64 i, .slice (some ⟨g, 0, none⟩) 1 1] w fun ev w' => ∃ a' c', ev = .returned (.slice a' (n + 1) c') ∧ w'.ownsRow base 95 3 (.slice a' (n + 1) c') (n + 1) (flat encBk (l.take i ++ b :: l.drop i)) ∧ w.grownBy w' (Value.ownBlock (.slice a n c)) := by
  have hnc := own_cap hown
  have hln : l.length = n := own_flat_len encBk_length (by decide) hown
  have hfl := flat_length encBk_length l
  obtain ⟨G, zs, w1, hrz, hzl, hown1, hg1⟩ := run_app0 (P := Tryz.prog) 33 3 33 95 Tryz.underlying33 Tryz.underlying3 (.agg #[.int .i64 0, .int .i64 0, .int .i64 0]) 3 24 info_bk rfl (by decide) a i c _ base (own_prefix hown (show i ≤ n by omega)) (n + 1 - i) (by omega) (by omega) (by omega) (by omega)
  rw [show i + (n + 1 - i) = n + 1 by omega] at hrz hown1
  rw [show ((n + 1 - i : Nat) : Int) = (n : Int) + 1 - (i : Int) by omega] at hrz
  rw [flat_take encBk_length] at hown1
  have HR := Hid.mk (own_row hown)
  have hGn := own_cap hown1
  have HO1 := Hid.mk hown1
  have HG1 := Hid.mk hg1
  have hbw := Hid.mk ((Below.refl w.heap.size w).grown hg1 (Nat.le_refl _) (by simp))
  have b0 : (i : Int) ≤ n := by omega
  have b2 : (i : Int) ≤ c := by omega
  have b3 : ¬ (i : Int) = n := by omega
  have b4 : (c : Int) < (n : Int) + 1 := by omega
  have b5 : (i : Int) ≤ (n : Int) + 1 := by omega
  have b6 : ((n + 1 : Nat) : Int) ≤ G := by omega
  have hsz : (Tryz.prog.info? 95).map (·.size) = some 3 := by kernel_rfl
  have hv1 := hv.mono hbw.out (Nat.le_refl _)
  have htl : (flat encBk (l.take i)).length = i * 3 := by rw [flat_length encBk_length, List.length_take]; omega
  have hcut1 : cutA (some ⟨w.heap.size, 0, none⟩) i G 3 = (some ⟨w.heap.size, 0, none⟩ : Option Addr).map (·.add (i * 3)) := by unfold cutA; rw [if_neg (by omega)]
  have hcut2 : cutA (some ⟨w.heap.size, 0, none⟩) (i + 1) G 3 = (some ⟨w.heap.size, 0, none⟩ : Option Addr).map (·.add ((i + 1) * 3)) := by unfold cutA; rw [if_neg (by omega)]
  obtain ⟨w2, hcp1, hown2, hg2⟩ := run_cp (P := Tryz.prog) 33 33 3 95 Tryz.underlying33 3 hsz (cutA (some ⟨w.heap.size, 0, none⟩) i G 3) (some ⟨g, 0, none⟩) (n + 1 - i) (G - i) 1 1 (encBk b) (by rw [show Nat.min 1 (n + 1 - i) = 1 from Nat.min_eq_left (by omega)]; rfl) hv1 (by simp [encBk, vI, Value.oneCell']) w.heap.size (n + 1) G i (some ⟨w.heap.size, 0, none⟩) _ HO1.out (fun _ => hcut1) (fun h => by rw [hcut1] at h; simp at h) (by rw [encBk_length]; omega)
  rw [encBk_length, List.take_left' htl, ← Nat.succ_mul] at hown2
  have hdrop : (flat encBk (l.take i) ++ zs).drop ((i + 1) * 3) = zs.drop 3 := by rw [List.drop_append, List.drop_eq_nil_of_le (by omega), htl, List.nil_append]; congr 1; omega
  rw [Nat.succ_eq_add_one, hdrop] at hown2
  have hbw2 := (hbw.out.grown hg2 hbw.out.size (by intro k hk; simp [Value.ownBlock] at hk; omega)).drew
  have hown2d := own_below hown2 ((Below.refl w2.heap.size w2).drew) (Nat.le_refl _)
  have hrow := ((own_row hown).mono hbw2 (Nat.le_refl _)).cut i c 3 ((n - i) * 3) (by omega)
  rw [List.take_of_length_le (by rw [List.length_drop, hfl]; omega), flat_drop encBk_length] at hrow
  have hdl : (flat encBk (l.drop i)).length = (n - i) * 3 := by rw [flat_length encBk_length, List.length_drop, hln]
  obtain ⟨w3, hcp2, hown3, hg3⟩ := run_cp (P := Tryz.prog) (w := w2.drew) 33 33 3 95 Tryz.underlying33 3 hsz (cutA (some ⟨w.heap.size, 0, none⟩) (i + 1) G 3) (cutA a i c 3) (n - i) (G - (i + 1)) (n - i) (c - i) (flat encBk (l.drop i)) (by rw [hdl, show Nat.min (n - i) (n - i) = n - i from Nat.min_self _]) hrow (encBk_one _) w.heap.size (n + 1) G (i + 1) (some ⟨w.heap.size, 0, none⟩) _ hown2d (fun _ => hcut2) (fun h => by rw [hcut2] at h; simp at h) (by rw [hdl]; omega)
  rw [show (flat encBk (l.take i) ++ encBk b ++ zs.drop 3).take ((i + 1) * 3) = flat encBk (l.take i) ++ encBk b from List.take_left' (by rw [List.length_append, htl, encBk_length]; omega), hdl, show (flat encBk (l.take i) ++ encBk b ++ zs.drop 3).drop ((i + 1) * 3 + (n - i) * 3) = [] from List.drop_eq_nil_of_le (by simp only [List.length_append, htl, encBk_length, List.length_drop, hzl]; omega), List.append_nil, ← flat_one encBk b, ← flat_append, ← flat_append, List.append_assoc, List.singleton_append] at hown3
  have HO3 := Hid.mk (own_base hown3 hbase)
  have HG3 : Hid (w.grownBy w3 (Value.ownBlock (.slice a n c))) := by
    have h1 := HG1.out
    refine ⟨hg3.os.trans (hg2.os.trans h1.os), hg3.tape.trans (hg2.tape.trans h1.tape), hg3.output.trans (hg2.output.trans h1.output), Nat.le_trans h1.size (Nat.le_trans hg2.size hg3.size), fun k hk hne => ?_⟩
    have e1 : some k ≠ Value.ownBlock (.slice (some ⟨w.heap.size, 0, none⟩) (n + 1) G) := by simp [Value.ownBlock]; omega
    exact (hg3.block k (Nat.lt_of_lt_of_le hk (Nat.le_trans h1.size hg2.size)) e1).trans ((hg2.block k (Nat.lt_of_lt_of_le hk h1.size) e1).trans (h1.block k hk (by simp)))
  have b7 : ((i : Int) + 1) ≤ G := by omega
  have s1 : IntKind.i64.wrap ((i : Int) + 1) = (i : Int) + 1 := IntWalk.i64_in _ (by omega)
  have b8 : 0 ≤ (i : Int) + 1 := by omega
  have b9 : ((i : Int) + 1).toNat = i + 1 := by omega
  have b10 : (i : Int) + 1 ≤ (n : Int) + 1 := by omega
  clear hown hown2 hown2d hown3 hg1 hg2 hg3 hown1 hrow hv1 hbw2 HO1 HR HG1 hdrop hcut1 hcut2
  go_enter Tryz.func82, Tryz.ntmps82
  go_wp2_with (at_builtin; refine wpList_app_run rfl _ _ 33 3 rfl _ _ rfl rfl hrz ?_)
  go_still_tail 8, (by kernel_rfl)
  change wpList _ _ _ _ _ w2.drew
  generalize w2.drew = w2d at *
  go_wp2
  go_ret
  exact ⟨_, _, rfl, HO3.out, HG3.out⟩
end Go.Proofs.YtkcaheebaicinaaGreatDoor
