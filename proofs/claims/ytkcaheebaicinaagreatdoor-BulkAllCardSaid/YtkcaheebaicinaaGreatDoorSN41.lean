/- Pp11: texts of this claim, joined. -/
import Derived.Test.YtkcaheebaicinaaGreatDoorSN11
import Derived.Test.YtkcaheebaicinaaGreatDoorSN33
/- Contract of package pages: single, on the heap behind a pointer. -/
namespace Go.Proofs.YtkcaheebaicinaaGreatDoor
open Go.RowKit
set_option linter.unusedVariables false

/-- what an attempt to find pages answers -/
def Res (r : Option (Hp × Nat)) (G : Nat) (X : Nat → Prop) (h : Hp) (c : Hc) (w : World) (ev : Ending) (w' : World) : Prop :=
  (r = none ∧ ev = .returned (.tuple #[.int .i64 0, .bool false]) ∧ HS w' G X h c ∧ Safe X w w') ∨
  (∃ h' a c', r = some (h', a) ∧ ev = .returned (.tuple #[.int .i64 (a : Nat), .bool true]) ∧ HS w' G X h' c' ∧ Safe X w w')

set_option maxHeartbeats 8000000 in
set_option maxRecDepth 100000 in
theorem single_pg (G cpu z t flags : Nat) (X : Nat → Prop) (h : Hp) (c : Hc) (w : World) (hs : HS w G X h c) (hk : HOk h) (hc : cpu < h.cpus) (hz : z < 2) (ht : t < 3) (hf : flags ≤ 15) (ho : Oth w) (hx0 : X 1) :
    Calls Tryz.prog 112 #[.pointer (some ⟨G, 0, none⟩), .int .i64 cpu, .int .i64 z, .int .i64 t, .int .i64 flags] w (Res (h.single ⟨cpu, z, t, []⟩ (h.held z (decide (flags / 8 % 2 = 1)) (decide (flags % 2 = 1)))) G X h c w) := by
  obtain ⟨K4, F4, hsz, hbw⟩ := boxes1 w #[.int .i64 (cpu : Int), .int .i64 (z : Int), .int .i64 (t : Int), .slice none 0 0] 157
  have HS0 := Hid.mk (hs.new hbw)
  have HSF0 := Hid.mk (Safe.ofBelow (X := X) hbw)
  have HO0 := Hid.mk (ho.below hbw)
  have HK := Hid.mk hk
  have hG0 : G < (w.alloc (.cells #[.int .i64 (cpu : Int), .int .i64 (z : Int), .int .i64 (t : Int), .slice none 0 0] 157)).heap.size := HS0.out.r.gs
  obtain ⟨k0, k1, k2, k3, k4⟩ := HS0.out.words
  have b0 := K4 0
  have b1 := K4 1
  have b2 := K4 2
  have b3 := K4 3
  simp only [List.getElem?_toArray, List.getElem?_cons_zero, List.getElem?_cons_succ] at b0 b1 b2 b3
  have hGw := hs.r.gs
  have HXW := Hid.mk hs.r.xs
  have hn24 := hk.ls_len
  have HLN := Hid.mk (lc_len hs.r)
  have hc24 : c.lc.length ≤ 24 := by rw [HLN.out]; exact hn24
  clear hs hk hbw ho
  go_enter Tryz.func112, Tryz.ntmps112
  go_wp2_with fail
  generalize w.alloc (.cells #[.int .i64 (cpu : Int), .int .i64 (z : Int), .int .i64 (t : Int), .slice none 0 0] 157) = w1 at *
  refine wp_region_ext_lit (by kernel_rfl) (by kernel_rfl) ?_
  repeat (go_big_quiet_step ((go_at_call 121; exact Calls.ext_of (list_pg _ _ _ _ _ _ _ _ _ _ _ _ _ h ⟨cpu, z, t, []⟩ none 0 0 _ (HS0.out.r.at.below (ext_below w1 _)) HK.out ⟨hz, ht⟩ (by omega)))))
  refine wpQuiet_nil ?_
  rintro _ ⟨wx, rfl⟩
  have HS1 := Hid.mk (HS0.out.below (ext_below w1 wx))
  have HSF1 := Hid.mk (HSF0.out.then (ext_below w1 wx))
  have HO1 := Hid.mk (HO0.out.below (ext_below w1 wx))
  have K4' := Hid.mk (box_step K4 hsz (ext_below w1 wx))
  have F4' := Hid.mk (frz_step F4 hsz (ext_below w1 wx))
  have hsz1 : w.heap.size < (ext w1 wx).heap.size := Nat.lt_of_lt_of_le hsz (ext_below w1 wx).size
  have hszle : w1.heap.size ≤ (ext w1 wx).heap.size := (ext_below w1 wx).size
  clear k0 k1 k2 k3 k4 b0 b1 b2 b3 K4 F4 HS0 HSF0 HO0
  generalize ext w1 wx = w2 at *
  obtain ⟨D, hD⟩ : ∃ D, h.held z (decide (flags / 8 % 2 = 1)) (decide (flags % 2 = 1)) = D := ⟨_, rfl⟩
  have HD := Hid.mk hD
  rw [hD]
  clear hD
  cases hh : hasL h.ls (Ls.key ⟨cpu, z, t, []⟩) with
  | true =>
    obtain ⟨I, hI, hi0, HSI⟩ : ∃ I, lbL h.ls (Ls.key ⟨cpu, z, t, []⟩) = I ∧ ∃ hi : I < h.ls.length, Hid (h.single ⟨cpu, z, t, []⟩ D = some ({ h with ls := if h.ls[I].p.length = 1 then h.ls.eraseIdx I else h.ls.set I { h.ls[I] with p := h.ls[I].p.dropLast } }, h.ls[I].p.getLastD 0)) := by
      obtain ⟨hi0, hkey⟩ := hasL_true hh
      exact ⟨_, rfl, hi0, single_there hh hi0⟩
    rw [hI]
    clear hI hh
    have h6 : I < c.lc.length := by rw [HLN.out]; exact hi0
    have h7 := Hid.mk (lc_get HS1.out.r h6 hi0)
    obtain ⟨gl, hgl, hgls, hglG, hglX, hglf⟩ := HS1.out.r.lblock (by omega)
    have hown := HS1.out.r.pgs _ (List.getElem_mem h6)
    have hlen := pg_len hown
    have hok := HK.out.lr _ (List.getElem_mem hi0)
    have hpos := hok.2.2.2.1
    have h8 := hok.2.2.2.2.1
    rw [h7.out] at hlen
    obtain ⟨K, hKn⟩ : ∃ K, c.lc[I].n = K + 1 := ⟨c.lc[I].n - 1, by omega⟩
    have HKN := Hid.mk hKn
    obtain ⟨k0, k1, k2, k3, k4⟩ := HS1.out.words
    rw [hgl] at k3
    obtain ⟨x0, x1, x2, x3⟩ := HS1.out.r.lcells hgl h6
    rw [hKn] at x3
    have hKp : K < h.ls[I].p.length := by omega
    obtain ⟨pb, poff, hpa, hpb, hpc⟩ := row_elem encT_length (by decide) (own_row hown) (j := K) (by show K < (c.lc[I]).l.p.length; rw [h7.out]; exact hKp)
    have hp0 := encT_cells hpc
    rw [Nat.mul_one] at hp0
    have HPA := Hid.mk hpa
    rw [hpa] at x3
    have hcap := own_cap hown
    rw [hKn] at hcap
    have HOWN := Hid.mk hown
    obtain ⟨P, hP⟩ : ∃ P, (c.lc[I]).l.p[K]'(by rw [h7.out]; exact hKp) = P := ⟨_, rfl⟩
    have HP : Hid (h.ls[I].p[K]? = some P) := by
      unfold Hid
      rw [← hP]
      simp only [← h7.out]
      exact List.getElem?_eq_getElem _
    simp only [hP] at hp0
    have hfz := hglf (I * 4 + 3) (by omega)
    have HGL := Hid.mk hgl
    have hKi : (K : Int) < (K : Int) + 1 := by omega
    have hI2 : (I : Int) < c.lc.length := by omega
    have hcap2 : (K : Int) ≤ (c.lc[I].c : Int) := by omega
    have hGs2 : G < w2.heap.size := HS1.out.r.gs
    obtain ⟨CC, hCC⟩ : ∃ CC, c.lc[I].c = CC := ⟨_, rfl⟩
    rw [hCC] at x3 hcap hcap2
    have HCC := Hid.mk hCC
    clear hpc hpa hown hok hKn hP hgl hglf k0 k1 k2 k4 x0 x1 x2 hlen hCC
    go_wp2_with fail
    go_still_tail 17, (by kernel_rfl)
    change wpList _ _ _ _ _ w2.drew
    have HS3 := Hid.mk (HS1.out.below ((Below.refl w2.heap.size w2).drew))
    have HSF3 := Hid.mk (HSF1.out.then ((Below.refl w2.heap.size w2).drew))
    have HOWN3 := own_below HOWN.out ((Below.refl w2.heap.size w2).drew) (Nat.le_refl _)
    have hdw : w2.drew.heap.size = w2.heap.size := rfl
    have hgs3 : gl < w2.drew.heap.size := hgls
    have hGs3 : G < w2.drew.heap.size := hGs2
    clear hfz x3 k3 hp0
    generalize w2.drew = w3 at *
    have x3 := (HS3.out.r.lcells HGL.out h6).2.2.2
    obtain ⟨_, hgl', _, _, _, hf3⟩ := HS3.out.r.lblock (by omega)
    have hfz : w3.frozen? ⟨gl, I * 4 + 3, none⟩ = false := by
      rw [HGL.out] at hgl'
      obtain rfl : gl = _ := by simpa using hgl'
      exact hf3 _ (by omega)
    clear hgl' hf3
    have ho4 : (pgR ⟨{ h.ls[I] with p := h.ls[I].p.dropLast }, some ⟨pb, poff, none⟩, K, CC⟩).on w3 0 := by
      have h1 := own_prefix HOWN3 (i := K) (by show K ≤ c.lc[I].n; rw [HKN.out]; omega)
      have h2 := flat_take encT_length c.lc[I].l.p K
      unfold Rs.on pgR
      simp only
      have h3 : (pgR c.lc[I]).xs.take (K * 1) = flat encT h.ls[I].p.dropLast := by
        show (flat encT c.lc[I].l.p).take (K * 1) = _
        rw [h2, h7.out, List.dropLast_eq_take]
        congr 2
        have := pg_len HOWN3
        rw [h7.out, HKN.out] at this
        omega
      have h4 := h1
      rw [show (pgR c.lc[I]).k = 1 from rfl, h3, HPA.out, HCC.out] at h4
      exact h4
    obtain ⟨hs4, sf4⟩ := HS3.out.page h6 (World.grownBy.refl w3 _) ho4 (by rw [h7.out]; exact ⟨rfl, rfl, rfl⟩) (fun k hk => .inl (by simpa [pgR, Value.ownBlock, HPA.out] using hk)) HGL.out
    have HS4 : Hid (HS (w3.setCell ⟨gl, I * 4 + 3, none⟩ (.slice (some ⟨pb, poff, none⟩) K CC)) G (fun k => X k ∨ (w.heap.size ≤ k ∧ k < w1.heap.size)) { h with ls := h.ls.set I { h.ls[I] with p := h.ls[I].p.dropLast } } { c with lc := c.lc.set I ⟨{ h.ls[I] with p := h.ls[I].p.dropLast }, some ⟨pb, poff, none⟩, K, CC⟩ }) := hs4
    have HSF4 : Hid (Safe X w (w3.setCell ⟨gl, I * 4 + 3, none⟩ (.slice (some ⟨pb, poff, none⟩) K CC))) := HSF3.out.trans (sf4.sub fun k _ hk => .inl hk)
    have hlen1 : Hid (h.ls[I].p.length = K + 1) := by
      have hl := pg_len HOWN3
      rw [h7.out, HKN.out] at hl
      exact hl
    have HLG : Hid (h.ls[I].p.getLastD 0 = P) := by
      unfold Hid
      rw [List.getLastD_eq_getLast?, List.getLast?_eq_getElem?, hlen1.out, Nat.add_sub_cancel, HP.out]
      rfl
    clear hs4 sf4 ho4 HOWN3 HOWN hKp hpos h8
    by_cases hK0 : K = 0
    · subst hK0
      obtain ⟨_, _, _, q3, _⟩ := HS4.out.words
      simp only [List.length_set] at q3
      rw [HGL.out] at q3
      have HHS : Hid ((h.ls.set I { h.ls[I] with p := h.ls[I].p.dropLast }).eraseIdx I = h.ls.eraseIdx I) := List.eraseIdx_set_eq
      go_wp2_with fail
      generalize hW4 : w3.setCell ⟨gl, I * 4 + 3, none⟩ (.slice (some ⟨pb, poff, none⟩) 0 CC) = w4 at *
      clear hW4
      obtain ⟨c4, hc4⟩ : ∃ c4 : Hc, ({ c with lc := c.lc.set I ⟨{ h.ls[I] with p := h.ls[I].p.dropLast }, some ⟨pb, poff, none⟩, 0, CC⟩ } : Hc) = c4 := ⟨_, rfl⟩
      have hal4 : c4.al = some ⟨gl, 0, none⟩ := by rw [← hc4]; exact HGL.out
      have hcl4 : c4.cl = c.cl := by rw [← hc4]
      have hln4 : c4.lc.length = c.lc.length := by rw [← hc4]; simp
      rw [hc4] at HS4
      have HAL := Hid.mk hal4
      have HLN4 := Hid.mk hln4
      have hown4 := HS4.out.r.lsr
      unfold lsR at hown4
      unfold Rs.on at hown4
      simp only [hal4, hcl4, hln4] at hown4
      have HOWN4 := Hid.mk hown4
      have HCL := Hid.mk hcl4
      clear hown4 hc4 hal4 hcl4 hln4
      refine (delete_lc 0 (some ⟨gl, 0, none⟩) c.lc.length c.cl c4.lc I w4 HOWN4.out h6 (by omega) (Nat.zero_le _)).mono ?_
      rintro ev w5 ⟨rfl, ho5, hg5⟩
      have hle : (c4.lc.eraseIdx I).length = c.lc.length - 1 := by rw [List.length_eraseIdx_of_lt (by rw [HLN4.out]; exact h6), HLN4.out]
      have hlb : (lsR c4).v.ownBlock = some gl := by unfold lsR; rw [HAL.out]; rfl
      have hG4 : G < w4.heap.size := HS4.out.r.gs
      have hneG : (Value.slice (some ⟨gl, 0, none⟩) c.lc.length c.cl).ownBlock ≠ some G := fun e => (HS4.out.r.og _ (rows_ls c4 _) G (by rw [hlb]; simpa [Value.ownBlock] using e)).1 rfl
      have q5 := (box_grown HS4.out.k hG4 hg5 (fun e => hneG e.symm) 3).trans (show _ = some (.slice c4.al c4.lc.length c4.cl) from rfl)
      have f5 := frz_grown HS4.out.fz hG4 hg5 (fun e => hneG e.symm) 3
      have hG5 : G < w5.heap.size := Nat.lt_of_lt_of_le hG4 hg5.size
      have hpo : OwnL w4 0 ((c4.lc.eraseIdx I).map pgR) := HS4.out.r.own.sub (by
        unfold Hc.rows
        refine (((List.sublist_cons_self _ _).trans (List.sublist_cons_self _ _)).trans (List.sublist_cons_self _ _)) |> fun h => List.Sublist.trans ?_ h
        exact (List.eraseIdx_sublist _ _).map pgR)
      obtain ⟨hs6, sf6⟩ := HS4.out.lists (W' := w5) (by rw [hlb]; simpa [Value.ownBlock] using hg5) (al' := some ⟨gl, 0, none⟩) (cl' := c.cl) (lc' := c4.lc.eraseIdx I) (by rw [hle]; exact ho5) (fun k hk => .inl (by rw [hlb]; simpa [Value.ownBlock] using hk)) hpo (fun r hr g hg => .inl ⟨r, ((List.eraseIdx_sublist _ _).map pgR).subset hr, hg⟩)
      rw [hle] at hs6 sf6
      have hls6 : (c4.lc.eraseIdx I).map Lc.l = h.ls.eraseIdx I := by
        rw [List.eraseIdx_eq_take_drop_succ, List.map_append, List.map_take, List.map_drop, ← List.eraseIdx_eq_take_drop_succ, HS4.out.r.ll]
        exact HHS.out
      rw [hls6] at hs6
      have HS6 := Hid.mk hs6
      have HSF6 := Hid.mk (HSF4.out.trans (sf6.sub fun k _ hk => .inl hk))
      clear hs6 sf6 hpo hls6 ho5 hg5 hlb hle hneG q3
      go_wp2
      go_ret2
      refine .inr ⟨_, P, _, ?_, rfl, HS6.out.sub fun k hk => .inl hk, HSF6.out⟩
      rw [HD.out, HSI.out, HLG.out, if_pos (by rw [hlen1.out])]
    · have d0 : ((K : Int) == 0) = false := by rw [beq_eq_false_iff_ne]; omega
      go_wp2
      go_ret2
      refine .inr ⟨_, P, _, ?_, rfl, HS4.out.sub fun k hk => .inl hk, HSF4.out⟩
      rw [HD.out, HSI.out, HLG.out, if_neg (by rw [hlen1.out]; omega)]
  | false =>
    have HSN := Hid.mk (single_new (hd := D) hh)
    have HMISS := Hid.mk (lbL_miss HK.out.lk (hasL_false hh))
    clear hh
    go_wp2_with fail
    refine (take_pg G z 0 t flags (fun k => X k ∨ (w.heap.size ≤ k ∧ k < w1.heap.size)) h c w2 HS1.out HK.out hz (by omega) ht hf HO1.out).mono ?_
    rintro ev w3 (⟨hno, rfl, hs3, sf3⟩ | ⟨h1, a1, y0, y1, hso, rfl, hs3, sf3⟩)
    · rw [HD.out] at hno
      have HNO := Hid.mk hno
      have HS3 := Hid.mk hs3
      have HSF3 := Hid.mk (HSF1.out.trans (sf3.sub fun k _ hk => .inl hk))
      clear hs3 sf3 hno
      go_wp2_with fail
      go_loopw [19] (fun s19 wr => s19 = .int .i64 1 ∧ wr = w3) (fun _ _ => 0)
      case atStart => exact ⟨rfl, rfl⟩
      case round =>
        obtain ⟨rfl, rfl⟩ := hrel
        go_wp2
        go_ret2
        exact .inl ⟨by rw [HD.out, HSN.out, HNO.out]; rfl, rfl, HS3.out.sub fun k hk => .inl hk, HSF3.out⟩
    · rw [HD.out] at hso
      have HSO := Hid.mk hso
      obtain ⟨hT, hls1, hz1⟩ := HK.out.takeZ (by omega) ht hz hso
      have HS3 := Hid.mk hs3
      have HSF3 := Hid.mk (HSF1.out.trans (sf3.sub fun k _ hk => .inl hk))
      have HO3 := Hid.mk (HO1.out.safe sf3 (Or.inl hx0))
      have hXB : (fun k => X k ∨ (w.heap.size ≤ k ∧ k < w1.heap.size)) w.heap.size := .inr ⟨Nat.le_refl _, hsz⟩
      have K5 := Hid.mk (sf3.box K4'.out hsz1 hXB)
      have hsz3 : w.heap.size < w3.heap.size := Nat.lt_of_lt_of_le hsz1 sf3.size
      have HT := Hid.mk hT
      have HM8 : Hid (∀ x ∈ h1.ls, x.key = (Ls.key ⟨cpu, z, t, []⟩) → x.p.length + 3 ≤ 8) := fun x hx hkey => absurd hkey (HMISS.out x (by rw [← hls1]; exact hx))
      have HXB := Hid.mk hXB
      clear hs3 sf3 hso hT hls1 hz1 HS1 HSF1 HO1 K4' F4' hXB
      go_wp2_with fail
      go_loopw [19] (fun s19 wr => ∃ (j : Nat) (hj : Hp) (cj : Hc), j ≤ 3 ∧ s19 = .int .i64 (1 + j : Int) ∧ Hid (HS wr G (fun k => X k ∨ (w.heap.size ≤ k ∧ k < w1.heap.size)) hj cj) ∧ Hid (Safe (fun k => X k ∨ (w.heap.size ≤ k ∧ k < w1.heap.size)) w3 wr) ∧ Hid (HOk hj) ∧ Hid (Same h hj) ∧ Hid (h1.fill ⟨cpu, z, t, []⟩ D 3 = hj.fill ⟨cpu, z, t, []⟩ D (3 - j)) ∧ Hid (∀ x ∈ hj.ls, x.key = (Ls.key ⟨cpu, z, t, []⟩) → x.p.length + (3 - j) ≤ 8)) (fun s19 _ => 4 - (intOf s19).toNat)
      case atStart => exact ⟨0, h1, _, Nat.zero_le _, rfl, HS3, Safe.refl _ _, HT.out.ok, HT.out.same, rfl, HM8⟩
      case round =>
        obtain ⟨j, hj, cj, hj3, rfl, HSj, SFj, HKj, HSMj, HFj, H8j⟩ := hrel
        clear HS3 HM8
        have K6 := Hid.mk (SFj.out.box K5.out hsz3 HXB.out)
        have hszj : w.heap.size < wr.heap.size := Nat.lt_of_lt_of_le hsz3 SFj.out.size
        by_cases hlt : j < 3
        · have hlt2 : (1 : Int) + j < 4 := by omega
          have HDj := Hid.mk ((held_same HK.out HKj.out HSMj.out z (decide (flags / 8 % 2 = 1)) (decide (flags % 2 = 1))).trans HD.out)
          have HOj := Hid.mk (HO3.out.safe SFj.out (Or.inl hx0))
          obtain ⟨m, hm⟩ : ∃ m, 3 - j = m + 1 := ⟨2 - j, by omega⟩
          have HMj := Hid.mk hm
          have hm3 : m + 1 ≤ 3 := by omega
          clear hm
          go_wp2_with fail
          refine (take_pg G z 0 t flags (fun k => X k ∨ (w.heap.size ≤ k ∧ k < w1.heap.size)) hj cj wr HSj.out HKj.out hz (by omega) ht hf HOj.out).mono ?_
          rintro ev w4 (⟨hno, rfl, hs4, sf4⟩ | ⟨h2, a2, y0', y1', hso, rfl, hs4, sf4⟩)
          · rw [HDj.out] at hno
            have HFF : Hid (h1.fill ⟨cpu, z, t, []⟩ D 3 = hj) := by
              unfold Hid
              rw [HFj.out, HMj.out]
              unfold Hp.fill
              simp only [hno]
            have HS4 := Hid.mk hs4
            have HSF4 := Hid.mk (HSF3.out.trans ((SFj.out.trans sf4).sub fun k _ hk => .inl hk))
            clear hs4 sf4 hno
            go_wp2
            go_ret2
            exact .inr ⟨_, a1, _, by rw [HD.out, HSN.out, HSO.out]; simp only [Option.map_some]; rw [HFF.out], rfl, HS4.out.sub fun k hk => .inl hk, HSF4.out⟩
          · rw [HDj.out] at hso
            have hcpu : cpu < hj.cpus := by rw [HSMj.out.cpus]; exact hc
            obtain ⟨g1, g2, g3, g4⟩ := HKj.out.fill_step (l := ⟨cpu, z, t, []⟩) (n := m) ⟨hcpu, hz, ht⟩ (by rw [← HMj.out]; exact H8j.out) (by omega) hso
            have HFF : Hid (h1.fill ⟨cpu, z, t, []⟩ D 3 = Hp.fill { h2 with ls := pushL h2.ls ⟨cpu, z, t, []⟩ a2 } ⟨cpu, z, t, []⟩ D m) := by
              unfold Hid
              rw [HFj.out, HMj.out, Hp.fill]
              simp only [hso]
            have HS4 := Hid.mk hs4
            have SF4 := Hid.mk (SFj.out.trans sf4)
            have K7 := Hid.mk (sf4.box K6.out hszj HXB.out)
            have G1 := Hid.mk g1
            have G2 := Hid.mk g2
            have G3 := Hid.mk g3
            have G4 := Hid.mk (HSMj.out.trans g4)
            have b0 := K7.out 0
            have b1 := K7.out 1
            have b2 := K7.out 2
            have b3 := K7.out 3
            simp only [List.getElem?_toArray, List.getElem?_cons_zero, List.getElem?_cons_succ] at b0 b1 b2 b3
            have hmj : m = 3 - (j + 1) := by have := HMj.out; omega
            clear hs4 sf4 hso g1 g2 g3 g4 HSj SFj HFj H8j K6 K7
            go_wp2_with fail
            refine (push_pg G a2 ⟨cpu, z, t, []⟩ none 0 0 (fun k => X k ∨ (w.heap.size ≤ k ∧ k < w1.heap.size)) h2 _ w4 HS4.out G1.out ⟨hz, ht⟩).mono ?_
            rintro ev w5 ⟨rfl, ⟨al', cl', lc', hs5⟩, sf5⟩
            have HS5 := Hid.mk hs5
            have SF5 := Hid.mk (SF4.out.trans sf5)
            clear hs5 sf5 b0 b1 b2 b3
            subst hmj
            go_wp2
            go_roundw
            case rel => exact ⟨j + 1, _, _, by omega, by go_num, HS5, SF5, G2, G4, HFF, G3⟩
            case measure => simp [intOf]; omega
        · obtain rfl : j = 3 := by omega
          have HFF : Hid (h1.fill ⟨cpu, z, t, []⟩ D 3 = hj) := HFj.out
          have HSF4 := Hid.mk (HSF3.out.trans (SFj.out.sub fun k _ hk => .inl hk))
          go_wp2
          go_ret2
          exact .inr ⟨_, a1, _, by rw [HD.out, HSN.out, HSO.out]; simp only [Option.map_some]; rw [HFF.out], rfl, HSj.out.sub fun k hk => .inl hk, HSF4.out⟩
end Go.Proofs.YtkcaheebaicinaaGreatDoor
