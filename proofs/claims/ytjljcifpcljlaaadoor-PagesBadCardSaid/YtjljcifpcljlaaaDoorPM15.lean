/- Su, Su2, Fr, PgStart, Pt, Pp18, LaidD, Frame, ArgRawsD: texts of this claim, joined. -/
import Derived.Test.YtjljcifpcljlaaaDoorPM1
import Derived.Test.YtjljcifpcljlaaaDoorPM13
import Derived.Test.YtjljcifpcljlaaaDoorPM14
import Derived.Test.YtjljcifpcljlaaaDoorPM2
import Derived.Test.YtjljcifpcljlaaaDoorPM6
import Derived.Test.YtjljcifpcljlaaaDoorPM8
import Derived.Test.YtjljcifpcljlaaaDoorPM9
import Derived.Test.YtjljcifpcljlaaaDoorRows
import Derived.WalkKit
import Derived.ProofKit
import Derived.OpenShut
import Derived.Deep.DeepHandedRow
import Derived.Lib.LaidTab
import Derived.Below
import Derived.ChangeSame
import Derived.Carry
/- Contract of Setup. -/
namespace Go.Proofs.YtjljcifpcljlaaaDoor
open Go.RowKit
set_option linter.unusedVariables false

def suB (a b c : Int) : Bt := ⟨[⟨pk a 20, 40 + pk b 60⟩, ⟨130 + pk c 10, 16 + pk a 90⟩], [⟨pk a 20 + pk c 30, 1 + pk a 7⟩, ⟨150 + pk b 9, 1 + pk c 5⟩]⟩
theorem pk_in (n : Int) {m : Int} (h : 1 ≤ m) : 0 ≤ pk n m ∧ pk n m < m := ⟨pk_nonneg n m h, pk_lt n m h⟩
theorem suB_ok (a b c : Int) : listOk (suB a b c).m = true ∧ listOk (suB a b c).r = true := by
  have h1 := pk_in a (m := 20) (by decide)
  have h2 := pk_in b (m := 60) (by decide)
  have h3 := pk_in c (m := 10) (by decide)
  have h4 := pk_in a (m := 90) (by decide)
  have h5 := pk_in c (m := 30) (by decide)
  have h6 := pk_in a (m := 7) (by decide)
  have h7 := pk_in b (m := 9) (by decide)
  have h8 := pk_in c (m := 5) (by decide)
  have e1 : rgFrom none (suB a b c).m = true := by
    simp [suB, rgFrom, rgPair, ckRg]
    omega
  have e2 : rgFrom none (suB a b c).r = true := by
    simp [suB, rgFrom, rgPair, ckRg]
    omega
  exact ⟨by unfold listOk; rw [e1]; rfl, by unfold listOk; rw [e2]; rfl⟩

set_option maxHeartbeats 4000000 in
set_option maxRecDepth 100000 in
theorem setup_ok (a b c : Int) (w : World) (ha : -9223372036854775808 ≤ a ∧ a ≤ 9223372036854775807) (hb : -9223372036854775808 ≤ b ∧ b ≤ 9223372036854775807) (hc : -9223372036854775808 ≤ c ∧ c ≤ 9223372036854775807) :
    Calls Tryd.prog 10 #[.int .i64 a, .int .i64 b, .int .i64 c] w fun ev w' => ∃ a1 c1 a2 c2, ev = .returned (.agg #[.slice a1 2 c1, .slice a2 2 c2, .int .i64 (16 * pk a 9), .int .i64 (pk b 12), .int .i64 (1 + pk c 4)]) ∧ BtAt w' a1 a2 2 2 (suB a b c) ∧ Below w.heap.size w w' := by
  have h1 := pk_in a (m := 20) (by decide)
  have h2 := pk_in b (m := 60) (by decide)
  have h3 := pk_in c (m := 10) (by decide)
  have h4 := pk_in a (m := 90) (by decide)
  have h5 := pk_in c (m := 30) (by decide)
  have h6 := pk_in a (m := 7) (by decide)
  have h7 := pk_in b (m := 9) (by decide)
  have h8 := pk_in c (m := 5) (by decide)
  have h9 := pk_in a (m := 9) (by decide)
  have h10 := pk_in b (m := 12) (by decide)
  have h11 := pk_in c (m := 4) (by decide)
  go_enter Tryd.func10, Tryd.ntmps10
  go_wp2_with (go_at_call 17; refine (picked_any _ _ _ (by omega) (by omega) (by decide) (by decide)).mono ?_; rintro e w' ⟨rfl, rfl⟩)
  have b1 := below_alloc w (.cells #[.slice (some ⟨w.heap.size + 1 + 1, 0, none⟩) 2 2, .slice (some ⟨w.heap.size + 1 + 1 + 1, 0, none⟩) 2 2, .int .i64 (16 * pk a 9), .int .i64 (pk b 12), .int .i64 (1 + pk c 4)] 27)
  have k1 := box_new w #[.slice (some ⟨w.heap.size + 1 + 1, 0, none⟩) 2 2, .slice (some ⟨w.heap.size + 1 + 1 + 1, 0, none⟩) 2 2, .int .i64 (16 * pk a 9), .int .i64 (pk b 12), .int .i64 (1 + pk c 4)] 27
  have z1 : (w.alloc (.cells #[.slice (some ⟨w.heap.size + 1 + 1, 0, none⟩) 2 2, .slice (some ⟨w.heap.size + 1 + 1 + 1, 0, none⟩) 2 2, .int .i64 (16 * pk a 9), .int .i64 (pk b 12), .int .i64 (1 + pk c 4)] 27)).heap.size = w.heap.size + 1 := by simp
  generalize w.alloc (.cells #[.slice (some ⟨w.heap.size + 1 + 1, 0, none⟩) 2 2, .slice (some ⟨w.heap.size + 1 + 1 + 1, 0, none⟩) 2 2, .int .i64 (16 * pk a 9), .int .i64 (pk b 12), .int .i64 (1 + pk c 4)] 27) = w1 at *
  have b2 := below_alloc w1 (.cells #[.slice (some ⟨w.heap.size + 1 + 1, 0, none⟩) 2 2, .slice (some ⟨w.heap.size + 1 + 1 + 1, 0, none⟩) 2 2, .int .i64 (16 * pk a 9), .int .i64 (pk b 12), .int .i64 (1 + pk c 4)] 27)
  have z2 : (w1.alloc (.cells #[.slice (some ⟨w.heap.size + 1 + 1, 0, none⟩) 2 2, .slice (some ⟨w.heap.size + 1 + 1 + 1, 0, none⟩) 2 2, .int .i64 (16 * pk a 9), .int .i64 (pk b 12), .int .i64 (1 + pk c 4)] 27)).heap.size = w.heap.size + 1 + 1 := by simp [z1]
  generalize w1.alloc (.cells #[.slice (some ⟨w.heap.size + 1 + 1, 0, none⟩) 2 2, .slice (some ⟨w.heap.size + 1 + 1 + 1, 0, none⟩) 2 2, .int .i64 (16 * pk a 9), .int .i64 (pk b 12), .int .i64 (1 + pk c 4)] 27) = w2 at *
  have r3 := row_new w2 (flat encRg (suB a b c).m) 47
  have b3 := below_alloc w2 (.cells (flat encRg (suB a b c).m).toArray 47)
  have z3 : (w2.alloc (.cells (flat encRg (suB a b c).m).toArray 47)).heap.size = w.heap.size + 1 + 1 + 1 := by simp [z2]
  rw [show w2.alloc (.cells #[.int .i64 (pk a 20), .int .i64 (40 + pk b 60), .int .i64 (130 + pk c 10), .int .i64 (16 + pk a 90)] 47) = w2.alloc (.cells (flat encRg (suB a b c).m).toArray 47) from rfl]
  generalize w2.alloc (.cells (flat encRg (suB a b c).m).toArray 47) = w3 at *
  have r4 := row_new w3 (flat encRg (suB a b c).r) 47
  have b4 := below_alloc w3 (.cells (flat encRg (suB a b c).r).toArray 47)
  rw [show w3.alloc (.cells #[.int .i64 (pk a 20 + pk c 30), .int .i64 (1 + pk a 7), .int .i64 (150 + pk b 9), .int .i64 (1 + pk c 5)] 47) = w3.alloc (.cells (flat encRg (suB a b c).r).toArray 47) from rfl]
  generalize w3.alloc (.cells (flat encRg (suB a b c).r).toArray 47) = w4 at *
  rw [z2] at r3
  rw [z3] at r4
  have k4 := box_step (box_step (box_step k1 (by omega) b2) (by omega) b3) (by omega) b4
  refine bodyPost_ret (v := .agg #[.slice (some ⟨w.heap.size + 1 + 1, 0, none⟩) 2 2, .slice (some ⟨w.heap.size + 1 + 1 + 1, 0, none⟩) 2 2, .int .i64 (16 * pk a 9), .int .i64 (pk b 12), .int .i64 (1 + pk c 4)]) (by simp [results, Tryd.results10, go_sem, k4]) rfl ⟨_, _, _, _, rfl, ⟨rfl, rfl, r3.below b4, r4⟩, Below.step (Below.step (Below.step b1 b2) b3) b4⟩
end Go.Proofs.YtjljcifpcljlaaaDoor
/- What is free of a setup's regions: few regions. -/
namespace Go.Proofs.YtjljcifpcljlaaaDoor
set_option linter.unusedVariables false
theorem upd_one (f : Nat → Bool) (r : Rg) (hf : 0 ≤ r.f) (hs : 1 ≤ r.s) (p : Nat) : upd f r.f.toNat (r.f + r.s).toNat false p = (f p && !inOne r p) := by
  unfold upd inOne
  by_cases h : r.f ≤ (p : Int) ∧ (p : Int) < r.f + r.s
  · rw [if_pos (by omega), decide_eq_true h]
    simp
  · rw [if_neg (by omega), decide_eq_false h]
    simp
theorem free_few {m : List Rg} {r1 r2 : Rg} (hm : listOk m = true) (h1 : 0 ≤ r1.f ∧ 1 ≤ r1.s) (h2 : 0 ≤ r2.f ∧ 1 ≤ r2.s) : (freeOf ⟨m, [r1, r2]⟩).length ≤ m.length + 2 := by
  have e : ∀ p, p < 256 → freeF ⟨m, [r1, r2]⟩ p = upd (upd (inRg m) r1.f.toNat (r1.f + r1.s).toNat false) r2.f.toNat (r2.f + r2.s).toNat false p := fun p _ => by
    rw [upd_one _ r2 h2.1 h2.2, upd_one _ r1 h1.1 h1.2]
    unfold freeF inRg
    simp only [List.any_cons, List.any_nil, Bool.or_false, Bool.not_or, Bool.and_assoc]
  unfold freeOf
  rw [regionsOf_congr e]
  have l1 := regionsOf_upd_len (upd (inRg m) r1.f.toNat (r1.f + r1.s).toNat false) r2.f.toNat (r2.f + r2.s).toNat false (by omega)
  have l2 := regionsOf_upd_len (inRg m) r1.f.toNat (r1.f + r1.s).toNat false (by omega)
  have l3 := congrArg List.length (listOk_regions hm)
  omega
theorem suB_free (a b c : Int) : listOk (freeOf (suB a b c)) = true := by
  have hm := (suB_ok a b c).1
  have h1 := pk_in a (m := 20) (by decide)
  have h5 := pk_in c (m := 30) (by decide)
  have h6 := pk_in a (m := 7) (by decide)
  have h7 := pk_in b (m := 9) (by decide)
  have h8 := pk_in c (m := 5) (by decide)
  have h := free_few (m := (suB a b c).m) (r1 := ⟨pk a 20 + pk c 30, 1 + pk a 7⟩) (r2 := ⟨150 + pk b 9, 1 + pk c 5⟩) hm ⟨by simp only; omega, by simp only; omega⟩ ⟨by simp only; omega, by simp only; omega⟩
  refine regionsOf_ok _ (Nat.le_trans h ?_)
  show 2 + 2 ≤ 40
  omega
/-- the numbers of a setup -/
theorem su_nums (a b c : Int) : ∃ split least cpus : Nat, 16 * pk a 9 = (split : Int) ∧ pk b 12 = (least : Int) ∧ 1 + pk c 4 = (cpus : Int) ∧ split ≤ 256 ∧ split % 16 = 0 ∧ least ≤ 256 ∧ 1 ≤ cpus ∧ cpus ≤ 4 := by
  have h1 := pk_in a (m := 9) (by decide)
  have h2 := pk_in b (m := 12) (by decide)
  have h3 := pk_in c (m := 4) (by decide)
  exact ⟨(16 * pk a 9).toNat, (pk b 12).toNat, (1 + pk c 4).toNat, by omega, by omega, by omega, by omega, by omega, by omega, by omega, by omega⟩
end Go.Proofs.YtjljcifpcljlaaaDoor
/- Contract of free: the pages of zones, and of lists. -/
namespace Go.Proofs.YtjljcifpcljlaaaDoor
open Go.RowKit
set_option linter.unusedVariables false
theorem sumB_sz (l : List Bk) : sumB l = szB l := by
  induction l with
  | nil => rfl
  | cons b l ih => rw [sumB, szB, ih]
def lenS : List Ls → Nat
  | [] => 0
  | l :: r => l.p.length + lenS r
theorem lenS_take (l : List Ls) (i : Nat) (hi : i < l.length) : lenS (l.take (i + 1)) = lenS (l.take i) + l[i].p.length := by
  induction l generalizing i with
  | nil => simp at hi
  | cons b l ih =>
    cases i with
    | zero => simp [lenS]
    | succ i =>
      have hi' : i < l.length := by simpa using hi
      rw [List.take_succ_cons, List.take_succ_cons, lenS, lenS, ih i hi']
      simp only [List.getElem_cons_succ]
      omega
theorem lenS_le (l : List Ls) (h : ∀ x ∈ l, x.p.length ≤ 8) : lenS l ≤ l.length * 8 := by
  induction l with
  | nil => simp [lenS]
  | cons b l ih =>
    have h1 := ih (fun b hb => h b (by simp [hb]))
    have h2 := h b (by simp)
    simp only [lenS, List.length_cons]
    omega
theorem HAt.zc {W : World} {az am al av : Option Addr} {nl nv : Nat} {y0 y1 : Zc} {lc : List Lc} {h : Hp} (hh : HAt W az am al av nl nv y0 y1 lc h) {i : Nat} (hi : i < 2) :
    ∃ (b off : Nat) (y : Zc), az = some ⟨b, off, none⟩ ∧ b < W.heap.size ∧ (W.cell? ⟨b, off + i * 4, none⟩ = some (.int .i64 (h.zone i).f) ∧ W.cell? ⟨b, off + i * 4 + 1, none⟩ = some (.int .i64 (h.zone i).e) ∧ W.cell? ⟨b, off + i * 4 + 2, none⟩ = some (.slice y.a1 y.n1 y.c1) ∧ W.cell? ⟨b, off + i * 4 + 3, none⟩ = some (.slice y.a2 y.n2 y.c2)) ∧ ZAt W y.a1 y.a2 y.n1 y.n2 (h.zone i) := by
  obtain ⟨b, off, h1, h2, h3⟩ := row_elem encZc_length (by decide) hh.zr (j := i) (by simpa using hi)
  have h4 := encZc_cells h3
  rcases (show i = 0 ∨ i = 1 by omega) with rfl | rfl
  · simp only [List.getElem_cons_zero, hh.e0] at h4
    exact ⟨b, off, y0, h1, h2, h4, hh.t0⟩
  · simp only [List.getElem_cons_succ, List.getElem_cons_zero, hh.e1] at h4
    exact ⟨b, off, y1, h1, h2, h4, hh.t1⟩
def Hp.zsum (h : Hp) : Nat → Nat
  | 0 => 0
  | i + 1 => h.zsum i + szB (h.zone i).l

set_option maxHeartbeats 4000000 in
set_option maxRecDepth 100000 in
theorem free_pg (az am al av : Option Addr) (cz cm cl cv nl nv : Nat) (y0 y1 : Zc) (lc : List Lc) (h : Hp) (w : World) (hh : HAt w az am al av nl nv y0 y1 lc h) (hk : HOk h) :
    Calls Tryd.prog 12 #[.agg #[.slice az 2 cz, .slice am 2 cm, .int .i64 h.cpus, .slice al nl cl, .slice av nv cv]] w fun ev w' => ev = .returned (.tuple #[.int .i64 ((h.zsum 2 : Nat) : Int), .int .i64 ((lenS h.ls : Nat) : Int)]) ∧ Below w.heap.size w w' := by
  obtain ⟨K1, F1, hsz, hbw⟩ := boxes1 w #[.slice az 2 cz, .slice am 2 cm, .int .i64 (h.cpus : Int), .slice al nl cl, .slice av nv cv] 34
  have HH := Hid.mk (hh.below hbw)
  have HK := Hid.mk hk
  have HB1 := Hid.mk hbw
  have hl24 := hk.ls_len
  have hnl : h.ls.length = nl := by rw [← hh.ll, List.length_map, hh.nl]
  have k0 := K1 0
  have k3 := K1 3
  simp only [List.getElem?_toArray, List.getElem?_cons_zero, List.getElem?_cons_succ] at k0 k3
  clear hh hk hbw
  go_enter Tryd.func12, Tryd.ntmps12
  go_upto_region 1 with fail
  generalize w.alloc (.cells #[.slice az 2 cz, .slice am 2 cm, .int .i64 (h.cpus : Int), .slice al nl cl, .slice av nv cv] 34) = w1 at *
  go_wp2_with fail
  go_loopw [4, 15] (fun s4 s15 wr => ∃ i : Nat, i ≤ 2 ∧ s15 = .int .i64 (i : Int) ∧ s4 = .int .i64 ((h.zsum i : Nat) : Int) ∧ Hid (h.zsum i ≤ 256 * i) ∧ Hid (Below w1.heap.size w1 wr)) (fun _ s15 _ => 2 - (intOf s15).toNat)
  case atStart => exact ⟨0, Nat.zero_le _, rfl, rfl, Nat.zero_le _, Below.refl _ _⟩
  case round =>
    obtain ⟨i, hi, rfl, rfl, HZS, HBr⟩ := hrel
    by_cases hlt : i < 2
    · have hlt2 : (i : Int) < 2 := by omega
      have HHr := Hid.mk (HH.out.below HBr.out)
      obtain ⟨b, off, y, rfl, hb, ⟨c0, c1, c2, c3⟩, hzt⟩ := HHr.out.zc hlt
      have hzk := HK.out.zone i
      have hzl := (zone_len HK.out i).1
      have hsz2 := szB_le hzk
      have HSUC : Hid (h.zsum (i + 1) = h.zsum i + szB (h.zone i).l) := rfl
      have HZK := Hid.mk hzk
      have HZT := Hid.mk hzt
      have hl1 := hzt.l1
      clear hzt hzk
      obtain ⟨S0, hS0⟩ : ∃ S, h.zsum i = S := ⟨_, rfl⟩
      have hS256 : S0 ≤ 512 := by have := HZS.out; omega
      rw [hS0] at HSUC HZS ⊢
      clear hS0
      generalize h.zone i = z at *
      go_upto_region 5 with fail
      have hbz := below_alloc wr (.cells #[.int .i64 (z.f : Int), .int .i64 (z.e : Int), .slice y.a1 y.n1 y.c1, .slice y.a2 y.n2 y.c2] 55)
      have KZ := box_new wr #[.int .i64 (z.f : Int), .int .i64 (z.e : Int), .slice y.a1 y.n1 y.c1, .slice y.a2 y.n2 y.c2] 55
      have hsz5 : wr.heap.size < (wr.alloc (.cells #[.int .i64 (z.f : Int), .int .i64 (z.e : Int), .slice y.a1 y.n1 y.c1, .slice y.a2 y.n2 y.c2] 55)).heap.size := by simp
      have z2 := KZ 2
      simp only [List.getElem?_toArray, List.getElem?_cons_zero, List.getElem?_cons_succ] at z2
      have HZT5 := Hid.mk (HZT.out.below hbz)
      have HB5 := Hid.mk (Below.step HBr.out hbz)
      clear hbz KZ c0 c1 c2 c3 hb HHr HZT HBr
      generalize wr.alloc (.cells #[.int .i64 (z.f : Int), .int .i64 (z.e : Int), .slice y.a1 y.n1 y.c1, .slice y.a2 y.n2 y.c2] 55) = w5 at *
      obtain ⟨BZ, hBZ⟩ : ∃ BZ, wr.heap.size = BZ := ⟨_, rfl⟩
      rw [hBZ] at hsz5 z2 ⊢
      clear hBZ
      obtain ⟨n1, hn1⟩ : ∃ n1, y.n1 = n1 := ⟨_, rfl⟩
      obtain ⟨a1, ha1⟩ : ∃ a1, y.a1 = a1 := ⟨_, rfl⟩
      rw [hn1] at hl1
      have hn256 : n1 ≤ 256 := by omega
      have HN1 := Hid.mk hn1
      have HA1 := Hid.mk ha1
      rw [hn1, ha1] at z2
      clear hn1 ha1
      go_wp2_with fail
      go_loopw [4, 22] (fun s4 s22 wq => ∃ j : Nat, j ≤ n1 ∧ s22 = .int .i64 (j : Int) ∧ s4 = .int .i64 ((S0 + szB (z.l.take j) : Nat) : Int) ∧ Hid (Below w5.heap.size w5 wq)) (fun _ s22 _ => n1 - (intOf s22).toNat)
      case atStart => exact ⟨0, Nat.zero_le _, rfl, rfl, Below.refl _ _⟩
      case round =>
        obtain ⟨j, hj, rfl, rfl, hbq⟩ := hrel
        by_cases hjl : j < n1
        · have hj2 : j < z.l.length := by omega
          obtain ⟨bb, boff, hba, hbb, hbc⟩ := row_elem encBk_length (by decide) ((HA1.out ▸ HZT5.out.r1).below hbq.out) hj2
          obtain rfl := hba
          obtain ⟨v0, v1, v2⟩ := encBk_cells hbc
          have hfit := (HZK.out.2.fit _ (List.getElem_mem hj2)).1
          have hsum : szB (z.l.take (j + 1)) = szB (z.l.take j) + 2 ^ z.l[j].o := by have := sumB_take z.l j hj2; rw [sumB_sz, sumB_sz] at this; exact this
          have hle : szB (z.l.take j) ≤ 256 := by
            have h9 : szB z.l = szB (z.l.take j) + szB (z.l.drop j) := by rw [← szB_append, List.take_append_drop]
            omega
          have HSM := Hid.mk hsum
          clear hsum hbc
          generalize z.l[j] = x at *
          have hsh := shl_bk hfit.1
          have hpw := pow_bk hfit.1
          have hNew := Hid.mk (Below.step hbq.out (below_alloc wr (.cells #[.int .i64 (x.a : Int), .int .i64 (x.o : Int), .int .i64 (x.t : Int)] 40)))
          obtain ⟨S, hS⟩ : ∃ S, szB (z.l.take j) = S := ⟨_, rfl⟩
          rw [hS] at hle HSM ⊢
          clear hS
          have hjli : (j : Int) < n1 := by omega
          obtain ⟨T, hT⟩ : ∃ T, S0 + S = T := ⟨_, rfl⟩
          rw [hT]
          have hw : wrap64 ((T : Int) + wrap64 (2 ^ min x.o 64)) = ((T + 2 ^ x.o : Nat) : Int) := by
            rw [show min x.o 64 = x.o by have := hfit.1; omega, hsh]
            generalize 2 ^ x.o = q at *
            have := IntWalk.wrap64_in ((T : Int) + q) (by omega)
            rw [Int.natCast_add]
            exact this
          have HT := Hid.mk hT
          clear hT
          go_wp2
          go_roundw
          case rel => exact ⟨j + 1, by omega, by go_num, by rw [HSM.out, ← Nat.add_assoc, HT.out]; simp only [Value.int.injEq, true_and]; exact hw, hNew⟩
          case measure => simp [intOf]; omega
        · obtain rfl : j = n1 := by omega
          have he : z.l.take j = z.l := by rw [← hl1, List.take_length]
          rw [he]
          have HB6 := Hid.mk (Below.step HB5.out hbq.out)
          have HZS2 : Hid (h.zsum (i + 1) ≤ 256 * (i + 1)) := by unfold Hid; rw [HSUC.out]; have := HZS.out; omega
          rw [← HSUC.out]
          go_wp2
          go_roundw
          case rel => exact ⟨i + 1, by omega, by go_num, rfl, HZS2, HB6⟩
          case measure => simp [intOf]; omega
    · obtain rfl : i = 2 := by omega
      have hb1s := HBr.out.size
      have k3r := (HBr.out.cell (p := ⟨w.heap.size, 3, none⟩) hsz).trans k3
      have hszr : w.heap.size < wr.heap.size := by omega
      obtain ⟨S0, hS0⟩ : ∃ S, h.zsum 2 = S := ⟨_, rfl⟩
      rw [hS0]
      go_wp2_with fail
      go_loopw [9, 36] (fun s9 s36 wq => ∃ j : Nat, j ≤ nl ∧ s36 = .int .i64 (j : Int) ∧ s9 = .int .i64 ((lenS (h.ls.take j) : Nat) : Int) ∧ Hid (Below wr.heap.size wr wq)) (fun _ s36 _ => nl - (intOf s36).toNat)
      case atStart => exact ⟨0, Nat.zero_le _, rfl, rfl, Below.refl _ _⟩
      case round =>
        obtain ⟨j, hj, rfl, rfl, hbq⟩ := hrel
        by_cases hjl : j < nl
        · have hHq := HH.out.below (Below.step HBr.out hbq.out)
          have hj2 : j < lc.length := by rw [hHq.nl]; exact hjl
          have hj3 : j < h.ls.length := by omega
          obtain ⟨bb, boff, hba, hbb, hbc⟩ := row_elem encLc_length (by decide) hHq.lr hj2
          obtain rfl := hba
          obtain ⟨v0, v1, v2, v3⟩ := encLc_cells hbc
          have hel : lc[j].l = h.ls[j] := by
            have h1 := congrArg (·[j]?) hHq.ll
            simp [hj2, hj3] at h1
            exact h1
          have hpn := (hHq.pr _ (List.getElem_mem hj2)).1
          rw [hel] at hpn
          have HSM := Hid.mk (lenS_take h.ls j hj3)
          have hle := lenS_le (h.ls.take j) (fun x hx => (HK.out.lr x (List.mem_of_mem_take hx)).2.2.2.2.1)
          have h88 := (HK.out.lr _ (List.getElem_mem hj3)).2.2.2.2.1
          rw [List.length_take] at hle
          rw [hpn] at h88
          rw [hpn] at HSM
          clear hbc hHq hel hpn
          generalize lc[j] = r at *
          obtain ⟨S, hS⟩ : ∃ S, lenS (h.ls.take j) = S := ⟨_, rfl⟩
          rw [hS] at hle HSM ⊢
          have hS200 : S ≤ 200 := by omega
          clear hS
          have hjli : (j : Int) < nl := by omega
          have hNew := Hid.mk (Below.step hbq.out (below_alloc wr (.cells #[.int .i64 (r.l.c : Int), .int .i64 (r.l.z : Int), .int .i64 (r.l.t : Int), .slice r.a r.n r.c] 66)))
          go_wp2
          go_roundw
          case rel => exact ⟨j + 1, by omega, by go_num, by rw [HSM.out]; go_num, hNew⟩
          case measure => simp [intOf]; omega
        · obtain rfl : j = nl := by omega
          have he : h.ls.take j = h.ls := by rw [← hnl, List.take_length]
          rw [he]
          go_wp2
          go_ret2
          exact ⟨by rw [hS0]; rfl, Below.step HB1.out (Below.step HBr.out hbq.out)⟩
end Go.Proofs.YtjljcifpcljlaaaDoor
/- How the laws of pages begin: a setup, and what is paged. -/
namespace Go.Proofs.YtjljcifpcljlaaaDoor
open Go.RowKit
set_option linter.unusedVariables false
/-- the first heap of a setup -/
def suH (a b c : Int) : Hp := newH (freeOf (suB a b c)) (16 * pk a 9).toNat (pk b 12).toNat (1 + pk c 4).toNat
theorem suH_ok (a b c : Int) : HOk (suH a b c) ∧ ∀ p, cnt (suH a b c).all p = if inRg (freeOf (suB a b c)) p then 1 else 0 := by
  obtain ⟨split, least, cpus, e1, e2, e3, h1, h2, h3, h4⟩ := su_nums a b c
  unfold suH
  rw [show (16 * pk a 9).toNat = split by omega, show (pk b 12).toNat = least by omega, show (1 + pk c 4).toNat = cpus by omega]
  exact newH_ok (suB_free a b c) h1 h2 h3 h4
/-- paged of a setup -/
theorem paged_su (a : Option Addr) (n c : Nat) (l : List Rw) (m1 m2 : Option Addr) (d1 d2 : Nat) (x y z : Int) (most : Nat) (w : World) (hl : l.length = n) (hnc : n ≤ c) (hcm : c ≤ maxLen) (hr : Row w a (flat encRw l)) (hwf : ∀ r ∈ l, r.wf) (hmost : most ≤ 70)
    (hbt : BtAt w m1 m2 2 2 (suB x y z)) (hoth : Oth w) :
    Calls Tryd.prog 11 #[.slice a n c, .agg #[.slice m1 2 d1, .slice m2 2 d2, .int .i64 (16 * pk x 9), .int .i64 (pk y 12), .int .i64 (1 + pk z 4)], .int .i64 most] w fun ev w' => PDone w w' ev l (suH x y z) most := by
  obtain ⟨split, least, cpus, e1, e2, e3, h1, h2, h3, h4⟩ := su_nums x y z
  have h := paged_ok a n c l m1 m2 2 2 d1 d2 (suB x y z) split least cpus most w hl hnc hcm hr hwf hmost hbt (suB_ok x y z).1 (suB_ok x y z).2 (suB_free x y z) h1 h2 h3 h4 hoth
  unfold suH
  rw [show (16 * pk x 9).toNat = split by omega, show (pk y 12).toNat = least by omega, show (1 + pk z 4).toNat = cpus by omega, e1, e2, e3]
  exact h
end Go.Proofs.YtjljcifpcljlaaaDoor
/- No page is lost. No program in sight. -/
namespace Go.Proofs.YtjljcifpcljlaaaDoor
set_option linter.unusedVariables false
theorem szB_pgs (l : List Nat) : szB (pgs l) = l.length := by
  induction l with
  | nil => rfl
  | cons p l ih =>
    show szB (⟨p, 0, 0⟩ :: pgs l) = _
    rw [szB, ih]
    simp
    omega
theorem szB_ls (l : List Ls) : szB (lsB l) = lenS l := by
  induction l with
  | nil => rfl
  | cons x l ih => rw [lsB, szB_append, szB_pgs, ih, lenS]
theorem HOk.szB_all {h : Hp} (hk : HOk h) : szB h.all = sumTo (cnt h.all) 256 := by
  refine (sumTo_cnt fun b hb => ?_).symm
  unfold Hp.all at hb
  rcases List.mem_append.1 hb with hb | hb
  · have h2 := (hk.o0.2.fit b hb).1
    have h3 := fits_end hk.o0.1.e16 h2
    have h4 := hk.o0.1.e2
    unfold Bk.fin
    omega
  rcases List.mem_append.1 hb with hb | hb
  · have h2 := (hk.o1.2.fit b hb).1
    have h3 := fits_end hk.o1.1.e16 h2
    have h4 := hk.o1.1.e2
    unfold Bk.fin
    omega
  rcases List.mem_append.1 hb with hb | hb
  · have key : ∀ (ls : List Ls), (∀ l ∈ ls, ∀ p ∈ l.p, p < 256) → ∀ b ∈ lsB ls, b.fin ≤ 256 := by
      intro ls
      induction ls with
      | nil => intro _ b hb; simp [lsB] at hb
      | cons l ls ih =>
        intro hl b hb
        rw [lsB] at hb
        rcases List.mem_append.1 hb with hb | hb
        · obtain ⟨p, hp, rfl⟩ := List.mem_map.1 hb
          have := hl l (by simp) p hp
          show p + 2 ^ 0 ≤ 256
          omega
        · exact ih (fun x hx => hl x (by simp [hx])) b hb
    exact key h.ls (fun l hl p hp => ((hk.lr l hl).2.2.2.2.2 p hp).1) b hb
  · have h2 := (hk.lv b hb).1
    have h3 := fits_end (by decide) h2
    unfold Bk.fin
    omega
theorem szB_key : ∀ {l m : List Bk}, (l.map keyB).Perm (m.map keyB) → szB l = szB m := by
  have key : ∀ l : List Bk, szB l = ((l.map keyB).map fun k => 2 ^ k.2).sum := by
    intro l
    induction l with
    | nil => rfl
    | cons b l ih => rw [szB, ih]; simp [keyB]
  intro l m h
  rw [key, key]
  exact (h.map _).sum_nat
theorem PInv.total {h0 h : Hp} {away : List Bk} (hp : PInv h0 h away) (hk0 : HOk h0) (hl : h0.ls = []) (hv : h0.live = []) : h.zsum 2 + lenS h.ls + szB away = h0.zsum 2 := by
  have e1 := hp.ok.szB_all
  have e2 := hk0.szB_all
  have e3 : sumTo (cnt h.all) 256 = sumTo (cnt h0.all) 256 := sumTo_congr fun p _ => hp.cn p
  have e4 := szB_key hp.lv
  have f1 : ∀ g : Hp, szB g.all = szB g.z0.l + szB g.z1.l + lenS g.ls + szB g.live := fun g => by
    unfold Hp.all
    rw [szB_append, szB_append, szB_append, szB_ls]
    omega
  have f2 : ∀ g : Hp, g.zsum 2 = szB g.z0.l + szB g.z1.l := fun g => by simp [Hp.zsum, Hp.zone]
  have g1 := f1 h
  have g2 := f1 h0
  rw [hl, hv] at g2
  simp only [lenS, szB] at g2
  rw [f2, f2]
  omega
end Go.Proofs.YtjljcifpcljlaaaDoor
/- What package pages refuses (printed by tools/refuse.py). -/
namespace Go.Proofs.YtjljcifpcljlaaaDoor
open Go.RowKit
set_option linter.unusedVariables false

set_option maxHeartbeats 8000000 in
set_option maxRecDepth 100000 in
theorem alloc_cpu (az am al av : Option Addr) (cz cm cl cv nl nv : Nat) (y0 y1 : Zc) (lc : List Lc) (h : Hp) (x y : Int) (w : World) (hh : HAt w az am al av nl nv y0 y1 lc h) (hk : HOk h) (hnl : nl ≤ 1000) (hnv : nv ≤ 1000)  :
    Calls Tryd.prog 18 #[.agg #[.slice az 2 cz, .slice am 2 cm, .int .i64 h.cpus, .slice al nl cl, .slice av nv cv], .int .i64 h.cpus, .int .i64 x, .int .i64 y] w fun ev w' => ev = .returned (.tuple #[.agg #[.slice none 0 0, .slice none 0 0, .int .i64 0, .slice none 0 0, .slice none 0 0], .int .i64 0, .int .i64 1]) ∧ Below w.heap.size w w' := by
  obtain ⟨K1, K2, F1, F2, hsz, hbw⟩ := boxes2 w #[.slice az 2 cz, .slice am 2 cm, .int .i64 (h.cpus : Int), .slice al nl cl, .slice av nv cv] 34 #[.slice none 0 0, .slice none 0 0, .int .i64 0, .slice none 0 0, .slice none 0 0] 34
  have HH := Hid.mk (hh.below hbw)
  have HK := Hid.mk hk
  have HB1 := Hid.mk hbw
  have k10 := K1 0
  have k11 := K1 1
  have k12 := K1 2
  have k13 := K1 3
  have k14 := K1 4
  simp only [List.getElem?_toArray, List.getElem?_cons_zero, List.getElem?_cons_succ] at k10 k11 k12 k13 k14
  clear hh hk hbw
  go_enter Tryd.func18, Tryd.ntmps18
  go_wp2_with fail
  generalize (w.alloc (.cells #[.slice az 2 cz, .slice am 2 cm, .int .i64 (h.cpus : Int), .slice al nl cl, .slice av nv cv] 34)).alloc (.cells #[.slice none 0 0, .slice none 0 0, .int .i64 0, .slice none 0 0, .slice none 0 0] 34) = w1 at *
  refine (checkH_pg _ _ _ _ _ _ _ _ _ _ _ _ _ h w1 HH.out HK.out hnl hnv).mono ?_
  rintro ev w2 ⟨rfl, hb2⟩
  have K1a := box_step K1 (by omega) hb2
  have F1a := frz_step F1 (by omega) hb2
  have K2a := box_step K2 hsz hb2
  have F2a := frz_step F2 hsz hb2
  have HH2 := Hid.mk (HH.out.below hb2)
  have HB2 := Hid.mk (Below.trans HB1.out (hb2.mono HB1.out.size))
  have hsz2 : w.heap.size + 1 < w2.heap.size := Nat.lt_of_lt_of_le hsz hb2.size
  clear k10 k11 k12 k13 k14 hb2 K1 F1 K2 F2
  have k10 := K1a 0
  have k11 := K1a 1
  have k12 := K1a 2
  have k13 := K1a 3
  have k14 := K1a 4
  simp only [List.getElem?_toArray, List.getElem?_cons_zero, List.getElem?_cons_succ] at k10 k11 k12 k13 k14
  have d1 : decide ((h.cpus : Int) < 0) = false := decide_eq_false (by omega)
  have hle1 : w.heap.size ≤ w.heap.size + 1 := Nat.le_succ _
  have HBX := Hid.mk (Below.setCell (Below.setCell (Below.setCell (Below.setCell (Below.setCell HB2.out (show w.heap.size ≤ (⟨w.heap.size + 1, 0, none⟩ : Addr).block from hle1) (.slice none 0 0)) (show w.heap.size ≤ (⟨w.heap.size + 1, 1, none⟩ : Addr).block from hle1) (.slice none 0 0)) (show w.heap.size ≤ (⟨w.heap.size + 1, 2, none⟩ : Addr).block from hle1) (.int .i64 0)) (show w.heap.size ≤ (⟨w.heap.size + 1, 3, none⟩ : Addr).block from hle1) (.slice none 0 0)) (show w.heap.size ≤ (⟨w.heap.size + 1, 4, none⟩ : Addr).block from hle1) (.slice none 0 0))
  have KX := (box_set (box_set (box_set (box_set (box_set K2a 0 (.slice none 0 0)) 1 (.slice none 0 0)) 2 (.int .i64 0)) 3 (.slice none 0 0)) 4 (.slice none 0 0))
  have r10 := K2a 0
  have r11 := K2a 1
  have r12 := K2a 2
  have r13 := K2a 3
  have r14 := K2a 4
  have f10 := F2a 0
  have f11 := F2a 1
  have f12 := F2a 2
  have f13 := F2a 3
  have f14 := F2a 4
  simp only [List.getElem?_toArray, List.getElem?_cons_zero, List.getElem?_cons_succ] at r10 r11 r12 r13 r14
  go_wp2
  generalize (((((w2.setCell ⟨w.heap.size + 1, 0, none⟩ (.slice none 0 0)).setCell ⟨w.heap.size + 1, 1, none⟩ (.slice none 0 0)).setCell ⟨w.heap.size + 1, 2, none⟩ (.int .i64 0)).setCell ⟨w.heap.size + 1, 3, none⟩ (.slice none 0 0)).setCell ⟨w.heap.size + 1, 4, none⟩ (.slice none 0 0)) = wx at *
  change ∀ o, wx.cell? ⟨w.heap.size + 1, o, none⟩ = (#[.slice none 0 0, .slice none 0 0, .int .i64 0, .slice none 0 0, .slice none 0 0] : Array Value)[o]? at KX
  refine bodyPost_ret (v := .tuple #[.agg #[.slice none 0 0, .slice none 0 0, .int .i64 0, .slice none 0 0, .slice none 0 0], .int .i64 0, .int .i64 1]) (by simp [results, Tryd.results18, go_sem, KX]) rfl ⟨rfl, HBX.out⟩
set_option maxHeartbeats 8000000 in
set_option maxRecDepth 100000 in
theorem alloc_order (az am al av : Option Addr) (cz cm cl cv nl nv : Nat) (y0 y1 : Zc) (lc : List Lc) (h : Hp) (y : Int) (w : World) (hh : HAt w az am al av nl nv y0 y1 lc h) (hk : HOk h) (hnl : nl ≤ 1000) (hnv : nv ≤ 1000)  :
    Calls Tryd.prog 18 #[.agg #[.slice az 2 cz, .slice am 2 cm, .int .i64 h.cpus, .slice al nl cl, .slice av nv cv], .int .i64 0, .int .i64 5, .int .i64 y] w fun ev w' => ev = .returned (.tuple #[.agg #[.slice none 0 0, .slice none 0 0, .int .i64 0, .slice none 0 0, .slice none 0 0], .int .i64 0, .int .i64 1]) ∧ Below w.heap.size w w' := by
  obtain ⟨K1, K2, F1, F2, hsz, hbw⟩ := boxes2 w #[.slice az 2 cz, .slice am 2 cm, .int .i64 (h.cpus : Int), .slice al nl cl, .slice av nv cv] 34 #[.slice none 0 0, .slice none 0 0, .int .i64 0, .slice none 0 0, .slice none 0 0] 34
  have HH := Hid.mk (hh.below hbw)
  have HK := Hid.mk hk
  have HB1 := Hid.mk hbw
  have k10 := K1 0
  have k11 := K1 1
  have k12 := K1 2
  have k13 := K1 3
  have k14 := K1 4
  simp only [List.getElem?_toArray, List.getElem?_cons_zero, List.getElem?_cons_succ] at k10 k11 k12 k13 k14
  clear hh hk hbw
  go_enter Tryd.func18, Tryd.ntmps18
  go_wp2_with fail
  generalize (w.alloc (.cells #[.slice az 2 cz, .slice am 2 cm, .int .i64 (h.cpus : Int), .slice al nl cl, .slice av nv cv] 34)).alloc (.cells #[.slice none 0 0, .slice none 0 0, .int .i64 0, .slice none 0 0, .slice none 0 0] 34) = w1 at *
  refine (checkH_pg _ _ _ _ _ _ _ _ _ _ _ _ _ h w1 HH.out HK.out hnl hnv).mono ?_
  rintro ev w2 ⟨rfl, hb2⟩
  have K1a := box_step K1 (by omega) hb2
  have F1a := frz_step F1 (by omega) hb2
  have K2a := box_step K2 hsz hb2
  have F2a := frz_step F2 hsz hb2
  have HH2 := Hid.mk (HH.out.below hb2)
  have HB2 := Hid.mk (Below.trans HB1.out (hb2.mono HB1.out.size))
  have hsz2 : w.heap.size + 1 < w2.heap.size := Nat.lt_of_lt_of_le hsz hb2.size
  clear k10 k11 k12 k13 k14 hb2 K1 F1 K2 F2
  have k10 := K1a 0
  have k11 := K1a 1
  have k12 := K1a 2
  have k13 := K1a 3
  have k14 := K1a 4
  simp only [List.getElem?_toArray, List.getElem?_cons_zero, List.getElem?_cons_succ] at k10 k11 k12 k13 k14
  have hcp1 := HK.out.cp.1
  have d2 : decide (h.cpus ≤ 0) = false := decide_eq_false (by omega)
  have d3 : decide ((h.cpus : Int) ≤ 0) = false := decide_eq_false (by omega)
  have hle1 : w.heap.size ≤ w.heap.size + 1 := Nat.le_succ _
  have HBX := Hid.mk (Below.setCell (Below.setCell (Below.setCell (Below.setCell (Below.setCell HB2.out (show w.heap.size ≤ (⟨w.heap.size + 1, 0, none⟩ : Addr).block from hle1) (.slice none 0 0)) (show w.heap.size ≤ (⟨w.heap.size + 1, 1, none⟩ : Addr).block from hle1) (.slice none 0 0)) (show w.heap.size ≤ (⟨w.heap.size + 1, 2, none⟩ : Addr).block from hle1) (.int .i64 0)) (show w.heap.size ≤ (⟨w.heap.size + 1, 3, none⟩ : Addr).block from hle1) (.slice none 0 0)) (show w.heap.size ≤ (⟨w.heap.size + 1, 4, none⟩ : Addr).block from hle1) (.slice none 0 0))
  have KX := (box_set (box_set (box_set (box_set (box_set K2a 0 (.slice none 0 0)) 1 (.slice none 0 0)) 2 (.int .i64 0)) 3 (.slice none 0 0)) 4 (.slice none 0 0))
  have r10 := K2a 0
  have r11 := K2a 1
  have r12 := K2a 2
  have r13 := K2a 3
  have r14 := K2a 4
  have f10 := F2a 0
  have f11 := F2a 1
  have f12 := F2a 2
  have f13 := F2a 3
  have f14 := F2a 4
  simp only [List.getElem?_toArray, List.getElem?_cons_zero, List.getElem?_cons_succ] at r10 r11 r12 r13 r14
  go_wp2
  generalize (((((w2.setCell ⟨w.heap.size + 1, 0, none⟩ (.slice none 0 0)).setCell ⟨w.heap.size + 1, 1, none⟩ (.slice none 0 0)).setCell ⟨w.heap.size + 1, 2, none⟩ (.int .i64 0)).setCell ⟨w.heap.size + 1, 3, none⟩ (.slice none 0 0)).setCell ⟨w.heap.size + 1, 4, none⟩ (.slice none 0 0)) = wx at *
  change ∀ o, wx.cell? ⟨w.heap.size + 1, o, none⟩ = (#[.slice none 0 0, .slice none 0 0, .int .i64 0, .slice none 0 0, .slice none 0 0] : Array Value)[o]? at KX
  refine bodyPost_ret (v := .tuple #[.agg #[.slice none 0 0, .slice none 0 0, .int .i64 0, .slice none 0 0, .slice none 0 0], .int .i64 0, .int .i64 1]) (by simp [results, Tryd.results18, go_sem, KX]) rfl ⟨rfl, HBX.out⟩
set_option maxHeartbeats 8000000 in
set_option maxRecDepth 100000 in
theorem alloc_flags (az am al av : Option Addr) (cz cm cl cv nl nv : Nat) (y0 y1 : Zc) (lc : List Lc) (h : Hp) (fl : Int) (w : World) (hh : HAt w az am al av nl nv y0 y1 lc h) (hk : HOk h) (hnl : nl ≤ 1000) (hnv : nv ≤ 1000) (hfl : fl = 16 ∨ fl = -1 ∨ fl = 6 ∨ fl = 7 ∨ fl = 14) :
    Calls Tryd.prog 18 #[.agg #[.slice az 2 cz, .slice am 2 cm, .int .i64 h.cpus, .slice al nl cl, .slice av nv cv], .int .i64 0, .int .i64 0, .int .i64 fl] w fun ev w' => ev = .returned (.tuple #[.agg #[.slice none 0 0, .slice none 0 0, .int .i64 0, .slice none 0 0, .slice none 0 0], .int .i64 0, .int .i64 3]) ∧ Below w.heap.size w w' := by
  obtain ⟨K1, K2, F1, F2, hsz, hbw⟩ := boxes2 w #[.slice az 2 cz, .slice am 2 cm, .int .i64 (h.cpus : Int), .slice al nl cl, .slice av nv cv] 34 #[.slice none 0 0, .slice none 0 0, .int .i64 0, .slice none 0 0, .slice none 0 0] 34
  have HH := Hid.mk (hh.below hbw)
  have HK := Hid.mk hk
  have HB1 := Hid.mk hbw
  have k10 := K1 0
  have k11 := K1 1
  have k12 := K1 2
  have k13 := K1 3
  have k14 := K1 4
  simp only [List.getElem?_toArray, List.getElem?_cons_zero, List.getElem?_cons_succ] at k10 k11 k12 k13 k14
  clear hh hk hbw
  go_enter Tryd.func18, Tryd.ntmps18
  go_wp2_with fail
  generalize (w.alloc (.cells #[.slice az 2 cz, .slice am 2 cm, .int .i64 (h.cpus : Int), .slice al nl cl, .slice av nv cv] 34)).alloc (.cells #[.slice none 0 0, .slice none 0 0, .int .i64 0, .slice none 0 0, .slice none 0 0] 34) = w1 at *
  refine (checkH_pg _ _ _ _ _ _ _ _ _ _ _ _ _ h w1 HH.out HK.out hnl hnv).mono ?_
  rintro ev w2 ⟨rfl, hb2⟩
  have K1a := box_step K1 (by omega) hb2
  have F1a := frz_step F1 (by omega) hb2
  have K2a := box_step K2 hsz hb2
  have F2a := frz_step F2 hsz hb2
  have HH2 := Hid.mk (HH.out.below hb2)
  have HB2 := Hid.mk (Below.trans HB1.out (hb2.mono HB1.out.size))
  have hsz2 : w.heap.size + 1 < w2.heap.size := Nat.lt_of_lt_of_le hsz hb2.size
  clear k10 k11 k12 k13 k14 hb2 K1 F1 K2 F2
  have k10 := K1a 0
  have k11 := K1a 1
  have k12 := K1a 2
  have k13 := K1a 3
  have k14 := K1a 4
  simp only [List.getElem?_toArray, List.getElem?_cons_zero, List.getElem?_cons_succ] at k10 k11 k12 k13 k14
  have hcp1 := HK.out.cp.1
  have d2 : decide (h.cpus ≤ 0) = false := decide_eq_false (by omega)
  have d3 : decide ((h.cpus : Int) ≤ 0) = false := decide_eq_false (by omega)
  have HFL := Hid.mk hfl
  clear hfl
  go_wp2_with fail
  refine (typeOf_bad fl w2 HFL.out).mono ?_
  rintro ev _ ⟨rfl, rfl⟩
  have hle1 : w.heap.size ≤ w.heap.size + 1 := Nat.le_succ _
  have HBX := Hid.mk (Below.setCell (Below.setCell (Below.setCell (Below.setCell (Below.setCell HB2.out (show w.heap.size ≤ (⟨w.heap.size + 1, 0, none⟩ : Addr).block from hle1) (.slice none 0 0)) (show w.heap.size ≤ (⟨w.heap.size + 1, 1, none⟩ : Addr).block from hle1) (.slice none 0 0)) (show w.heap.size ≤ (⟨w.heap.size + 1, 2, none⟩ : Addr).block from hle1) (.int .i64 0)) (show w.heap.size ≤ (⟨w.heap.size + 1, 3, none⟩ : Addr).block from hle1) (.slice none 0 0)) (show w.heap.size ≤ (⟨w.heap.size + 1, 4, none⟩ : Addr).block from hle1) (.slice none 0 0))
  have KX := (box_set (box_set (box_set (box_set (box_set K2a 0 (.slice none 0 0)) 1 (.slice none 0 0)) 2 (.int .i64 0)) 3 (.slice none 0 0)) 4 (.slice none 0 0))
  have r10 := K2a 0
  have r11 := K2a 1
  have r12 := K2a 2
  have r13 := K2a 3
  have r14 := K2a 4
  have f10 := F2a 0
  have f11 := F2a 1
  have f12 := F2a 2
  have f13 := F2a 3
  have f14 := F2a 4
  simp only [List.getElem?_toArray, List.getElem?_cons_zero, List.getElem?_cons_succ] at r10 r11 r12 r13 r14
  go_wp2
  generalize (((((w2.setCell ⟨w.heap.size + 1, 0, none⟩ (.slice none 0 0)).setCell ⟨w.heap.size + 1, 1, none⟩ (.slice none 0 0)).setCell ⟨w.heap.size + 1, 2, none⟩ (.int .i64 0)).setCell ⟨w.heap.size + 1, 3, none⟩ (.slice none 0 0)).setCell ⟨w.heap.size + 1, 4, none⟩ (.slice none 0 0)) = wx at *
  change ∀ o, wx.cell? ⟨w.heap.size + 1, o, none⟩ = (#[.slice none 0 0, .slice none 0 0, .int .i64 0, .slice none 0 0, .slice none 0 0] : Array Value)[o]? at KX
  refine bodyPost_ret (v := .tuple #[.agg #[.slice none 0 0, .slice none 0 0, .int .i64 0, .slice none 0 0, .slice none 0 0], .int .i64 0, .int .i64 3]) (by simp [results, Tryd.results18, go_sem, KX]) rfl ⟨rfl, HBX.out⟩
set_option maxHeartbeats 8000000 in
set_option maxRecDepth 100000 in
theorem free_cpu (az am al av : Option Addr) (cz cm cl cv nl nv : Nat) (y0 y1 : Zc) (lc : List Lc) (h : Hp) (x : Int) (w : World) (hh : HAt w az am al av nl nv y0 y1 lc h) (hk : HOk h) (hnl : nl ≤ 1000) (hnv : nv ≤ 1000)  :
    Calls Tryd.prog 26 #[.agg #[.slice az 2 cz, .slice am 2 cm, .int .i64 h.cpus, .slice al nl cl, .slice av nv cv], .int .i64 (-1), .int .i64 x] w fun ev w' => ev = .returned (.tuple #[.agg #[.slice none 0 0, .slice none 0 0, .int .i64 0, .slice none 0 0, .slice none 0 0], .int .i64 1]) ∧ Below w.heap.size w w' := by
  obtain ⟨K1, K2, F1, F2, hsz, hbw⟩ := boxes2 w #[.slice az 2 cz, .slice am 2 cm, .int .i64 (h.cpus : Int), .slice al nl cl, .slice av nv cv] 34 #[.slice none 0 0, .slice none 0 0, .int .i64 0, .slice none 0 0, .slice none 0 0] 34
  have HH := Hid.mk (hh.below hbw)
  have HK := Hid.mk hk
  have HB1 := Hid.mk hbw
  have k10 := K1 0
  have k11 := K1 1
  have k12 := K1 2
  have k13 := K1 3
  have k14 := K1 4
  simp only [List.getElem?_toArray, List.getElem?_cons_zero, List.getElem?_cons_succ] at k10 k11 k12 k13 k14
  clear hh hk hbw
  go_enter Tryd.func26, Tryd.ntmps26
  go_wp2_with fail
  generalize (w.alloc (.cells #[.slice az 2 cz, .slice am 2 cm, .int .i64 (h.cpus : Int), .slice al nl cl, .slice av nv cv] 34)).alloc (.cells #[.slice none 0 0, .slice none 0 0, .int .i64 0, .slice none 0 0, .slice none 0 0] 34) = w1 at *
  refine (checkH_pg _ _ _ _ _ _ _ _ _ _ _ _ _ h w1 HH.out HK.out hnl hnv).mono ?_
  rintro ev w2 ⟨rfl, hb2⟩
  have K1a := box_step K1 (by omega) hb2
  have F1a := frz_step F1 (by omega) hb2
  have K2a := box_step K2 hsz hb2
  have F2a := frz_step F2 hsz hb2
  have HH2 := Hid.mk (HH.out.below hb2)
  have HB2 := Hid.mk (Below.trans HB1.out (hb2.mono HB1.out.size))
  have hsz2 : w.heap.size + 1 < w2.heap.size := Nat.lt_of_lt_of_le hsz hb2.size
  clear k10 k11 k12 k13 k14 hb2 K1 F1 K2 F2
  have k10 := K1a 0
  have k11 := K1a 1
  have k12 := K1a 2
  have k13 := K1a 3
  have k14 := K1a 4
  simp only [List.getElem?_toArray, List.getElem?_cons_zero, List.getElem?_cons_succ] at k10 k11 k12 k13 k14
  have hle1 : w.heap.size ≤ w.heap.size + 1 := Nat.le_succ _
  have HBX := Hid.mk (Below.setCell (Below.setCell (Below.setCell (Below.setCell (Below.setCell HB2.out (show w.heap.size ≤ (⟨w.heap.size + 1, 0, none⟩ : Addr).block from hle1) (.slice none 0 0)) (show w.heap.size ≤ (⟨w.heap.size + 1, 1, none⟩ : Addr).block from hle1) (.slice none 0 0)) (show w.heap.size ≤ (⟨w.heap.size + 1, 2, none⟩ : Addr).block from hle1) (.int .i64 0)) (show w.heap.size ≤ (⟨w.heap.size + 1, 3, none⟩ : Addr).block from hle1) (.slice none 0 0)) (show w.heap.size ≤ (⟨w.heap.size + 1, 4, none⟩ : Addr).block from hle1) (.slice none 0 0))
  have KX := (box_set (box_set (box_set (box_set (box_set K2a 0 (.slice none 0 0)) 1 (.slice none 0 0)) 2 (.int .i64 0)) 3 (.slice none 0 0)) 4 (.slice none 0 0))
  have r10 := K2a 0
  have r11 := K2a 1
  have r12 := K2a 2
  have r13 := K2a 3
  have r14 := K2a 4
  have f10 := F2a 0
  have f11 := F2a 1
  have f12 := F2a 2
  have f13 := F2a 3
  have f14 := F2a 4
  simp only [List.getElem?_toArray, List.getElem?_cons_zero, List.getElem?_cons_succ] at r10 r11 r12 r13 r14
  go_wp2
  generalize (((((w2.setCell ⟨w.heap.size + 1, 0, none⟩ (.slice none 0 0)).setCell ⟨w.heap.size + 1, 1, none⟩ (.slice none 0 0)).setCell ⟨w.heap.size + 1, 2, none⟩ (.int .i64 0)).setCell ⟨w.heap.size + 1, 3, none⟩ (.slice none 0 0)).setCell ⟨w.heap.size + 1, 4, none⟩ (.slice none 0 0)) = wx at *
  change ∀ o, wx.cell? ⟨w.heap.size + 1, o, none⟩ = (#[.slice none 0 0, .slice none 0 0, .int .i64 0, .slice none 0 0, .slice none 0 0] : Array Value)[o]? at KX
  refine bodyPost_ret (v := .tuple #[.agg #[.slice none 0 0, .slice none 0 0, .int .i64 0, .slice none 0 0, .slice none 0 0], .int .i64 1]) (by simp [results, Tryd.results26, go_sem, KX]) rfl ⟨rfl, HBX.out⟩
set_option maxHeartbeats 8000000 in
set_option maxRecDepth 100000 in
theorem free_none (az am al av : Option Addr) (cz cm cl cv nl nv : Nat) (y0 y1 : Zc) (lc : List Lc) (h : Hp) (p : Nat) (w : World) (hh : HAt w az am al av nl nv y0 y1 lc h) (hk : HOk h) (hnl : nl ≤ 1000) (hnv : nv ≤ 1000) (hp : p ≤ 1000) (hno : hasB h.live p = false) :
    Calls Tryd.prog 26 #[.agg #[.slice az 2 cz, .slice am 2 cm, .int .i64 h.cpus, .slice al nl cl, .slice av nv cv], .int .i64 0, .int .i64 p] w fun ev w' => ev = .returned (.tuple #[.agg #[.slice none 0 0, .slice none 0 0, .int .i64 0, .slice none 0 0, .slice none 0 0], .int .i64 4]) ∧ Below w.heap.size w w' := by
  obtain ⟨K1, K2, F1, F2, hsz, hbw⟩ := boxes2 w #[.slice az 2 cz, .slice am 2 cm, .int .i64 (h.cpus : Int), .slice al nl cl, .slice av nv cv] 34 #[.slice none 0 0, .slice none 0 0, .int .i64 0, .slice none 0 0, .slice none 0 0] 34
  have HH := Hid.mk (hh.below hbw)
  have HK := Hid.mk hk
  have HB1 := Hid.mk hbw
  have k10 := K1 0
  have k11 := K1 1
  have k12 := K1 2
  have k13 := K1 3
  have k14 := K1 4
  simp only [List.getElem?_toArray, List.getElem?_cons_zero, List.getElem?_cons_succ] at k10 k11 k12 k13 k14
  clear hh hk hbw
  go_enter Tryd.func26, Tryd.ntmps26
  go_wp2_with fail
  generalize (w.alloc (.cells #[.slice az 2 cz, .slice am 2 cm, .int .i64 (h.cpus : Int), .slice al nl cl, .slice av nv cv] 34)).alloc (.cells #[.slice none 0 0, .slice none 0 0, .int .i64 0, .slice none 0 0, .slice none 0 0] 34) = w1 at *
  refine (checkH_pg _ _ _ _ _ _ _ _ _ _ _ _ _ h w1 HH.out HK.out hnl hnv).mono ?_
  rintro ev w2 ⟨rfl, hb2⟩
  have K1a := box_step K1 (by omega) hb2
  have F1a := frz_step F1 (by omega) hb2
  have K2a := box_step K2 hsz hb2
  have F2a := frz_step F2 hsz hb2
  have HH2 := Hid.mk (HH.out.below hb2)
  have HB2 := Hid.mk (Below.trans HB1.out (hb2.mono HB1.out.size))
  have hsz2 : w.heap.size + 1 < w2.heap.size := Nat.lt_of_lt_of_le hsz hb2.size
  clear k10 k11 k12 k13 k14 hb2 K1 F1 K2 F2
  have k10 := K1a 0
  have k11 := K1a 1
  have k12 := K1a 2
  have k13 := K1a 3
  have k14 := K1a 4
  simp only [List.getElem?_toArray, List.getElem?_cons_zero, List.getElem?_cons_succ] at k10 k11 k12 k13 k14
  have hcp1 := HK.out.cp.1
  have d2 : decide (h.cpus ≤ 0) = false := decide_eq_false (by omega)
  have d3 : decide ((h.cpus : Int) ≤ 0) = false := decide_eq_false (by omega)
  have HNO := Hid.mk hno
  clear hno
  go_wp2_with fail
  refine (live_pg _ _ _ _ _ _ _ _ _ _ _ _ _ h p w2 HH2.out HK.out hnv hp).mono ?_
  rintro ev w3 ⟨rfl, hb3⟩
  rw [HNO.out]
  have K2c := box_step K2a hsz2 hb3
  have F2c := frz_step F2a hsz2 hb3
  have HB3 := Hid.mk (Below.trans HB2.out (hb3.mono HB2.out.size))
  have hsz3 : w.heap.size + 1 < w3.heap.size := Nat.lt_of_lt_of_le hsz2 hb3.size
  have hle1 : w.heap.size ≤ w.heap.size + 1 := Nat.le_succ _
  have HBX := Hid.mk (Below.setCell (Below.setCell (Below.setCell (Below.setCell (Below.setCell HB3.out (show w.heap.size ≤ (⟨w.heap.size + 1, 0, none⟩ : Addr).block from hle1) (.slice none 0 0)) (show w.heap.size ≤ (⟨w.heap.size + 1, 1, none⟩ : Addr).block from hle1) (.slice none 0 0)) (show w.heap.size ≤ (⟨w.heap.size + 1, 2, none⟩ : Addr).block from hle1) (.int .i64 0)) (show w.heap.size ≤ (⟨w.heap.size + 1, 3, none⟩ : Addr).block from hle1) (.slice none 0 0)) (show w.heap.size ≤ (⟨w.heap.size + 1, 4, none⟩ : Addr).block from hle1) (.slice none 0 0))
  have KX := (box_set (box_set (box_set (box_set (box_set K2c 0 (.slice none 0 0)) 1 (.slice none 0 0)) 2 (.int .i64 0)) 3 (.slice none 0 0)) 4 (.slice none 0 0))
  have r10 := K2c 0
  have r11 := K2c 1
  have r12 := K2c 2
  have r13 := K2c 3
  have r14 := K2c 4
  have f10 := F2c 0
  have f11 := F2c 1
  have f12 := F2c 2
  have f13 := F2c 3
  have f14 := F2c 4
  simp only [List.getElem?_toArray, List.getElem?_cons_zero, List.getElem?_cons_succ] at r10 r11 r12 r13 r14
  go_wp2
  generalize (((((w3.setCell ⟨w.heap.size + 1, 0, none⟩ (.slice none 0 0)).setCell ⟨w.heap.size + 1, 1, none⟩ (.slice none 0 0)).setCell ⟨w.heap.size + 1, 2, none⟩ (.int .i64 0)).setCell ⟨w.heap.size + 1, 3, none⟩ (.slice none 0 0)).setCell ⟨w.heap.size + 1, 4, none⟩ (.slice none 0 0)) = wx at *
  change ∀ o, wx.cell? ⟨w.heap.size + 1, o, none⟩ = (#[.slice none 0 0, .slice none 0 0, .int .i64 0, .slice none 0 0, .slice none 0 0] : Array Value)[o]? at KX
  refine bodyPost_ret (v := .tuple #[.agg #[.slice none 0 0, .slice none 0 0, .int .i64 0, .slice none 0 0, .slice none 0 0], .int .i64 4]) (by simp [results, Tryd.results26, go_sem, KX]) rfl ⟨rfl, HBX.out⟩
end Go.Proofs.YtjljcifpcljlaaaDoor
/- The table of the other types, as the rows list it. -/
namespace Go.Proofs.YtjljcifpcljlaaaDoor
open Go.RowKit

theorem own : ownKnob Tryd.prog.godebug = none := by kernel_rfl
theorem gOth : Tryd.prog.globalNamed "paddock/buddy.others" = some 0 := by kernel_rfl
theorem gOthType : (Tryd.prog.globals[0]?).map (·.type) = some 129 := by kernel_rfl
theorem cellsT3 : Tryd.prog.cellsOf 129 = 6 := by kernel_rfl
theorem cellsT2 : Tryd.prog.cellsOf 128 = 2 := by kernel_rfl
theorem cellsInt : Tryd.prog.cellsOf 3 = 1 := by kernel_rfl

/-- an array of arrays of integers that reads as the table holds its numbers -/
theorem cells_of_tabs {H : Type} {enc : TypeId × Value → H} {P : Program} {w : World} {base : Nat} {sp : Nat → Bool} {held : Bool} {fuel : Nat} {t e f : TypeId} {n m : Nat} {k : IntKind} {cs : List Value} {zss : List (List Int)} {p : List MemPlace}
    (ht : P.underlying t = some (.array n e)) (he : P.underlying e = some (.array m f)) (hf : P.underlying f = some (.int k)) (hcf : P.cellsOf f = 1) (hce : P.cellsOf e = m) (hct : P.cellsOf t = n * m)
    (h : DataW.trod enc P w base sp held fuel t cs = some (.agg (zss.map fun zs => Lib.tabData k zs), p)) : ∀ i, i < n → ∃ zs, zss[i]? = some zs ∧ (cs.drop (i * m)).take m = zs.map fun z => Value.int k z := by
  cases fuel with
  | zero => simp [DataW.trod] at h
  | succ fuel =>
    simp only [DataW.trod, ht, hce, hct] at h
    split at h
    · rename_i hl
      obtain ⟨xs, hm, hx⟩ := Option.map_eq_some_iff.1 h
      have hxs : xs.map (·.1) = zss.map fun zs => (Lib.tabData k zs : DataW H) := by
        have := congrArg Prod.fst hx
        simpa using this
      intro i hi
      obtain ⟨b, hb, hfi⟩ := Lib.mapM_at hm i i (by simp [hi])
      have h2 : (xs.map (·.1))[i]? = some b.1 := by simp [hb]
      rw [hxs] at h2
      simp only [List.getElem?_map, Option.map_eq_some_iff] at h2
      obtain ⟨zs, hz1, hz2⟩ := h2
      obtain ⟨b1, b2⟩ := b
      simp only at hz2
      subst hz2
      exact ⟨zs, hz1, Lib.cells_of_tab he hf hcf hce hfi⟩
    · cases h

theorem oth_of_laid {W : World} (h : laidMetH Tryd.prog [("paddock/buddy.others", Rows.laid_paddock_buddy_others)] W) : Oth W := by
  obtain ⟨ps, ⟨g', t', cs, fuel, p, q, hg', ht', hvar, hd, _, _⟩, _⟩ := h
  obtain rfl := Option.some.inj (gOth.symm.trans hg')
  obtain rfl := Option.some.inj (gOthType.symm.trans ht')
  have hT := cells_of_tabs (zss := [[2, 1], [2, 0], [0, 1]]) Tryd.underlying129 Tryd.underlying128 Tryd.underlying3 cellsInt cellsT2 cellsT3 hd
  have hc : ∀ i v, cs[i]? = some v → W.cell? ⟨0, i, none⟩ = some v := fun i v hv => (World.var?_cell gOth hvar i).trans hv
  obtain ⟨z0, h0, e0⟩ := hT 0 (by decide)
  obtain ⟨z1, h1, e1⟩ := hT 1 (by decide)
  obtain ⟨z2, h2, e2⟩ := hT 2 (by decide)
  simp only [List.getElem?_cons_zero, List.getElem?_cons_succ, Option.some.injEq] at h0 h1 h2
  subst h0 h1 h2
  have key : ∀ (l : List Value) (a b : Nat) (x y : Value), (l.drop a).take 2 = [x, y] → l[a]? = some x ∧ l[a + 1]? = some y := by
    intro l a b x y h
    have g0 := congrArg (·[0]?) h
    have g1 := congrArg (·[1]?) h
    simp [List.getElem?_drop] at g0 g1
    exact ⟨g0, g1⟩
  obtain ⟨a0, a1⟩ := key cs.toList 0 0 _ _ e0
  obtain ⟨a2, a3⟩ := key cs.toList 2 0 _ _ e1
  obtain ⟨a4, a5⟩ := key cs.toList 4 0 _ _ e2
  rw [Array.getElem?_toList] at a0 a1 a2 a3 a4 a5
  have hc0 := hc 0 _ a0
  refine ⟨by have := World.block_lt_of_cell? W _ hc0; exact this, fun i v hv => ?_⟩
  rcases i with _ | _ | _ | _ | _ | _ | i
  · simp at hv; subst hv; exact hc0
  · simp at hv; subst hv; exact hc 1 _ a1
  · simp at hv; subst hv; exact hc 2 _ a2
  · simp at hv; subst hv; exact hc 3 _ a3
  · simp at hv; subst hv; exact hc 4 _ a4
  · simp at hv; subst hv; exact hc 5 _ a5
  · simp at hv

/-- a world in which the table holds what the program's text says -/
noncomputable def laidWorld (os : Os) : World :=
  { World.holding Tryd.prog os ⟨#[], #[], []⟩ with heap := (World.holding Tryd.prog os ⟨#[], #[], []⟩).heap.modify 0 fun
      | .cells _ t frozen => .cells #[.int .i64 2, .int .i64 1, .int .i64 2, .int .i64 0, .int .i64 0, .int .i64 1] t frozen
      | o => o }
end Go.Proofs.YtjljcifpcljlaaaDoor
/- 'post' out of 'Below': the lemma that the guide's page of small lemmas gives to copy. -/
namespace Go.Proofs.YtjljcifpcljlaaaDoor
open Go.RowKit Go.WideShapes Go.ChangeShapes
section
variable {H : Type} {enc : TypeId × Value → H} {P : Program}

/-- The arguments read behind the call as they did before, whatever their types. -/
theorem trodAll_keep (hl : laidOutB P = true) {W W' : World} (hb : Below W.heap.size W W') : ∀ (ts : List TypeId) (vs : List Value) (ds : List (DataW H)) (p : List MemPlace),
    (∀ t ∈ ts, P.readableRec t = true ∧ t < P.types.size) → (∀ x ∈ p, x.block < W.heap.size) → DataW.TrodAll enc P W 0 (fun _ => true) true ts vs ds p → DataW.TrodAll enc P W' 0 (fun b => decide (b < W.heap.size)) true ts vs ds p
  | [], [], [], p, _, _, h => h
  | t :: ts, v :: vs, d :: ds, p, hr, hp, h => by
    obtain ⟨p1, p2, h1, h2, rfl⟩ := h
    refine ⟨p1, p2, ?_, trodAll_keep hl hb ts vs ds p2 (fun t ht => hr t (by simp [ht])) (fun x hx => hp x (by simp [hx])) h2, rfl⟩
    have := hr t (by simp)
    exact Below.trod hl this.1 this.2 h1 hb fun x hx => hp x (by simp [hx])
  | [], [], _ :: _, _, _, _, h => h.elim
  | [], _ :: _, _, _, _, _, h => h.elim
  | _ :: _, [], _, _, _, _, h => h.elim
  | _ :: _, _ :: _, [], _, _, _, h => h.elim

/-- 'post' of a law, out of 'Below' alone. -/
theorem post_law {f : Func} {s : ChangeSpec} {apart : Bool} {W W' : World} {args : Array Value} {ds : List (DataW H)} {before : List MemPlace}
    (hl : laidOutB P = true) (hr : ∀ t ∈ f.params.toList, P.readableRec t = true ∧ t < P.types.size)
    (hW : DataW.Whole enc P f.params.toList s.vars apart W args.toList ds [] before) (hv : s.vars = []) {tb : TypeId} (hres : f.resultTypes = #[tb]) (htb : P.underlying tb = some .bool)
    (hf1 : (s.fn H (ds ++ [])).results = [.lit (.bool true)]) (hf2 : (s.fn H (ds ++ [])).args = ds) (hf3 : (s.fn H (ds ++ [])).vars = []) (hb : Below W.heap.size W W') :
    s.post enc P f apart true false false W args (.bool true) W' := by
  have hlt : ∀ p ∈ before, p.block < W.heap.size := fun p hp => hW.lt p hp
  obtain ⟨pa, pv, h1, h2, h3, h4, h5⟩ := hW
  refine ⟨ds, [], before, [], pa, [], ⟨pa, pv, h1, h2, h3, h4, h5⟩, ?_, ?_, ?_, World.keptBut_mono (fun p f => f.elim) (hb.frame (fun _ => False)), fun h => by cases h⟩
  · rw [hres, hf1]
    exact trodAll_mk1 (shut_bool htb true)
  · rw [hf2]
    exact trodAll_keep hl hb _ _ _ _ hr (fun x hx => hlt x (by rw [h3]; simp [hx])) h1
  · rw [hv, hf3]
    rfl
end

section
variable {H : Type} {enc : TypeId × Value → H} {P : Program}
theorem post_of_below {f : Func} {s : ChangeSpec} {apart fresh handsOn again : Bool} {W W' : World} {args : Array Value} {v : Value} {ds gs : List (DataW H)} {before pa pv : List MemPlace}
    (hW : DataW.Whole enc P f.params.toList s.vars apart W args.toList ds gs before)
    (hres : ∀ (b : Nat) (sp : Nat → Bool) (hd : Bool), DataW.TrodAll enc P W' b sp hd f.resultTypes.toList (v.resultList f.resultTypes.size) (s.fn H (ds ++ gs)).results [])
    (hargs : ∀ sp : Nat → Bool, (∀ p ∈ before, sp p.block = true) → DataW.TrodAll enc P W' 0 sp true f.params.toList args.toList (s.fn H (ds ++ gs)).args pa)
    (hvars : ∀ sp : Nat → Bool, (∀ p ∈ before, sp p.block = true) → DataW.TrodVars enc P W' sp s.vars (s.fn H (ds ++ gs)).vars pv)
    (hps : before = pa ++ pv) (hb : Below W.heap.size W W')
    (hok : ∀ (j : Nat) (t : TypeId) (r : Value), f.resultTypes[j]? = some t → (v.resultList f.resultTypes.size)[j]? = some r → Value.okWide P W' .any 0 t r) :
    s.post enc P f apart fresh handsOn again W args v W' := by
  have hlt : ∀ p ∈ before, p.block < W.heap.size := fun p hp => hW.lt p hp
  have hold : ∀ p ∈ before, (fun b => decide (b < W.heap.size)) p.block = true := fun p hp => by simpa using hlt p hp
  refine ⟨ds, gs, before, [], pa, pv, hW, hres _ _ _, hargs _ hold, hvars _ hold, World.keptBut_mono (fun p hp => ⟨hp, ?_⟩) (hb.frame (· ∈ before)), fun _ => ?_⟩
  · rw [hps, List.mem_append] at hp
    exact Or.inr hp
  · obtain ⟨_, _, _, _, _, hz, hn⟩ := hW
    refine ⟨hok, _, _, ([] ++ pa) ++ pv, ⟨[] ++ pa, pv, trodAll_append (hargs _ (fun _ _ => rfl)) (hres _ _ _), hvars _ (fun _ _ => rfl), rfl, ?_, ?_⟩, ?_⟩
    · intro b off hp
      have hin : MemPlace.cell b off ∈ before := by rw [hps]; simpa using hp
      rw [hb.frozen (hlt _ hin)]
      exact hz b off hin
    · intro ha
      have := hn ha
      rw [hps] at this
      simpa using this
    · intro p hp _
      rw [hps]
      simpa using hp
end

theorem spot_none {W : World} {ad : Addr} {v : Value} (h : W.cell? (ad.add 0) = some v) : ad.spot = none := by
  obtain ⟨b, off, spot⟩ := ad
  have e : (Addr.add ⟨b, off, spot⟩ 0) = ⟨b, off, spot⟩ := rfl
  rw [e] at h
  unfold World.cell? at h
  cases spot with
  | none => rfl
  | some x => exfalso; simp only at h; split at h <;> simp at h

/-- A slice of ints that came in. -/
theorem arg_ints {H : Type} {enc : TypeId × Value → H} {P : Program} {W : World} {t e : TypeId} {a : Option Addr} {n c : Nat} {d : DataW H} {p : List MemPlace} (ht : P.underlying t = some (.slice e)) (he : P.underlying e = some (.int .i64)) (hc : P.cellsOf e = 1)
    (h : DataW.Trod enc P W 0 (fun _ => true) true t (.slice a n c) d p) : ∃ zs : List Int, zs.length = n ∧ Row W a (zs.map vI) ∧ n ≤ c ∧ c ≤ maxLen ∧ ∀ z ∈ zs, (Lit.int .i64 z).wf = true := by
  obtain ⟨fuel, hf⟩ := h
  rcases open_ints ht he hc hf with ⟨hcs, _⟩ | ⟨ad, len, cap, zs, hcs, _, hl, hm, hz, _, hcell, hwf⟩
  · simp only [Value.cells, List.cons.injEq, Value.slice.injEq, and_true] at hcs
    obtain ⟨rfl, rfl, rfl⟩ := hcs
    exact ⟨[], rfl, Row.nil _ _, Nat.le_refl _, Nat.zero_le _, by simp⟩
  · simp only [Value.cells, List.cons.injEq, Value.slice.injEq, and_true] at hcs
    obtain ⟨rfl, rfl, rfl⟩ := hcs
    simp only [if_true] at hz
    refine ⟨zs.take n, by rw [List.length_take]; omega, ?_, hl, hm, fun z hz => hwf z (List.mem_of_mem_take hz)⟩
    intro j v hj
    have hjl : j < n := by have := (List.getElem?_eq_some_iff.1 hj).1; rw [List.length_map, List.length_take] at this; omega
    have hce := hcell j (by omega)
    rw [List.getElem?_map, List.getElem?_take, if_pos hjl, List.getElem?_eq_getElem (by omega), Option.map_some, Option.some.injEq] at hj
    subst hj
    rw [List.getD_eq_getElem?_getD, List.getElem?_eq_getElem (by omega), Option.getD_some] at hce
    have hspot := spot_none (hcell 0 (by omega))
    obtain ⟨b, off, spot⟩ := ad
    simp only at hspot
    subst hspot
    rw [Addr.add_lit] at hce
    exact ⟨b, off, rfl, World.block_lt_of_cell? W _ hce, hce⟩
end Go.Proofs.YtjljcifpcljlaaaDoor
/- A slice of raw numbers that came in: its elements' cells. -/
namespace Go.Proofs.YtjljcifpcljlaaaDoor
open Go.RowKit Go.WideShapes Go.ChangeShapes

theorem exists_list {α : Type} (p : Nat → α → Prop) : ∀ n, (∀ i, i < n → ∃ x, p i x) → ∃ l : List α, l.length = n ∧ ∀ i (h : i < l.length), p i l[i]
  | 0, _ => ⟨[], rfl, fun i h => by simp at h⟩
  | n + 1, h => by
    obtain ⟨l, hl, hp⟩ := exists_list p n fun i hi => h i (by omega)
    obtain ⟨x, hx⟩ := h n (by omega)
    refine ⟨l ++ [x], by simp [hl], fun i hi => ?_⟩
    by_cases hi2 : i < l.length
    · rw [List.getElem_append_left hi2]; exact hp i hi2
    · rw [List.getElem_append_right (by omega)]
      have : i = n := by simp at hi; omega
      subst this
      simpa using hx

theorem in64_wf {z : Int} (h : (Lit.int .i64 z).wf = true) : in64 z := bounds_i64 h

theorem raw_cells {H : Type} {enc : TypeId × Value → H} {W : World} {base fuel : Nat} {sp : Nat → Bool} {held : Bool} {cs : List Value} {x : DataW H × List MemPlace}
    (h : DataW.trod enc Tryd.prog W base sp held fuel 61 cs = some x) : ∃ r : Rw, r.wf ∧ cs = encRw r := by
  obtain ⟨xs, n, rfl, rfl, hl, hx, hf⟩ := DataW.trod_struct Tryd.underlying61 h
  have hl4 : cs.length = 4 := by rw [hl]; kernel_rfl
  have hc3 : Tryd.prog.cellsOf 3 = 1 := by kernel_rfl
  have hx4 : xs.length = 4 := hx
  have f0 := hf 0 _ rfl
  have f1 := hf 1 _ rfl
  have f2 := hf 2 _ rfl
  have f3 := hf 3 _ rfl
  rw [List.getElem?_eq_getElem (by omega)] at f0 f1 f2 f3
  obtain ⟨n0, e0, _, w0⟩ := DataW.trod_int Tryd.underlying3 f0
  obtain ⟨n1, e1, _, w1⟩ := DataW.trod_int Tryd.underlying3 f1
  obtain ⟨n2, e2, _, w2⟩ := DataW.trod_int Tryd.underlying3 f2
  obtain ⟨n3, e3, _, w3⟩ := DataW.trod_int Tryd.underlying3 f3
  change (cs.drop 0).take (Tryd.prog.cellsOf 3) = _ at e0
  change (cs.drop 1).take (Tryd.prog.cellsOf 3) = _ at e1
  change (cs.drop 2).take (Tryd.prog.cellsOf 3) = _ at e2
  change (cs.drop 3).take (Tryd.prog.cellsOf 3) = _ at e3
  rw [hc3] at e0 e1 e2 e3
  refine ⟨⟨n0, n1, n2, n3⟩, ⟨in64_wf w0, in64_wf w1, in64_wf w2, in64_wf w3⟩, ?_⟩
  obtain _ | ⟨a, _ | ⟨b, _ | ⟨c, _ | ⟨d, _ | ⟨e, cs⟩⟩⟩⟩⟩ := cs
  all_goals simp at hl4
  simp at e0 e1 e2 e3
  simp [encRw, vI, e0, e1, e2, e3]

theorem arg_raws {H : Type} {enc : TypeId × Value → H} {W : World} {a : Option Addr} {n c : Nat} {d : DataW H} {p : List MemPlace}
    (h : DataW.Trod enc Tryd.prog W 0 (fun _ => true) true 22 (.slice a n c) d p) : ∃ zs : List Rw, zs.length = n ∧ Row W a (flat encRw zs) ∧ n ≤ c ∧ c ≤ maxLen ∧ ∀ r ∈ zs, r.wf := by
  obtain ⟨fuel, hf⟩ := h
  have hc4 : Tryd.prog.cellsOf 61 = 4 := by kernel_rfl
  rcases DataW.trod_slice Tryd.underlying22 hf with ⟨hcs, _⟩ | ⟨ad, len, cap, elems, rest, m, _, hcs, _, _, hl, hm, hlen, hel, _, _⟩
  · simp only [Value.cells, List.cons.injEq, Value.slice.injEq, and_true] at hcs
    obtain ⟨rfl, rfl, rfl⟩ := hcs
    exact ⟨[], rfl, Row.nil _ _, Nat.le_refl _, Nat.zero_le _, by simp⟩
  · simp only [Value.cells, List.cons.injEq, Value.slice.injEq, and_true] at hcs
    obtain ⟨rfl, rfl, rfl⟩ := hcs
    rw [hc4] at hel
    by_cases hn0 : n = 0
    · subst hn0
      exact ⟨[], rfl, Row.nil _ _, hl, hm, by simp⟩
    have hspot : ad.spot = none := by
      have h1 := hel 0 (by omega)
      rw [List.getElem?_eq_getElem (by omega), Option.bind_eq_some_iff] at h1
      obtain ⟨cs, h2, h3⟩ := h1
      obtain ⟨r, hr, rfl⟩ := raw_cells h3
      have h5 := (World.cells?_some h2).2.2 0 (by omega)
      rw [show ad.add (0 * 4) = ad from by rw [Nat.zero_mul]; unfold Addr.add; rw [if_pos rfl]] at h5
      exact spot_none h5
    obtain ⟨b, off, spot⟩ := ad
    simp only at hspot
    subst hspot
    have each : ∀ i, i < n → ∃ r : Rw, r.wf ∧ ∀ j v, (encRw r)[j]? = some v → W.cell? ⟨b, off + (i * 4 + j), none⟩ = some v := by
      intro i hi
      have h1 := hel i hi
      rw [List.getElem?_eq_getElem (by omega), Option.bind_eq_some_iff] at h1
      obtain ⟨cs, h2, h3⟩ := h1
      obtain ⟨r, hr, rfl⟩ := raw_cells h3
      refine ⟨r, hr, fun j v hj => ?_⟩
      have h4 := World.cells?_some h2
      have hj4 : j < 4 := by have := (List.getElem?_eq_some_iff.1 hj).1; simpa [encRw] using this
      have h5 := h4.2.2 j hj4
      rw [Addr.add_lit, Addr.add_lit, Nat.add_assoc] at h5
      rw [h5]; exact hj
    obtain ⟨zs, hz, hp⟩ := exists_list _ n each
    refine ⟨zs, hz, ?_, hl, hm, fun r hr => by
      obtain ⟨i, hi, rfl⟩ := List.getElem_of_mem hr
      exact (hp i hi).1⟩
    intro j v hj
    have hjl : j < zs.length * 4 := by have := (List.getElem?_eq_some_iff.1 hj).1; rwa [flat_length encRw_length] at this
    have hdm := Nat.div_add_mod j 4
    have hlt : j % 4 < 4 := Nat.mod_lt _ (by omega)
    have hi : j / 4 < zs.length := by omega
    rw [show j = j / 4 * 4 + j % 4 by omega, flat_get encRw_length zs (j / 4) hi (j % 4) hlt] at hj
    have hce := (hp (j / 4) hi).2 (j % 4) v hj
    rw [show j / 4 * 4 + j % 4 = j by omega] at hce
    exact ⟨b, off, rfl, World.block_lt_of_cell? W _ hce, hce⟩
end Go.Proofs.YtjljcifpcljlaaaDoor
