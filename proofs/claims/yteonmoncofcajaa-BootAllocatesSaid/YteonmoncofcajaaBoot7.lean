/- Contracts: slices.IndexFunc and slices.ContainsFunc at Region; the state of Check where it fails is not needed. -/
import Derived.Test.YteonmoncofcajaaBoot6
import Derived.Test.YteonmoncofcajaaRam1
import Derived.Shelf.Abstract
namespace Go.Proofs.Yteonmoncofcajaa
open Go.RowKit
set_option linter.unusedVariables false

theorem encRg_cells {w : World} {b o : Nat} {r : Rg} (hc : ∀ i v, (encRg r)[i]? = some v → w.cell? ⟨b, o + i, none⟩ = some v) : w.cell? ⟨b, o, none⟩ = some (.int .i64 r.f) ∧ w.cell? ⟨b, o + 1, none⟩ = some (.int .i64 r.s) := ⟨hc 0 _ rfl, hc 1 _ rfl⟩

/-- slices.IndexFunc at api.Region, with a predicate that may lay blocks of its own -/
theorem indexFuncRg (a : Option Addr) (n cap : Nat) (l : List Rg) (g : Nat) (lb : Array Value) (p : Rg → Bool) (w : World) (hn : l.length = n) (hl : n ≤ 9223372036854775807) (hr : Row w a (flat encRg l)) (eg : ∀ args w, (callFunc g args).run Try.prog w = .ok (.enter g args) w)
    (hp : ∀ W, Below w.heap.size w W → ∀ x ∈ l, Calls Try.prog g (#[.agg (encRg x).toArray] ++ lb) W fun e w' => e = .returned (.bool (p x)) ∧ Below W.heap.size W w') :
    Calls Try.prog 40 #[.slice a n cap, .func (.func g) #[] lb] w fun e w' => e = .returned (.int .i64 (findI p l)) ∧ Below w.heap.size w w' := by
  subst hn
  go_enter Try.func40, Try.ntmps40
  go_wp2
  go_loopw [5, 8] (fun _ s8 wr => ∃ k : Nat, k ≤ l.length ∧ s8 = .int .i64 k ∧ Hid (∀ x ∈ l.take k, p x = false) ∧ Below w.heap.size w wr) (fun _ s8 _ => l.length - (intOf s8).toNat)
  case atStart => exact ⟨0, Nat.zero_le _, rfl, by simp [Hid], Below.refl _ _⟩
  case round =>
    obtain ⟨k, hk, rfl, hnot, hbw⟩ := hrel
    by_cases hlt : k < l.length
    · obtain ⟨b, off, rfl, hb, hc⟩ := row_elem encRg_length (by decide) (hr.below hbw) hlt
      obtain ⟨hc0, hc1⟩ := encRg_cells hc
      have hcall := hp wr hbw l[k] (List.getElem_mem hlt)
      clear hr hp hc
      cases hv : p l[k] with
      | true =>
        have HH := Hid.mk (findI_hit hlt hv hnot.out)
        rw [hv] at hcall
        generalize l[k] = y at *
        go_wp2_with (go_at_fn g; refine hcall.mono ?_; rintro e w' ⟨rfl, hb'⟩)
        go_ret
        exact ⟨ret_int HH.out.symm, Below.step hbw hb'⟩
      | false =>
        rw [hv] at hcall
        have HH : Hid (∀ x ∈ l.take (k + 1), p x = false) := fun x hx => by
          rw [List.take_succ_eq_append_getElem hlt, List.mem_append, List.mem_singleton] at hx
          rcases hx with hx | rfl
          · exact hnot.out x hx
          · exact hv
        generalize l[k] = y at *
        go_wp2_with (go_at_fn g; refine hcall.mono ?_; rintro e w' ⟨rfl, hb'⟩)
        go_roundw
        case rel => exact ⟨k + 1, by omega, by go_num, HH.out, Below.step hbw hb'⟩
        case measure => simp [intOf]; omega
    · obtain rfl : k = l.length := by omega
      go_wp2
      go_ret
      exact ⟨ret_int (findI_miss (by simpa [Hid] using hnot)).symm, hbw⟩

/-- slices.ContainsFunc at api.Region -/
theorem containsFuncRg (a : Option Addr) (n cap : Nat) (l : List Rg) (g : Nat) (lb : Array Value) (p : Rg → Bool) (w : World) (hn : l.length = n) (hl : n ≤ 9223372036854775807) (hr : Row w a (flat encRg l)) (eg : ∀ args w, (callFunc g args).run Try.prog w = .ok (.enter g args) w)
    (hp : ∀ W, Below w.heap.size w W → ∀ x ∈ l, Calls Try.prog g (#[.agg (encRg x).toArray] ++ lb) W fun e w' => e = .returned (.bool (p x)) ∧ Below W.heap.size W w') :
    Calls Try.prog 23 #[.slice a n cap, .func (.func g) #[] lb] w fun e w' => e = .returned (.bool (l.any p)) ∧ Below w.heap.size w w' := by
  go_enter Try.func23, Try.ntmps23
  go_wp2_with (go_at_call 40; refine (indexFuncRg _ _ _ l _ _ p _ hn hl hr eg hp).mono ?_; rintro e w' ⟨rfl, hb'⟩)
  go_ret
  exact ⟨ret_bool (findI_nonneg p l), hb'⟩

end Go.Proofs.Yteonmoncofcajaa
