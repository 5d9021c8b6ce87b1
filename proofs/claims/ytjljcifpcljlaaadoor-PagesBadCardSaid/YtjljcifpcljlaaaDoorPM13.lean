/- Raws: texts of this claim, joined. -/
import Derived.Test.YtjljcifpcljlaaaDoorPM1
/- Raw numbers that come in. -/
namespace Go.Proofs.YtjljcifpcljlaaaDoor
open Go.RowKit

structure Rw where
  k : Int
  a : Int
  b : Int
  c : Int
def encRw (r : Rw) : List Value := [vI r.k, vI r.a, vI r.b, vI r.c]
theorem encRw_length (r : Rw) : (encRw r).length = 4 := rfl
theorem encRw_cells {w : World} {b o : Nat} {r : Rw} (hc : ∀ i v, (encRw r)[i]? = some v → w.cell? ⟨b, o + i, none⟩ = some v) : w.cell? ⟨b, o, none⟩ = some (.int .i64 r.k) ∧ w.cell? ⟨b, o + 1, none⟩ = some (.int .i64 r.a) ∧ w.cell? ⟨b, o + 2, none⟩ = some (.int .i64 r.b) ∧ w.cell? ⟨b, o + 3, none⟩ = some (.int .i64 r.c) := ⟨hc 0 _ rfl, hc 1 _ rfl, hc 2 _ rfl, hc 3 _ rfl⟩
def in64 (x : Int) : Prop := -9223372036854775808 ≤ x ∧ x ≤ 9223372036854775807
def Rw.wf (r : Rw) : Prop := in64 r.k ∧ in64 r.a ∧ in64 r.b ∧ in64 r.c
end Go.Proofs.YtjljcifpcljlaaaDoor
