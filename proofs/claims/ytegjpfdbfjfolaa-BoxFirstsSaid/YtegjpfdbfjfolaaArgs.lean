/- Arguments: a slice of ints that came in reads as a list. -/
import Derived.Test.YtegjpfdbfjfolaaInts
import Derived.Test.YtegjpfdbfjfolaaFirst
import Derived.OpenShut
namespace Go.Proofs.Ytegjpfdbfjfolaa
open Go.RowKit
/-- What is told of a slice of integers that came in: it is nil; or it leads to a row of 'cap' cells, the numbers 'zs', each fitting its kind. -/
def IsRow (k : IntKind) (w : World) (a : Option Addr) (len cap : Nat) (zs : List Int) : Prop :=
  (a = none ∧ len = 0 ∧ cap = 0 ∧ zs = []) ∨
  ∃ x, a = some x ∧ len ≤ cap ∧ cap ≤ maxLen ∧ zs.length = cap ∧ (∀ i, i < zs.length → w.cell? (x.add i) = some (.int k (zs.getD i 0))) ∧ ∀ n ∈ zs, (Lit.int k n).wf = true
theorem IsRow.ints {w : World} {a : Option Addr} {len cap : Nat} {zs : List Int} (h : IsRow .i64 w a len cap zs) :
    ∃ l : List Int, l.length = len ∧ IntsAt w w.heap.size a l ∧ l.length ≤ maxLen ∧ ∀ n ∈ l, -9223372036854775808 ≤ n ∧ n ≤ 9223372036854775807 := by
  rcases h with ⟨rfl, rfl, rfl, rfl⟩ | ⟨x, rfl, hl, hm, hz, hc, hw⟩
  · exact ⟨[], rfl, Reads.none_, by simp, by simp⟩
  · have hlen : (zs.take len).length = len := by rw [List.length_take]; omega
    refine ⟨zs.take len, hlen, ⟨by rw [vals_length, hlen]; omega, fun hn => ?_⟩, by omega, fun n hn => bounds_i64 (hw n (List.mem_of_mem_take hn))⟩
    have h0 := hc 0 (by omega)
    refine ⟨x, rfl, by have := World.block_lt_of_cell? w _ h0; rwa [block_of_add] at this, fun j u hu => ?_⟩
    obtain ⟨m, hm, rfl⟩ := vals_get hu
    rw [List.getElem?_take] at hm
    split at hm
    · have hj : j < zs.length := by
        rcases Nat.lt_or_ge j zs.length with h | h
        · exact h
        · rw [List.getElem?_eq_none h] at hm; cases hm
      rw [hc j hj, List.getD_eq_getElem?_getD, hm]
      rfl
    · cases hm
theorem IntsAt.kept {w w' : World} {A : Option Addr} {l : List Int} (h : IntsAt w w.heap.size A l) (hb : Below w.heap.size w w') : IntsAt w' w.heap.size A l := Reads.below h hb
end Go.Proofs.Ytegjpfdbfjfolaa
