/- What Get tells, in plain Lean. -/
import Derived.Test.YtkhbpaloicefdaaPut
namespace Go.Proofs.Ytkhbpaloicefdaa
open Go.RowKit
set_option linter.unusedVariables false
/-- An error; or a record's bytes. -/
inductive Got where
  | err (k : Nat)
  | ok (p : List Nat)
def numAt (x : List Nat) : Nat := x.getD 0 0 * 256 + x.getD 1 0
def getx (x : List Nat) : Got :=
  if x.length < 6 then .err 2 else
  if 8192 < numAt x then .err 3 else
  if x.length < 6 + numAt x then .err 2 else
  if recd ((x.drop 6).take (numAt x)) = x.take (6 + numAt x) then .ok ((x.drop 6).take (numAt x)) else .err 5
def getd (b : List Nat) (i : Int) : Got := if i < 0 ∨ (b.length : Int) < i then .err 1 else getx (b.drop i.toNat)
theorem getd_out {b : List Nat} {i : Int} (h : i < 0 ∨ (b.length : Int) < i) : getd b i = .err 1 := if_pos h
theorem getd_in {b : List Nat} {j : Nat} (h : j ≤ b.length) : getd b (j : Int) = getx (b.drop j) := by
  unfold getd
  rw [if_neg (by omega)]
  simp
theorem getx_short {x : List Nat} (h : x.length < 6) : getx x = .err 2 := if_pos h
theorem getx_long {x : List Nat} (h : ¬ x.length < 6) (h2 : 8192 < numAt x) : getx x = .err 3 := by
  unfold getx; rw [if_neg h, if_pos h2]
theorem getx_cut {x : List Nat} (h : ¬ x.length < 6) (h2 : ¬ 8192 < numAt x) (h3 : x.length < 6 + numAt x) : getx x = .err 2 := by
  unfold getx; rw [if_neg h, if_neg h2, if_pos h3]
theorem getx_sum {x : List Nat} (h : ¬ x.length < 6) (h2 : ¬ 8192 < numAt x) (h3 : ¬ x.length < 6 + numAt x) (h4 : recd ((x.drop 6).take (numAt x)) ≠ x.take (6 + numAt x)) : getx x = .err 5 := by
  unfold getx; rw [if_neg h, if_neg h2, if_neg h3, if_neg h4]
theorem getx_ok {x : List Nat} (h : ¬ x.length < 6) (h2 : ¬ 8192 < numAt x) (h3 : ¬ x.length < 6 + numAt x) (h4 : recd ((x.drop 6).take (numAt x)) = x.take (6 + numAt x)) : getx x = .ok ((x.drop 6).take (numAt x)) := by
  unfold getx; rw [if_neg h, if_neg h2, if_neg h3, if_pos h4]
/-- What is told, on the call's memory. -/
def Told (W : World) (g : Got) (i : Int) (e : Ending) (w' : World) : Prop :=
  match g with
  | .err k => e = .returned (.tuple #[.slice none 0 0, .int .i64 0, .int .i64 (k : Int)]) ∧ Below W.heap.size W w'
  | .ok p => ∃ A c, e = .returned (.tuple #[.slice A p.length c, .int .i64 (i + 6 + p.length), .int .i64 0]) ∧ Own w' W.heap.size (.slice A p.length c) p ∧ Below W.heap.size W w'
/-- A slice's room: as much as it has, at least; none if it is nil. -/
structure Room (A : Option Addr) (n c : Nat) : Prop where
  le : n ≤ c
  max : c ≤ maxLen
theorem numAt_lt {x : List Nat} (h : Small x) : numAt x < 65536 := by
  have e : ∀ k, x.getD k 0 < 256 := by
    intro k
    rw [List.getD_eq_getElem?_getD]
    cases hk : x[k]? with
    | none => simp
    | some y => simpa using h y (List.mem_of_getElem? hk)
  have := e 0
  have := e 1
  unfold numAt
  omega
end Go.Proofs.Ytkhbpaloicefdaa
