/- The document's bag: Get (written by mkref.py). -/
import Derived.Test.YtdcmaikgkmamjaaRPut
import Derived.Deep.RegionLaw
namespace Go.Proofs.Ytdcmaikgkmamjaa.Ref
open Go.RowKit
set_option linter.unusedVariables false
attribute [local go_sem ↓] Go.wp_at_zero Go.wp_at_succ
section
variable {T T' base : Nat} {w w' : World} {b c : Nat} {r lost r' lost' : Int} {v v' : Value} {xs ys : List Value} {L K : List (List Nat)}
set_option maxRecDepth 100000 in
theorem get_yes (h : BagAt 44 base w b r lost v xs L) {i : Nat} (hi : i < L.length) (hl : L.length ≤ 1000000) (hli : L[i].length ≤ 1000000) :
    Calls Try.prog 23 #[.pointer (some ⟨b, 0, none⟩), .int .i64 i] w fun e w' => ∃ A' c', e = .returned (.tuple #[.slice A' L[i].length c', .bool true]) ∧ Own w' w.heap.size (.slice A' L[i].length c') L[i] ∧ Below w.heap.size w w' := by
  have c2 := h.cell2
  obtain ⟨g, c, A1, c1, rfl, hnc, hcm, hcell, hby, hrm, hsm⟩ := h.get hi
  unfold maxLen at hcm
  have i0 : (0 : Int) ≤ (i : Int) := by omega
  have i1 : (i : Int) < (L.length : Int) := by omega
  go_enter Try.func23, Try.ntmps23
  go_wp2_with fail
  refine (copy_any A1 c1 _ L[i] w hby hli).mono ?_
  rintro e w1 ⟨A2, c2, rfl, O2, b2⟩
  go_wp2_with fail
  go_ret2
  exact ⟨A2, c2, rfl, O2, b2⟩
set_option maxRecDepth 100000 in
theorem get_no (h : BagAt 44 base w b r lost v xs L) {i : Int} (hi : i < 0 ∨ (L.length : Int) ≤ i) (hl : L.length ≤ 1000000) :
    Calls Try.prog 23 #[.pointer (some ⟨b, 0, none⟩), .int .i64 i] w fun e w' => e = .returned (.tuple #[.slice none 0 0, .bool false]) ∧ w = w' := by
  have c2 := h.cell2
  obtain ⟨A', c', rfl⟩ := header_form h.own
  rcases (show i < 0 ∨ (¬ i < 0 ∧ (L.length : Int) ≤ i) by omega) with q | ⟨q, q2⟩
  all_goals
    clear hi
    go_enter Try.func23, Try.ntmps23
    go_wp2_with fail
    go_ret2
    exact ⟨rfl, rfl⟩
end
end Go.Proofs.Ytdcmaikgkmamjaa.Ref
