/- disk.Cut, Crash. -/
import Derived.Test.YtkhbpaloicefdaaAppend
namespace Go.Proofs.Ytkhbpaloicefdaa
open Go.RowKit
set_option linter.unusedVariables false
attribute [local go_sem ↓] Go.wp_at_zero Go.wp_at_succ
section
variable {w w' : World} {d c c' : Nat} {r s r' s' : Int} {A A' : Option Addr} {l l' : List Nat}
set_option maxRecDepth 100000 in
set_option maxHeartbeats 1000000 in
theorem cut_new (h : DiskAt w d r s A c l) (n : Nat) (hn : n ≤ l.length) (hl : l.length ≤ 400000) (hs0 : 0 ≤ s) (hs1 : s ≤ 400000) :
    Calls Try.prog 36 #[.pointer (some ⟨d, 0, none⟩), .int .i64 n] w fun e w' => ∃ A' c', e = .returned (.bool true) ∧ DiskAt w' d r (min s n) A' c' (l.take n) ∧ w.grownBy w' (some d) ∧ (∀ ad, A' = some ad → w.heap.size ≤ ad.block) := by
  have hlen : (l.take n).length = n := by rw [List.length_take]; omega
  have c2 := h.cell2
  have hrm := h.room
  have hC : Calls Try.prog 37 #[.slice A n c] w fun e w' => ∃ A' c', e = .returned (.slice A' n c') ∧ Own w' w.heap.size (.slice A' n c') (l.take n) ∧ Below w.heap.size w w' := by
    have := clone_all A c _ (l.take n) w (h.row.take_ n) ⟨by rw [hlen]; exact Nat.le_trans hn hrm.le, hrm.max, hrm.nil⟩ (by omega)
    rw [hlen] at this
    exact this
  have hcm := hrm.max
  have hcl := hrm.le
  unfold maxLen at hcm
  have hmin : (s ≤ (n : Int)) ∨ ¬ (s ≤ (n : Int)) := by omega
  have hcn := hrm.nil
  clear hrm
  cases A
  case' none =>
    have := hcn rfl
    subst this
  all_goals
    go_enter Try.func36, Try.ntmps36
    go_wp2_with fail
    refine hC.mono ?_
    rintro e w1 ⟨A1, c1, rfl, O1, b1⟩
    have g1 := below_quiet2 b1
    have D1 := h.quiet g1
    have cc := D1.cell2
    have ff := D1.free 2
    have O1' : Own w1 w.heap.size (.slice A1 (l.take n).length c1) (l.take n) := by rw [hlen]; exact O1
    obtain ⟨q1, q2, q3⟩ := O1'.file h.lt
    have F1 := O1'.from_
    have D2 := D1.setFile q1 q2 q3 (h.small.take n)
    rw [hlen] at D2
    have g2 := grown_to g1 (set_grown w1 d 2 (.slice A1 n c1))
    have e1 := D2.cell1
    have f1 := D2.free 1
    clear c2 q1 q2 q3 D1 O1 O1' b1 g1 hC
    have HL := Lib.hid hlen
    clear hlen
    rcases hmin with hm | hm
    · have D3 := D2.setSync s
      have g3 := grown_on g2 (set_grown _ d 1 (.int .i64 s))
      go_wp2_with fail
      go_ret
      rw [show min s (n : Int) = s from Int.min_eq_left hm]
      exact ⟨A1, c1, rfl, D3, g3, F1⟩
    · have D3 := D2.setSync n
      have g3 := grown_on g2 (set_grown _ d 1 (.int .i64 (n : Int)))
      go_wp2_with fail
      go_ret
      rw [show min s (n : Int) = n from Int.min_eq_right (by omega)]
      exact ⟨A1, c1, rfl, D3, g3, F1⟩
theorem cut_yes (h : DiskAt w d r s A c l) (n : Nat) (hn : n ≤ l.length) (hl : l.length ≤ 400000) (hs0 : 0 ≤ s) (hs1 : s ≤ 400000) :
    Calls Try.prog 36 #[.pointer (some ⟨d, 0, none⟩), .int .i64 n] w fun e w' => ∃ A' c', e = .returned (.bool true) ∧ DiskAt w' d r (min s n) A' c' (l.take n) ∧ w.grownBy w' (some d) :=
  (cut_new h n hn hl hs0 hs1).mono fun e w' ⟨A', c', h1, h2, h3, _⟩ => ⟨A', c', h1, h2, h3⟩
set_option maxRecDepth 100000 in
theorem cut_no (h : DiskAt w d r s A c l) (n : Int) (hn : n < 0 ∨ (l.length : Int) < n) (hl : l.length ≤ 400000) :
    Calls Try.prog 36 #[.pointer (some ⟨d, 0, none⟩), .int .i64 n] w fun e w' => e = .returned (.bool false) ∧ w = w' := by
  have c2 := h.cell2
  rcases (show n < 0 ∨ (¬ n < 0 ∧ (l.length : Int) < n) by omega) with h1 | ⟨h1, h2⟩
  all_goals
    go_enter Try.func36, Try.ntmps36
    go_wp2_with fail
    go_ret
    exact ⟨rfl, rfl⟩
end
end Go.Proofs.Ytkhbpaloicefdaa
