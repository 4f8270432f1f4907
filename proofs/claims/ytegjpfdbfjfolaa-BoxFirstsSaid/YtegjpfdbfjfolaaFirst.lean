/- what the chapter's examples fix: true. -/
import Derived.Test.YtegjpfdbfjfolaaBox
namespace Go.Proofs.Ytegjpfdbfjfolaa
open Go.RowKit

/-- Nothing that was there has turned, but for a channel that is new. -/
theorem below_turned {B c : Nat} {w w1 w2 : World} (h : Below B w w1) (t : Turned c w1 w2) (hc : B ≤ c) (hB : B ≤ w1.heap.size) : Below B w w2 :=
  h.grown t.1 hB (by intro g hg; injection hg with hg; omega)
theorem first_any (w : World) : Calls Try.prog 9 #[] w fun e w' => e = .returned (.bool true) ∧ Below w.heap.size w w' := by
  have hn := newBox_at w 1
  have hnb := newBox_below w 1
  have hns := newBox_size w 1
  go_enter Try.func9, Try.ntmps9
  go_wp2_with fail
  refine (new_yes 1 (by omega) (by omega) _).mono ?_
  rintro e w1 ⟨rfl, rfl⟩
  obtain ⟨w1, hw1⟩ : ∃ w1, newBox w 1 = w1 := ⟨_, rfl⟩
  rw [hw1] at hn hnb hns ⊢
  have HS := Lib.hid hns
  clear hw1 hns
  go_wp2_with fail
  refine (put_yes hn (by simp) 7).mono ?_
  rintro e w2 ⟨rfl, h2, t2⟩
  go_wp2_with fail
  refine (put_no h2 (by simp) 8).mono ?_
  rintro e w3 ⟨rfl, rfl⟩
  go_wp2_with fail
  refine (take_yes (l := []) h2).mono ?_
  rintro e w3 ⟨rfl, h3, t3⟩
  go_wp2_with fail
  refine (take_no h3).mono ?_
  rintro e w4 ⟨rfl, rfl⟩
  go_wp2_with fail
  go_ret
  have s1 := HS.out
  have b2 := below_turned hnb t2 (Nat.le_refl _) (by omega)
  exact ⟨rfl, below_turned b2 t3 (Nat.le_refl _) (by rw [t2.2]; omega)⟩
end Go.Proofs.Ytegjpfdbfjfolaa
