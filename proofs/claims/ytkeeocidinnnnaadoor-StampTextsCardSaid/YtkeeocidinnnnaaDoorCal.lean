/- Days and dates: civil's functions, walked. -/
import Derived.Test.YtkeeocidinnnnaaDoorCiv
import Derived.Test.YtkeeocidinnnnaaDoorChecked
import Derived.KernelRfl
import Derived.Outline
import Derived.Laws.Rows
import Derived.WalkKit
import Derived.ProofKit
import Derived.Below
import Derived.OwnWalk
import Derived.Lib.Hide
import Derived.RegionTactic
namespace Go.Proofs.YtkeeocidinnnnaaDoor
open Go.RowKit
set_option linter.unusedVariables false
theorem w64 {n : Int} (h : -9223372036854775808 ≤ n) (h' : n ≤ 9223372036854775807) : wrap64 n = n := by unfold wrap64; omega
theorem wi64 {n : Int} (h : -9223372036854775808 ≤ n) (h' : n ≤ 9223372036854775807) : IntKind.i64.wrap n = n := by simp [IntKind.wrap, IntKind.bits, IntKind.signed]; omega
theorem tmod0 (y m : Int) : Int.tmod y m = 0 ↔ y % m = 0 := by rw [← Int.dvd_iff_tmod_eq_zero, ← Int.dvd_iff_emod_eq_zero]
theorem leap_any (y : Int) (w : World) : Calls Tryd.prog 53 #[.int .i64 y] w fun e w' => e = .returned (.bool (Civ.leap y)) ∧ w = w' := by
  have e : Civ.leap y = (decide (y % 4 = 0) && (decide (y % 100 ≠ 0) || decide (y % 400 = 0))) := rfl
  by_cases h4 : y % 4 = 0
  · have t4 := (tmod0 y 4).2 h4
    by_cases h1 : y % 100 = 0
    · have t1 := (tmod0 y 100).2 h1
      have e2 : Civ.leap y = (Int.tmod y 400 == 0) := by
        rw [e]
        by_cases h0 : y % 400 = 0
        · have t0 := (tmod0 y 400).2 h0
          simp [h4, h1, h0, t0]
        · have t0 : (Int.tmod y 400 == 0) = false := by rw [beq_eq_false_iff_ne]; exact fun h => h0 ((tmod0 y 400).1 h)
          rw [t0]; simp [h4, h1, h0]
      rw [e2]; clear e e2 h4 h1
      go_enter Tryd.func53, Tryd.ntmps53
      go_wp2_with fail
      go_ret
      exact ⟨rfl, rfl⟩
    · have t1 : (Int.tmod y 100 == 0) = false := by rw [beq_eq_false_iff_ne]; exact fun h => h1 ((tmod0 y 100).1 h)
      have t1b : (Int.tmod y 100 != 0) = true := by simp only [bne, t1]; rfl
      have t1c : ¬ Int.tmod y 100 = 0 := fun h => h1 ((tmod0 y 100).1 h)
      have e2 : Civ.leap y = true := by rw [e]; simp [h4, h1]
      rw [e2]; clear e e2 h4 h1
      go_enter Tryd.func53, Tryd.ntmps53
      go_wp2_with fail
      go_ret
      exact ⟨rfl, rfl⟩
  · have t4 : (Int.tmod y 4 == 0) = false := by rw [beq_eq_false_iff_ne]; exact fun h => h4 ((tmod0 y 4).1 h)
    have e2 : Civ.leap y = false := by rw [e]; simp [h4]
    rw [e2]; clear e e2 h4
    go_enter Tryd.func53, Tryd.ntmps53
    go_wp2_with fail
    go_ret
    exact ⟨rfl, rfl⟩
set_option maxRecDepth 100000 in
set_option maxHeartbeats 1000000 in
theorem length_any (y m : Int) (w : World) : Calls Tryd.prog 45 #[.int .i64 y, .int .i64 m] w fun e w' => e = .returned (.int .i64 (Civ.len y m)) ∧ w = w' := by
  by_cases h2 : m = 2
  · subst h2
    have hL := leap_any y
    have e : Civ.len y 2 = if Civ.leap y then 29 else 28 := by unfold Civ.len Civ.lp; simp; split <;> rfl
    rw [e]
    clear e
    cases hl : Civ.leap y with
    | true =>
      rw [hl] at hL
      go_enter Tryd.func45, Tryd.ntmps45
      go_wp2_with fail
      refine (hL _).mono ?_
      rintro e w1 ⟨rfl, rfl⟩
      go_wp2_with fail
      go_ret
      exact ⟨rfl, rfl⟩
    | false =>
      rw [hl] at hL
      go_enter Tryd.func45, Tryd.ntmps45
      go_wp2_with fail
      refine (hL _).mono ?_
      rintro e w1 ⟨rfl, rfl⟩
      go_wp2_with fail
      go_ret
      exact ⟨rfl, rfl⟩
  · by_cases hm : m = 1 ∨ m = 3 ∨ m = 4 ∨ m = 5 ∨ m = 6 ∨ m = 7 ∨ m = 8 ∨ m = 9 ∨ m = 10 ∨ m = 11 ∨ m = 12
    · rcases hm with rfl | rfl | rfl | rfl | rfl | rfl | rfl | rfl | rfl | rfl | rfl
      all_goals
        clear h2
        go_enter Tryd.func45, Tryd.ntmps45
        go_wp2_with fail
        go_ret
        exact ⟨by simp [Civ.len], rfl⟩
    · have e : Civ.len y m = 0 := by unfold Civ.len; rw [if_neg (by omega), if_neg (by omega), if_neg (by omega)]
      rw [e]
      have n1 : (m == 1) = false := by simp; omega
      have n2 : (m == 2) = false := by simp; omega
      have n3 : (m == 3) = false := by simp; omega
      have n4 : (m == 4) = false := by simp; omega
      have n5 : (m == 5) = false := by simp; omega
      have n6 : (m == 6) = false := by simp; omega
      have n7 : (m == 7) = false := by simp; omega
      have n8 : (m == 8) = false := by simp; omega
      have n9 : (m == 9) = false := by simp; omega
      have na : (m == 10) = false := by simp; omega
      have nb : (m == 11) = false := by simp; omega
      have nc : (m == 12) = false := by simp; omega
      clear e h2 hm
      go_enter Tryd.func45, Tryd.ntmps45
      go_wp2_with fail
      go_ret
      exact ⟨rfl, rfl⟩
set_option maxRecDepth 100000 in
theorem number_any (y m d : Int) (h1 : -300 ≤ y) (h2 : y ≤ 20000) (h3 : 1 ≤ m) (h4 : m ≤ 12) (h5 : -1000 ≤ d) (h6 : d ≤ 1000) (w : World) :
    Calls Tryd.prog 41 #[.int .i64 y, .int .i64 m, .int .i64 d] w fun e w' => e = .returned (.int .i64 (Civ.num y m d)) ∧ w = w' := by
  rw [← Civ.prog_num y m d h3 h4]
  by_cases hm : m < 3
  · have e : Civ.prog y m d = 365 * (y - 1 + 400) + (y - 1 + 400) / 4 - (y - 1 + 400) / 100 + (y - 1 + 400) / 400 + (153 * (m + 12 - 3) + 2) / 5 + d - 719469 - 146097 := by unfold Civ.prog; simp only [if_pos hm]
    rw [e]
    clear e
    go_enter Tryd.func41, Tryd.ntmps41
    go_wp2_with fail
    go_ret
    exact ⟨rfl, rfl⟩
  · have e : Civ.prog y m d = 365 * (y + 400) + (y + 400) / 4 - (y + 400) / 100 + (y + 400) / 400 + (153 * (m - 3) + 2) / 5 + d - 719469 - 146097 := by unfold Civ.prog; simp only [if_neg hm]
    rw [e]
    clear e
    go_enter Tryd.func41, Tryd.ntmps41
    go_wp2_with fail
    go_ret
    exact ⟨rfl, rfl⟩
theorem fst_any (y : Int) (h1 : -300 ≤ y) (h2 : y ≤ 20000) (w : World) : Calls Tryd.prog 41 #[.int .i64 y, .int .i64 1, .int .i64 1] w fun e w' => e = .returned (.int .i64 (Civ.fst y)) ∧ w = w' := by
  have h := number_any y 1 1 h1 h2 (by omega) (by omega) (by omega) (by omega) w
  have e : Civ.num y 1 1 = Civ.fst y := by simp [Civ.num, Civ.cum]
  rw [e] at h
  exact h
theorem year_any (y : Int) (w : World) : Calls Tryd.prog 51 #[.int .i64 y] w fun e w' => e = .returned (.bool (decide (1 ≤ y ∧ y ≤ 9999))) ∧ w = w' := by
  by_cases h1 : 1 ≤ y
  · by_cases h2 : y ≤ 9999
    · rw [decide_eq_true ⟨h1, h2⟩]
      go_enter Tryd.func51, Tryd.ntmps51
      go_wp2_with fail
      go_ret
      exact ⟨rfl, rfl⟩
    · rw [decide_eq_false (fun h => h2 h.2)]
      have e : decide (y ≤ 9999) = false := by simpa using h2
      go_enter Tryd.func51, Tryd.ntmps51
      go_wp2_with fail
      go_ret
      exact ⟨rfl, rfl⟩
  · rw [decide_eq_false (fun h => h1 h.1)]
    go_enter Tryd.func51, Tryd.ntmps51
    go_wp2_with fail
    go_ret
    exact ⟨rfl, rfl⟩
instance (y m d : Int) : Decidable (Civ.valid y m d) := by unfold Civ.valid; infer_instance
set_option maxRecDepth 100000 in
theorem valid_any (y m d : Int) (w : World) : Calls Tryd.prog 40 #[.int .i64 y, .int .i64 m, .int .i64 d] w fun e w' => e = .returned (.bool (decide (Civ.valid y m d))) ∧ w = w' := by
  have hY := year_any y
  have hL := length_any y m
  by_cases h1 : 1 ≤ y ∧ y ≤ 9999
  · rw [decide_eq_true h1] at hY
    by_cases h2 : 1 ≤ d
    · have e : decide (Civ.valid y m d) = decide (d ≤ Civ.len y m) := by
        unfold Civ.valid
        simp [h1.1, h1.2, h2]
      rw [e]
      clear e h1
      generalize Civ.len y m = n at hL ⊢
      go_enter Tryd.func40, Tryd.ntmps40
      go_wp2_with fail
      refine (hY _).mono ?_
      rintro e w1 ⟨rfl, rfl⟩
      go_wp2_with fail
      refine (hL _).mono ?_
      rintro e w1 ⟨rfl, rfl⟩
      go_wp2_with fail
      go_ret
      exact ⟨rfl, rfl⟩
    · have e : decide (Civ.valid y m d) = false := decide_eq_false (fun h => h2 h.2.2.1)
      rw [e]
      clear e h1 hL
      go_enter Tryd.func40, Tryd.ntmps40
      go_wp2_with fail
      refine (hY _).mono ?_
      rintro e w1 ⟨rfl, rfl⟩
      go_wp2_with fail
      go_ret
      exact ⟨rfl, rfl⟩
  · rw [decide_eq_false h1] at hY
    have e : decide (Civ.valid y m d) = false := decide_eq_false (fun h => h1 ⟨h.1, h.2.1⟩)
    rw [e]
    clear e h1 hL
    go_enter Tryd.func40, Tryd.ntmps40
    go_wp2_with fail
    refine (hY _).mono ?_
    rintro e w1 ⟨rfl, rfl⟩
    go_wp2_with fail
    go_ret
    exact ⟨rfl, rfl⟩
theorem days_yes (y m d : Int) (h : Civ.valid y m d) (w : World) : Calls Tryd.prog 25 #[.int .i64 y, .int .i64 m, .int .i64 d] w fun e w' => e = .returned (.tuple #[.int .i64 (Civ.num y m d), .int .i64 0]) ∧ w = w' := by
  have hV := valid_any y m d
  rw [decide_eq_true h] at hV
  have hm := Civ.valid_m h
  have hl := Civ.len_pos y m hm.1 hm.2
  obtain ⟨p, q, r, s⟩ := h
  have hN := number_any y m d (by omega) (by omega) hm.1 hm.2 (by omega) (by omega)
  clear p q r s hm hl
  go_enter Tryd.func25, Tryd.ntmps25
  go_wp2_with fail
  refine (hV _).mono ?_
  rintro e w1 ⟨rfl, rfl⟩
  go_wp2_with fail
  refine (hN _).mono ?_
  rintro e w1 ⟨rfl, rfl⟩
  go_wp2_with fail
  go_ret2
  exact ⟨rfl, rfl⟩
theorem days_no (y m d : Int) (h : ¬ Civ.valid y m d) (w : World) : Calls Tryd.prog 25 #[.int .i64 y, .int .i64 m, .int .i64 d] w fun e w' => e = .returned (.tuple #[.int .i64 0, .int .i64 1]) ∧ w = w' := by
  have hV := valid_any y m d
  rw [decide_eq_false h] at hV
  clear h
  go_enter Tryd.func25, Tryd.ntmps25
  go_wp2_with fail
  refine (hV _).mono ?_
  rintro e w1 ⟨rfl, rfl⟩
  go_wp2_with fail
  go_ret2
  exact ⟨rfl, rfl⟩
end Go.Proofs.YtkeeocidinnnnaaDoor
