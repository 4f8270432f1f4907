/- vokref1: Leap, Length, Valid, down, first, Days, Weekday, in, Date, May, Day: walked. -/
import Derived.Test.YtkeeocidinnnnaaDoorDate
namespace Go.Proofs.YtkeeocidinnnnaaDoor
open Go.RowKit
set_option linter.unusedVariables false
theorem rleap_any (y : Int) (w : World) : Calls Tryd.prog 60 #[.int .i64 y] w fun e w' => e = .returned (.bool (Civ.leap y)) ∧ w = w' := by
  have e : Civ.leap y = (decide (y % 4 = 0) && (decide (y % 100 ≠ 0) || decide (y % 400 = 0))) := rfl
  by_cases h4 : y % 4 = 0
  · have t4 := (tmod0 y 4).2 h4
    by_cases h1 : y % 100 = 0
    · have t1 := (tmod0 y 100).2 h1
      have e2 : Civ.leap y = (Int.tmod y 400 == 0) := by
        rw [e]
        by_cases h0 : y % 400 = 0
        · have t0 := (tmod0 y 400).2 h0
          simp [h4, h1, h0, t0]
        · have t0 : (Int.tmod y 400 == 0) = false := by rw [beq_eq_false_iff_ne]; exact fun h => h0 ((tmod0 y 400).1 h)
          rw [t0]; simp [h4, h1, h0]
      rw [e2]; clear e e2 h4 h1
      go_enter Tryd.func60, Tryd.ntmps60
      go_wp2_with fail
      go_ret
      exact ⟨rfl, rfl⟩
    · have t1 : (Int.tmod y 100 == 0) = false := by rw [beq_eq_false_iff_ne]; exact fun h => h1 ((tmod0 y 100).1 h)
      have t1b : (Int.tmod y 100 != 0) = true := by simp only [bne, t1]; rfl
      have t1c : ¬ Int.tmod y 100 = 0 := fun h => h1 ((tmod0 y 100).1 h)
      have e2 : Civ.leap y = true := by rw [e]; simp [h4, h1]
      rw [e2]; clear e e2 h4 h1
      go_enter Tryd.func60, Tryd.ntmps60
      go_wp2_with fail
      go_ret
      exact ⟨rfl, rfl⟩
  · have t4 : (Int.tmod y 4 == 0) = false := by rw [beq_eq_false_iff_ne]; exact fun h => h4 ((tmod0 y 4).1 h)
    have e2 : Civ.leap y = false := by rw [e]; simp [h4]
    rw [e2]; clear e e2 h4
    go_enter Tryd.func60, Tryd.ntmps60
    go_wp2_with fail
    go_ret
    exact ⟨rfl, rfl⟩
set_option maxRecDepth 100000 in
set_option maxHeartbeats 1000000 in
theorem rlen_any (y m : Int) (w : World) : Calls Tryd.prog 49 #[.int .i64 y, .int .i64 m] w fun e w' => e = .returned (.int .i64 (Civ.len y m)) ∧ w = w' := by
  by_cases h2 : m = 2
  · subst h2
    have hL := rleap_any y
    have e : Civ.len y 2 = if Civ.leap y then 29 else 28 := by unfold Civ.len Civ.lp; simp; split <;> rfl
    rw [e]
    clear e
    cases hl : Civ.leap y with
    | true =>
      rw [hl] at hL
      go_enter Tryd.func49, Tryd.ntmps49
      go_wp2_with fail
      refine (hL _).mono ?_
      rintro e w1 ⟨rfl, rfl⟩
      go_wp2_with fail
      go_ret
      exact ⟨rfl, rfl⟩
    | false =>
      rw [hl] at hL
      go_enter Tryd.func49, Tryd.ntmps49
      go_wp2_with fail
      refine (hL _).mono ?_
      rintro e w1 ⟨rfl, rfl⟩
      go_wp2_with fail
      go_ret
      exact ⟨rfl, rfl⟩
  · by_cases hm : m = 1 ∨ m = 3 ∨ m = 4 ∨ m = 5 ∨ m = 6 ∨ m = 7 ∨ m = 8 ∨ m = 9 ∨ m = 10 ∨ m = 11 ∨ m = 12
    · rcases hm with rfl | rfl | rfl | rfl | rfl | rfl | rfl | rfl | rfl | rfl | rfl
      all_goals
        clear h2
        go_enter Tryd.func49, Tryd.ntmps49
        go_wp2_with fail
        go_ret
        exact ⟨by simp [Civ.len], rfl⟩
    · have e : Civ.len y m = 0 := by unfold Civ.len; rw [if_neg (by omega), if_neg (by omega), if_neg (by omega)]
      rw [e]
      have n1 : (m == 1) = false := by simp; omega
      have n2 : (m == 2) = false := by simp; omega
      have n3 : (m == 3) = false := by simp; omega
      have n4 : (m == 4) = false := by simp; omega
      have n5 : (m == 5) = false := by simp; omega
      have n6 : (m == 6) = false := by simp; omega
      have n7 : (m == 7) = false := by simp; omega
      have n8 : (m == 8) = false := by simp; omega
      have n9 : (m == 9) = false := by simp; omega
      have na : (m == 10) = false := by simp; omega
      have nb : (m == 11) = false := by simp; omega
      have nc : (m == 12) = false := by simp; omega
      clear e h2 hm
      go_enter Tryd.func49, Tryd.ntmps49
      go_wp2_with fail
      go_ret
      exact ⟨rfl, rfl⟩
theorem rdown_4 (n : Int) (h1 : -9223372036854775808 ≤ n) (h2 : n ≤ 9223372036854775807) (w : World) : Calls Tryd.prog 43 #[.int .i64 n, .int .i64 4] w fun e w' => e = .returned (.int .i64 (n / 4)) ∧ w = w' := by
  have hb := Int.lt_tmod_of_pos n (b := 4) (by omega)
  have hb2 := Int.tmod_lt_of_pos n (b := 4) (by omega)
  have hd := Int.tmod_add_mul_tdiv n 4
  generalize ht : Int.tmod n 4 = r at *
  generalize hq : Int.tdiv n 4 = q at *
  have hqb1 : -4611686018427387904 ≤ q := by omega
  have hqb2 : q ≤ 4611686018427387904 := by omega
  by_cases hr : r < 0
  · have e1 : n / 4 = q - 1 := by omega
    rw [e1]
    clear e1 hd
    go_enter Tryd.func43, Tryd.ntmps43
    go_wp2_with fail
    go_ret
    exact ⟨rfl, rfl⟩
  · have e1 : n / 4 = q := by omega
    rw [e1]
    clear e1 hd
    go_enter Tryd.func43, Tryd.ntmps43
    go_wp2_with fail
    go_ret
    exact ⟨rfl, rfl⟩
theorem rdown_100 (n : Int) (h1 : -9223372036854775808 ≤ n) (h2 : n ≤ 9223372036854775807) (w : World) : Calls Tryd.prog 43 #[.int .i64 n, .int .i64 100] w fun e w' => e = .returned (.int .i64 (n / 100)) ∧ w = w' := by
  have hb := Int.lt_tmod_of_pos n (b := 100) (by omega)
  have hb2 := Int.tmod_lt_of_pos n (b := 100) (by omega)
  have hd := Int.tmod_add_mul_tdiv n 100
  generalize ht : Int.tmod n 100 = r at *
  generalize hq : Int.tdiv n 100 = q at *
  have hqb1 : -4611686018427387904 ≤ q := by omega
  have hqb2 : q ≤ 4611686018427387904 := by omega
  by_cases hr : r < 0
  · have e1 : n / 100 = q - 1 := by omega
    rw [e1]
    clear e1 hd
    go_enter Tryd.func43, Tryd.ntmps43
    go_wp2_with fail
    go_ret
    exact ⟨rfl, rfl⟩
  · have e1 : n / 100 = q := by omega
    rw [e1]
    clear e1 hd
    go_enter Tryd.func43, Tryd.ntmps43
    go_wp2_with fail
    go_ret
    exact ⟨rfl, rfl⟩
theorem rdown_400 (n : Int) (h1 : -9223372036854775808 ≤ n) (h2 : n ≤ 9223372036854775807) (w : World) : Calls Tryd.prog 43 #[.int .i64 n, .int .i64 400] w fun e w' => e = .returned (.int .i64 (n / 400)) ∧ w = w' := by
  have hb := Int.lt_tmod_of_pos n (b := 400) (by omega)
  have hb2 := Int.tmod_lt_of_pos n (b := 400) (by omega)
  have hd := Int.tmod_add_mul_tdiv n 400
  generalize ht : Int.tmod n 400 = r at *
  generalize hq : Int.tdiv n 400 = q at *
  have hqb1 : -4611686018427387904 ≤ q := by omega
  have hqb2 : q ≤ 4611686018427387904 := by omega
  by_cases hr : r < 0
  · have e1 : n / 400 = q - 1 := by omega
    rw [e1]
    clear e1 hd
    go_enter Tryd.func43, Tryd.ntmps43
    go_wp2_with fail
    go_ret
    exact ⟨rfl, rfl⟩
  · have e1 : n / 400 = q := by omega
    rw [e1]
    clear e1 hd
    go_enter Tryd.func43, Tryd.ntmps43
    go_wp2_with fail
    go_ret
    exact ⟨rfl, rfl⟩
theorem rdown_86400 (n : Int) (h1 : -9223372036854775808 ≤ n) (h2 : n ≤ 9223372036854775807) (w : World) : Calls Tryd.prog 43 #[.int .i64 n, .int .i64 86400] w fun e w' => e = .returned (.int .i64 (n / 86400)) ∧ w = w' := by
  have hb := Int.lt_tmod_of_pos n (b := 86400) (by omega)
  have hb2 := Int.tmod_lt_of_pos n (b := 86400) (by omega)
  have hd := Int.tmod_add_mul_tdiv n 86400
  generalize ht : Int.tmod n 86400 = r at *
  generalize hq : Int.tdiv n 86400 = q at *
  have hqb1 : -4611686018427387904 ≤ q := by omega
  have hqb2 : q ≤ 4611686018427387904 := by omega
  by_cases hr : r < 0
  · have e1 : n / 86400 = q - 1 := by omega
    rw [e1]
    clear e1 hd
    go_enter Tryd.func43, Tryd.ntmps43
    go_wp2_with fail
    go_ret
    exact ⟨rfl, rfl⟩
  · have e1 : n / 86400 = q := by omega
    rw [e1]
    clear e1 hd
    go_enter Tryd.func43, Tryd.ntmps43
    go_wp2_with fail
    go_ret
    exact ⟨rfl, rfl⟩
theorem rfst_any (y : Int) (h1 : -300 ≤ y) (h2 : y ≤ 20000) (w : World) : Calls Tryd.prog 48 #[.int .i64 y] w fun e w' => e = .returned (.int .i64 (Civ.fst y)) ∧ w = w' := by
  have e : Civ.fst y = 365 * (y - 1) + (y - 1) / 4 - (y - 1) / 100 + (y - 1) / 400 - 719162 := rfl
  rw [e]
  clear e
  have a4 := rdown_4 (y - 1) (by omega) (by omega)
  have a100 := rdown_100 (y - 1) (by omega) (by omega)
  have a400 := rdown_400 (y - 1) (by omega) (by omega)
  have b4 : -100 ≤ (y - 1) / 4 ∧ (y - 1) / 4 ≤ 5000 := by omega
  have b100 : -100 ≤ (y - 1) / 100 ∧ (y - 1) / 100 ≤ 5000 := by omega
  have b400 : -100 ≤ (y - 1) / 400 ∧ (y - 1) / 400 ≤ 5000 := by omega
  generalize (y - 1) / 4 = k4 at *
  generalize (y - 1) / 100 = k100 at *
  generalize (y - 1) / 400 = k400 at *
  obtain ⟨b41, b42⟩ := b4
  obtain ⟨b11, b12⟩ := b100
  obtain ⟨b01, b02⟩ := b400
  go_enter Tryd.func48, Tryd.ntmps48
  go_wp2_with fail
  refine (a4 _).mono ?_
  rintro e w1 ⟨rfl, rfl⟩
  go_wp2_with fail
  refine (a100 _).mono ?_
  rintro e w1 ⟨rfl, rfl⟩
  go_wp2_with fail
  refine (a400 _).mono ?_
  rintro e w1 ⟨rfl, rfl⟩
  go_wp2_with fail
  go_ret
  exact ⟨rfl, rfl⟩
theorem rvalid_any (y m d : Int) (w : World) : Calls Tryd.prog 52 #[.int .i64 y, .int .i64 m, .int .i64 d] w fun e w' => e = .returned (.bool (decide (Civ.valid y m d))) ∧ w = w' := by
  have hL := rlen_any y m
  have e0 : ∀ (p : Prop) [Decidable p], (¬ p) → decide p = false := fun p _ h => decide_eq_false h
  by_cases h1 : 1 ≤ y
  · by_cases h2 : y ≤ 9999
    · by_cases h3 : 1 ≤ d
      · have e : decide (Civ.valid y m d) = decide (d ≤ Civ.len y m) := by
          unfold Civ.valid
          simp [h1, h2, h3]
        rw [e]
        clear e e0
        generalize Civ.len y m = n at hL ⊢
        go_enter Tryd.func52, Tryd.ntmps52
        go_wp2_with fail
        refine (hL _).mono ?_
        rintro e w1 ⟨rfl, rfl⟩
        go_wp2_with fail
        go_ret
        exact ⟨rfl, rfl⟩
      · rw [e0 _ (fun h : Civ.valid y m d => h3 h.2.2.1)]
        have t3 := decide_eq_false h3
        clear e0 hL
        go_enter Tryd.func52, Tryd.ntmps52
        go_wp2_with fail
        go_ret
        exact ⟨rfl, rfl⟩
    · rw [e0 _ (fun h : Civ.valid y m d => h2 h.2.1)]
      have t3 := decide_eq_false h2
      clear e0 hL
      go_enter Tryd.func52, Tryd.ntmps52
      go_wp2_with fail
      go_ret
      exact ⟨rfl, rfl⟩
  · rw [e0 _ (fun h : Civ.valid y m d => h1 h.1)]
    have t3 := decide_eq_false h1
    clear e0 hL
    go_enter Tryd.func52, Tryd.ntmps52
    go_wp2_with fail
    go_ret
    exact ⟨rfl, rfl⟩
set_option maxHeartbeats 1000000 in
theorem rdays_yes (y m d : Int) (h : Civ.valid y m d) (w : World) : Calls Tryd.prog 42 #[.int .i64 y, .int .i64 m, .int .i64 d] w fun e w' => e = .returned (.tuple #[.int .i64 (Civ.num y m d), .int .i64 0]) ∧ w = w' := by
  have hV := rvalid_any y m d
  rw [decide_eq_true h] at hV
  obtain ⟨m1, m2⟩ := Civ.valid_m h
  have hl := Civ.len_pos y m m1 m2
  obtain ⟨p, q, r, s⟩ := h
  have hF := rfst_any y (by omega) (by omega)
  have hf := fst_bd y (by omega) (by omega)
  have c1 : Civ.cum y 1 = 0 := by simp [Civ.cum]
  have hE := Lib.hid (show Civ.fst y + d - 1 + Civ.cum y m = Civ.num y m d by unfold Civ.num; omega)
  have hC1 := Lib.hid c1
  generalize Civ.num y m d = nn at hE ⊢
  generalize Civ.fst y = f at hF hf hE
  obtain ⟨f1, f2⟩ := hf
  have d2 : d ≤ 31 := by omega
  clear hl c1 s
  go_enter Tryd.func42, Tryd.ntmps42
  go_wp2_with fail
  refine (hV _).mono ?_
  rintro e w1 ⟨rfl, rfl⟩
  go_wp2_with fail
  refine (hF _).mono ?_
  rintro e w1 ⟨rfl, rfl⟩
  go_wp2_with fail
  clear hV hF
  go_loopw [8, 9] (fun nv iv wz => ∃ i : Int, nv = .int .i64 (f + d - 1 + Civ.cum y i) ∧ iv = .int .i64 i ∧ 1 ≤ i ∧ i ≤ m ∧ wz = w) (fun nv iv _ => (m - intOf iv).toNat)
  case atStart => exact ⟨1, by rw [hC1.out]; simp, rfl, by omega, by omega, rfl⟩
  case round =>
    obtain ⟨i, rfl, rfl, i1, i2, rfl⟩ := hrel
    have hL := rlen_any y i
    have hlp := Civ.lp01 y
    have cb := Civ.cum_bd y i (by omega) (by omega)
    have lb := Civ.len_pos y i (by omega) (by omega)
    have cs := Lib.hid (Civ.cum_succ y i (by omega) (by omega))
    by_cases hc : i < m
    · generalize hci : Civ.cum y i = ci at *
      generalize Civ.len y i = li at *
      obtain ⟨cb1, cb2⟩ := cb
      obtain ⟨lb1, lb2⟩ := lb
      have cb3 : ci ≤ 366 := by omega
      clear hci hlp cb2 hC1
      go_wp2_with fail
      refine (hL _).mono ?_
      rintro e w1 ⟨rfl, rfl⟩
      go_wp2_with fail
      go_roundw
      case rel => exact ⟨i + 1, by rw [cs.out, Int.add_assoc], rfl, by omega, by omega, trivial⟩
      case measure => simp [intOf]; omega
    · obtain rfl : i = m := by omega
      clear hL cs lb cb hlp hC1 hc
      go_wp2_with fail
      go_ret2
      exact ⟨by rw [← hE.out]; rfl, rfl⟩
theorem rdays_no (y m d : Int) (h : ¬ Civ.valid y m d) (w : World) : Calls Tryd.prog 42 #[.int .i64 y, .int .i64 m, .int .i64 d] w fun e w' => e = .returned (.tuple #[.int .i64 0, .int .i64 1]) ∧ w = w' := by
  have hV := rvalid_any y m d
  rw [decide_eq_false h] at hV
  clear h
  go_enter Tryd.func42, Tryd.ntmps42
  go_wp2_with fail
  refine (hV _).mono ?_
  rintro e w1 ⟨rfl, rfl⟩
  go_wp2_with fail
  go_ret2
  exact ⟨rfl, rfl⟩
theorem rin_yes (n : Int) (h1 : -719162 ≤ n) (h2 : n ≤ 2932896) (w : World) : Calls Tryd.prog 47 #[.int .i64 n] w fun e w' => e = .returned (.bool true) ∧ w = w' := by
  have a1 := rfst_any 1 (by omega) (by omega)
  have a2 := rfst_any 10000 (by omega) (by omega)
  rw [show Civ.fst 1 = -719162 by decide] at a1
  rw [show Civ.fst 10000 = 2932897 by decide] at a2
  have h3 : n < 2932897 := by omega
  go_enter Tryd.func47, Tryd.ntmps47
  go_wp2_with fail
  refine (a1 _).mono ?_
  rintro e w1 ⟨rfl, rfl⟩
  go_wp2_with fail
  refine (a2 _).mono ?_
  rintro e w1 ⟨rfl, rfl⟩
  go_wp2_with fail
  go_ret
  exact ⟨rfl, rfl⟩
set_option maxHeartbeats 2000000 in
theorem rdate_any (n : Int) (h1 : -719162 ≤ n) (h2 : n ≤ 2932896) (w : World) :
    Calls Tryd.prog 34 #[.int .i64 n] w fun e w' => ∃ a b c, Civ.valid a b c ∧ Civ.num a b c = n ∧ e = .returned (.tuple #[.int .i64 a, .int .i64 b, .int .i64 c, .int .i64 0]) ∧ w = w' := by
  have hI := rin_yes n h1 h2
  have a1 := rfst_any 1 (by omega) (by omega)
  have e1 : Civ.fst 1 = -719162 := by decide
  rw [e1] at a1
  have e2 := Lib.hid (show Civ.fst 10000 = 2932897 by decide)
  have hq : Int.tdiv (n + 719162) 366 = (n + 719162) / 366 := Int.tdiv_eq_ediv_of_nonneg (by omega)
  have hst := Lib.hid (show 1 ≤ (n + 719162) / 366 + 1 ∧ (n + 719162) / 366 + 1 ≤ 9999 ∧ Civ.fst ((n + 719162) / 366 + 1) ≤ n by unfold Civ.fst; omega)
  have hz : IntKind.i64.wrap (n - -719162) = n + 719162 := by rw [show n - -719162 = n + 719162 by omega]; exact wi64 (by omega) (by omega)
  have hz2 : n - -719162 = n + 719162 := by omega
  have g1 : 0 ≤ (n + 719162) / 366 := by omega
  have g2 : (n + 719162) / 366 ≤ 9998 := by omega
  generalize hq0 : (n + 719162) / 366 = q at *
  have hq0h := Lib.hid hq0
  clear hq0 e1
  go_enter Tryd.func34, Tryd.ntmps34
  go_wp2_with fail
  refine (hI _).mono ?_
  rintro e w1 ⟨rfl, rfl⟩
  go_wp2_with fail
  refine (a1 _).mono ?_
  rintro e w1 ⟨rfl, rfl⟩
  go_wp2_with fail
  clear hI a1
  go_loopw [6] (fun yv wr => ∃ y : Int, yv = .int .i64 y ∧ 1 ≤ y ∧ y ≤ 9999 ∧ Civ.fst y ≤ n ∧ wr = w) (fun yv _ => (10000 - intOf yv).toNat)
  case atStart => exact ⟨_, rfl, hst.out.1, hst.out.2.1, hst.out.2.2, rfl⟩
  case round =>
    clear hst hz hz2 hq hq0h
    obtain ⟨y, rfl, hy1, hy2, hy, rfl⟩ := hrel
    have hN := rfst_any (y + 1) (by omega) (by omega)
    have hb := fst_bd (y + 1) (by omega) (by omega)
    by_cases hc : Civ.fst (y + 1) ≤ n
    · have hy3 : y + 1 ≤ 9999 := by
        by_cases h : y + 1 ≤ 9999
        · exact h
        · have := Civ.fst_mono (show (10000 : Int) ≤ y + 1 by omega)
          have := e2.out
          omega
      have hch := Lib.hid hc
      clear hy
      generalize hfe : Civ.fst (y + 1) = f at hN hb hc
      clear hfe
      go_wp2_with fail
      refine (hN _).mono ?_
      rintro e w1 ⟨rfl, rfl⟩
      go_wp2_with fail
      go_roundw
      case rel => exact ⟨y + 1, rfl, by omega, by omega, hch.out, trivial⟩
      case measure => simp [intOf]; omega
    · have hM := rfst_any y (by omega) (by omega)
      have hb2 := fst_bd y (by omega) (by omega)
      have hs := Civ.fst_succ y
      have h13 := Civ.cum13 y
      have c1 : Civ.cum y 1 = 0 := by simp [Civ.cum]
      have hlp := Civ.lp01 y
      have hD := Lib.hid (show n - Civ.fst y < Civ.cum y 13 by omega)
      have hC1 := Lib.hid c1
      generalize hfe : Civ.fst (y + 1) = f at hN hb hc hs
      generalize hfe2 : Civ.fst y = f0 at hM hb2 hy hs hD
      have hF0 := Lib.hid hfe2
      have hd1 : n - f0 ≤ 366 := by omega
      clear hfe hfe2 hs h13 c1 hlp
      go_wp2_with fail
      refine (hN _).mono ?_
      rintro e w1 ⟨rfl, rfl⟩
      go_wp2_with fail
      refine (hM _).mono ?_
      rintro e w1 ⟨rfl, rfl⟩
      go_wp2_with fail
      clear hN hM hb hb2 hc
      go_loopw [7, 8] (fun dv mv wz => ∃ m D : Int, dv = .int .i64 D ∧ mv = .int .i64 m ∧ 1 ≤ m ∧ m ≤ 12 ∧ D = n - f0 - Civ.cum y m ∧ 0 ≤ D ∧ D ≤ 366 ∧ wz = wr) (fun dv mv _ => (13 - intOf mv).toNat)
      case atStart => exact ⟨1, n - f0, rfl, rfl, by omega, by omega, by rw [hC1.out]; omega, by omega, by omega, rfl⟩
      case round =>
        obtain ⟨m, D, rfl, rfl, m1, m2, hDe, D1, D2, rfl⟩ := hrel
        have hL := rlen_any y m
        have lb := Civ.len_pos y m m1 m2
        have cs := Civ.cum_succ y m m1 m2
        by_cases hg : Civ.len y m ≤ D
        · have m3 : m ≤ 11 := by
            by_cases h : m ≤ 11
            · exact h
            · obtain rfl : m = 12 := by omega
              have := hD.out
              have e13 : Civ.cum y (12 + 1) = Civ.cum y 13 := rfl
              omega
          have hnx := Lib.hid (show D - Civ.len y m = n - f0 - Civ.cum y (m + 1) by omega)
          clear hDe cs
          generalize Civ.len y m = li at *
          obtain ⟨lb1, lb2⟩ := lb
          go_wp2_with fail
          refine (hL _).mono ?_
          rintro e w1 ⟨rfl, rfl⟩
          go_wp2_with fail
          refine (hL _).mono ?_
          rintro e w1 ⟨rfl, rfl⟩
          go_wp2_with fail
          go_roundw
          case rel => exact ⟨m + 1, D - li, rfl, rfl, by omega, by omega, hnx.out, by omega, by omega, trivial⟩
          case measure => simp [intOf]; omega
        · have hfin := Lib.hid (show Civ.valid y m (D + 1) ∧ Civ.num y m (D + 1) = n by
            have := hF0.out
            refine ⟨⟨hy1, hy2, by omega, by omega⟩, ?_⟩
            unfold Civ.num
            omega)
          clear hDe cs
          generalize Civ.len y m = li at *
          obtain ⟨lb1, lb2⟩ := lb
          go_wp2_with fail
          refine (hL _).mono ?_
          rintro e w1 ⟨rfl, rfl⟩
          go_wp2_with fail
          (try simp only [Exit.inBlock, Exit.then]); refine bodyPost_ret (results_four rfl _ _ _) rfl ?_
          exact ⟨y, m, D + 1, hfin.out.1, hfin.out.2, rfl, rfl⟩
theorem rmay_any (t : Int) (w : World) : Calls Tryd.prog 31 #[.int .i64 t] w fun e w' => e = .returned (.bool (decide (MayT t))) ∧ w = w' := by
  by_cases h1 : -62135596800 ≤ t
  · by_cases h2 : t < 253402300800
    · rw [decide_eq_true (show MayT t from ⟨h1, by omega⟩)]
      go_enter Tryd.func31, Tryd.ntmps31
      go_wp2_with fail
      go_ret
      exact ⟨rfl, rfl⟩
    · rw [decide_eq_false (fun h : MayT t => h2 (by have := h.2; omega))]
      have e := decide_eq_false h2
      go_enter Tryd.func31, Tryd.ntmps31
      go_wp2_with fail
      go_ret
      exact ⟨rfl, rfl⟩
  · rw [decide_eq_false (fun h : MayT t => h1 h.1)]
    have e := decide_eq_false h1
    go_enter Tryd.func31, Tryd.ntmps31
    go_wp2_with fail
    go_ret
    exact ⟨rfl, rfl⟩
theorem rday_any (t : Int) (h1 : -9223372036854775808 ≤ t) (h2 : t ≤ 9223372036854775807) (w : World) : Calls Tryd.prog 28 #[.int .i64 t] w fun e w' => e = .returned (.tuple #[.int .i64 (t / 86400), .int .i64 (t % 86400)]) ∧ w = w' := by
  have hD := rdown_86400 t h1 h2
  have hb := Int.lt_tmod_of_pos t (b := 86400) (by omega)
  have hb2 := Int.tmod_lt_of_pos t (b := 86400) (by omega)
  have hd := Int.tmod_add_mul_tdiv t 86400
  generalize ht : Int.tmod t 86400 = r at *
  generalize hq : Int.tdiv t 86400 = q at *
  by_cases hr : r < 0
  · have e2 : t % 86400 = r + 86400 := by omega
    rw [e2]
    clear e2 hd
    generalize t / 86400 = g at *
    go_enter Tryd.func28, Tryd.ntmps28
    go_wp2_with fail
    refine (hD _).mono ?_
    rintro e w1 ⟨rfl, rfl⟩
    go_wp2_with fail
    go_ret2
    exact ⟨rfl, rfl⟩
  · have e2 : t % 86400 = r := by omega
    rw [e2]
    clear e2 hd
    generalize t / 86400 = g at *
    go_enter Tryd.func28, Tryd.ntmps28
    go_wp2_with fail
    refine (hD _).mono ?_
    rintro e w1 ⟨rfl, rfl⟩
    go_wp2_with fail
    go_ret2
    exact ⟨rfl, rfl⟩
end Go.Proofs.YtkeeocidinnnnaaDoor
