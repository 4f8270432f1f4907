/- vokref1.DurText. -/
import Derived.Test.YtkeeocidinnnnaaDoorDec
namespace Go.Proofs.YtkeeocidinnnnaaDoor
open Go.RowKit
set_option linter.unusedVariables false
theorem dur_no2 (n : Int) (h : n % 604800 ≠ 0) : dur n = [80] ++ part (n / 86400) 68 ++ (if 0 < n % 86400 then [84] ++ part (n % 86400 / 3600) 72 ++ part (n % 86400 / 60 % 60) 77 ++ part (n % 86400 % 60) 83 else []) := if_neg h
theorem dur_week (n : Int) (h : n % 604800 = 0) : dur n = [80] ++ Lib.itoa (n / 604800) ++ [87] := if_pos h
theorem rdur_no (n : Int) (h : ¬ (1 ≤ n ∧ n ≤ 2147483648)) (w : World) :
    Calls Tryd.prog 19 #[.int .i64 n] w fun e w' => e = .returned (.tuple #[.string ⟨#[]⟩, .int .i64 1]) ∧ w = w' := by
  by_cases k : n < 1
  · have kt := decide_eq_true k
    go_enter Tryd.func19, Tryd.ntmps19
    go_wp2_with fail
    go_ret2
    exact ⟨rfl, rfl⟩
  · have kt := decide_eq_false k
    have k2 := decide_eq_true (show 2147483648 < n by omega)
    go_enter Tryd.func19, Tryd.ntmps19
    go_wp2_with fail
    go_ret2
    exact ⟨rfl, rfl⟩
set_option maxRecDepth 100000 in
set_option maxHeartbeats 4000000 in
theorem rdur_yes (n : Int) (h1 : 1 ≤ n) (h2 : n ≤ 2147483648) (w : World) :
    Calls Tryd.prog 19 #[.int .i64 n] w fun e w' => e = .returned (.tuple #[.string ⟨(dur n).toArray⟩, .int .i64 0]) ∧ Below w.heap.size w w' := by
  have hba := ba_app
  have k1 : decide (n < 1) = false := decide_eq_false (by omega)
  have k2 : decide (2147483648 < n) = false := decide_eq_false (by omega)
  have e1 : Int.tmod n 604800 = n % 604800 := Int.tmod_eq_emod_of_nonneg (by omega)
  have e2 : Int.tdiv n 604800 = n / 604800 := Int.tdiv_eq_ediv_of_nonneg (by omega)
  have e3 : Int.tdiv n 86400 = n / 86400 := Int.tdiv_eq_ediv_of_nonneg (by omega)
  have e4 : Int.tmod n 86400 = n % 86400 := Int.tmod_eq_emod_of_nonneg (by omega)
  by_cases q : n % 604800 = 0
  · rw [dur_week n q]
    have qt : (n % 604800 == 0) = true := by simpa using q
    have hW := dec_any (n / 604800) (by omega) (by omega)
    have lW := itoa_len (n / 604800) (by omega) (by omega)
    generalize Lib.itoa (n / 604800) = W at hW lW ⊢
    have hno0 : ¬ (9223372036854775807 < 1 + W.length) := by omega
    have hno1 : ¬ (9223372036854775807 < W.length + 1 + 1) := by omega
    clear lW
    go_enter Tryd.func19, Tryd.ntmps19
    go_wp2_with fail
    refine (hW _).mono ?_
    rintro e wz ⟨rfl, b⟩
    go_wp2_with fail
    go_ret2
    exact ⟨by simp, b⟩
  · have qt : (n % 604800 == 0) = false := by simpa using q
    have hV := dur_no2 n q
    have r1 : 0 ≤ n % 86400 := by omega
    have r2 : n % 86400 < 86400 := by omega
    have hD := dec_any (n / 86400) (by omega) (by omega)
    have lD := itoa_len (n / 86400) (by omega) (by omega)
    have pD : part (n / 86400) 68 = if n / 86400 = 0 then [] else Lib.itoa (n / 86400) ++ [68] := rfl
    generalize part (n / 86400) 68 = PD at pD hV
    generalize Lib.itoa (n / 86400) = D at hD lD pD
    by_cases kD : 86400 ≤ n
    · have kDt := decide_eq_true kD
      rw [if_neg (show ¬ n / 86400 = 0 by omega)] at pD
      subst pD
      have g1 : ¬ (9223372036854775807 < D.length + 1) := by omega
      have g2 : ¬ (9223372036854775807 < 1 + (D.length + 1)) := by omega
      go_enter Tryd.func19, Tryd.ntmps19
      go_wp2_with fail
      have b := Below.refl w.heap.size w
      refine (hD _).mono ?_
      rintro e wz ⟨rfl, bb⟩
      replace b := b.trans (bb.mono b.size)
      clear bb
      by_cases z : n % 86400 = 0
      · have zt : (n % 86400 == 0) = true := by rw [z]; rfl
        rw [if_neg (by omega)] at hV
        go_wp2_with fail
        go_ret2
        rw [hV]
        exact ⟨by simp, b⟩
      · have zt : (n % 86400 == 0) = false := by rw [beq_eq_false_iff_ne]; exact z
        rw [if_pos (by omega)] at hV
        generalize n % 86400 = r at *
        have f1 : Int.tdiv r 3600 = r / 3600 := Int.tdiv_eq_ediv_of_nonneg (by omega)
        have f2 : Int.tdiv r 60 = r / 60 := Int.tdiv_eq_ediv_of_nonneg (by omega)
        have f3 : Int.tmod (r / 60) 60 = r / 60 % 60 := Int.tmod_eq_emod_of_nonneg (by omega)
        have f4 : Int.tmod r 60 = r % 60 := Int.tmod_eq_emod_of_nonneg (by omega)
        have hH := dec_any (r / 3600) (by omega) (by omega)
        have lH := itoa_len (r / 3600) (by omega) (by omega)
        have pH : part (r / 3600) 72 = if r / 3600 = 0 then [] else Lib.itoa (r / 3600) ++ [72] := rfl
        generalize part (r / 3600) 72 = PH at pH hV
        generalize Lib.itoa (r / 3600) = H at hH lH pH
        have hM := dec_any (r / 60 % 60) (by omega) (by omega)
        have lM := itoa_len (r / 60 % 60) (by omega) (by omega)
        have pM : part (r / 60 % 60) 77 = if r / 60 % 60 = 0 then [] else Lib.itoa (r / 60 % 60) ++ [77] := rfl
        generalize part (r / 60 % 60) 77 = PM at pM hV
        generalize Lib.itoa (r / 60 % 60) = M at hM lM pM
        have hX := dec_any (r % 60) (by omega) (by omega)
        have lX := itoa_len (r % 60) (by omega) (by omega)
        have pX : part (r % 60) 83 = if r % 60 = 0 then [] else Lib.itoa (r % 60) ++ [83] := rfl
        generalize part (r % 60) 83 = PX at pX hV
        generalize Lib.itoa (r % 60) = X at hX lX pX
        by_cases kH : 3600 ≤ r
        · have kHt := decide_eq_true kH
          rw [if_neg (show ¬ r / 3600 = 0 by omega)] at pH
          subst pH
          have g1 : ¬ (9223372036854775807 < H.length + 1) := by omega
          have g2 : ¬ (9223372036854775807 < 1 + (H.length + 1)) := by omega
          go_wp2_with fail
          refine (hH _).mono ?_
          rintro e wz ⟨rfl, bb⟩
          replace b := b.trans (bb.mono b.size)
          clear bb
          by_cases kM : 0 < r / 60 % 60
          · have kMt := decide_eq_true kM
            rw [if_neg (show ¬ r / 60 % 60 = 0 by omega)] at pM
            subst pM
            have g1 : ¬ (9223372036854775807 < M.length + 1) := by omega
            have g2 : ¬ (9223372036854775807 < 1 + (M.length + 1)) := by omega
            go_wp2_with fail
            refine (hM _).mono ?_
            rintro e wz ⟨rfl, bb⟩
            replace b := b.trans (bb.mono b.size)
            clear bb
            by_cases kX : 0 < r % 60
            · have kXt := decide_eq_true kX
              rw [if_neg (show ¬ r % 60 = 0 by omega)] at pX
              subst pX
              have g1 : ¬ (9223372036854775807 < X.length + 1) := by omega
              have g2 : ¬ (9223372036854775807 < 1 + (X.length + 1)) := by omega
              go_wp2_with fail
              refine (hX _).mono ?_
              rintro e wz ⟨rfl, bb⟩
              replace b := b.trans (bb.mono b.size)
              clear bb
              go_wp2_with fail
              go_ret2
              rw [hV]
              exact ⟨by simp, b⟩
            · have kXt := decide_eq_false kX
              rw [if_pos (show r % 60 = 0 by omega)] at pX
              subst pX
              go_wp2_with fail
              go_ret2
              rw [hV]
              exact ⟨by simp, b⟩
          · have kMt := decide_eq_false kM
            rw [if_pos (show r / 60 % 60 = 0 by omega)] at pM
            subst pM
            by_cases kX : 0 < r % 60
            · have kXt := decide_eq_true kX
              rw [if_neg (show ¬ r % 60 = 0 by omega)] at pX
              subst pX
              have g1 : ¬ (9223372036854775807 < X.length + 1) := by omega
              have g2 : ¬ (9223372036854775807 < 1 + (X.length + 1)) := by omega
              go_wp2_with fail
              refine (hX _).mono ?_
              rintro e wz ⟨rfl, bb⟩
              replace b := b.trans (bb.mono b.size)
              clear bb
              go_wp2_with fail
              go_ret2
              rw [hV]
              exact ⟨by simp, b⟩
            · have kXt := decide_eq_false kX
              rw [if_pos (show r % 60 = 0 by omega)] at pX
              subst pX
              go_wp2_with fail
              go_ret2
              rw [hV]
              exact ⟨by simp, b⟩
        · have kHt := decide_eq_false kH
          rw [if_pos (show r / 3600 = 0 by omega)] at pH
          subst pH
          by_cases kM : 0 < r / 60 % 60
          · have kMt := decide_eq_true kM
            rw [if_neg (show ¬ r / 60 % 60 = 0 by omega)] at pM
            subst pM
            have g1 : ¬ (9223372036854775807 < M.length + 1) := by omega
            have g2 : ¬ (9223372036854775807 < 1 + (M.length + 1)) := by omega
            go_wp2_with fail
            refine (hM _).mono ?_
            rintro e wz ⟨rfl, bb⟩
            replace b := b.trans (bb.mono b.size)
            clear bb
            by_cases kX : 0 < r % 60
            · have kXt := decide_eq_true kX
              rw [if_neg (show ¬ r % 60 = 0 by omega)] at pX
              subst pX
              have g1 : ¬ (9223372036854775807 < X.length + 1) := by omega
              have g2 : ¬ (9223372036854775807 < 1 + (X.length + 1)) := by omega
              go_wp2_with fail
              refine (hX _).mono ?_
              rintro e wz ⟨rfl, bb⟩
              replace b := b.trans (bb.mono b.size)
              clear bb
              go_wp2_with fail
              go_ret2
              rw [hV]
              exact ⟨by simp, b⟩
            · have kXt := decide_eq_false kX
              rw [if_pos (show r % 60 = 0 by omega)] at pX
              subst pX
              go_wp2_with fail
              go_ret2
              rw [hV]
              exact ⟨by simp, b⟩
          · have kMt := decide_eq_false kM
            rw [if_pos (show r / 60 % 60 = 0 by omega)] at pM
            subst pM
            by_cases kX : 0 < r % 60
            · have kXt := decide_eq_true kX
              rw [if_neg (show ¬ r % 60 = 0 by omega)] at pX
              subst pX
              have g1 : ¬ (9223372036854775807 < X.length + 1) := by omega
              have g2 : ¬ (9223372036854775807 < 1 + (X.length + 1)) := by omega
              go_wp2_with fail
              refine (hX _).mono ?_
              rintro e wz ⟨rfl, bb⟩
              replace b := b.trans (bb.mono b.size)
              clear bb
              go_wp2_with fail
              go_ret2
              rw [hV]
              exact ⟨by simp, b⟩
            · have kXt := decide_eq_false kX
              rw [if_pos (show r % 60 = 0 by omega)] at pX
              subst pX
              exact absurd z (by omega)
    · have kDt := decide_eq_false kD
      rw [if_pos (show n / 86400 = 0 by omega)] at pD
      subst pD
      by_cases z : n % 86400 = 0
      · have zt : (n % 86400 == 0) = true := by rw [z]; rfl
        rw [if_neg (by omega)] at hV
        exact absurd z (by omega)
      · have zt : (n % 86400 == 0) = false := by rw [beq_eq_false_iff_ne]; exact z
        rw [if_pos (by omega)] at hV
        generalize n % 86400 = r at *
        have f1 : Int.tdiv r 3600 = r / 3600 := Int.tdiv_eq_ediv_of_nonneg (by omega)
        have f2 : Int.tdiv r 60 = r / 60 := Int.tdiv_eq_ediv_of_nonneg (by omega)
        have f3 : Int.tmod (r / 60) 60 = r / 60 % 60 := Int.tmod_eq_emod_of_nonneg (by omega)
        have f4 : Int.tmod r 60 = r % 60 := Int.tmod_eq_emod_of_nonneg (by omega)
        have hH := dec_any (r / 3600) (by omega) (by omega)
        have lH := itoa_len (r / 3600) (by omega) (by omega)
        have pH : part (r / 3600) 72 = if r / 3600 = 0 then [] else Lib.itoa (r / 3600) ++ [72] := rfl
        generalize part (r / 3600) 72 = PH at pH hV
        generalize Lib.itoa (r / 3600) = H at hH lH pH
        have hM := dec_any (r / 60 % 60) (by omega) (by omega)
        have lM := itoa_len (r / 60 % 60) (by omega) (by omega)
        have pM : part (r / 60 % 60) 77 = if r / 60 % 60 = 0 then [] else Lib.itoa (r / 60 % 60) ++ [77] := rfl
        generalize part (r / 60 % 60) 77 = PM at pM hV
        generalize Lib.itoa (r / 60 % 60) = M at hM lM pM
        have hX := dec_any (r % 60) (by omega) (by omega)
        have lX := itoa_len (r % 60) (by omega) (by omega)
        have pX : part (r % 60) 83 = if r % 60 = 0 then [] else Lib.itoa (r % 60) ++ [83] := rfl
        generalize part (r % 60) 83 = PX at pX hV
        generalize Lib.itoa (r % 60) = X at hX lX pX
        by_cases kH : 3600 ≤ r
        · have kHt := decide_eq_true kH
          rw [if_neg (show ¬ r / 3600 = 0 by omega)] at pH
          subst pH
          have g1 : ¬ (9223372036854775807 < H.length + 1) := by omega
          have g2 : ¬ (9223372036854775807 < 1 + (H.length + 1)) := by omega
          go_enter Tryd.func19, Tryd.ntmps19
          go_wp2_with fail
          have b := Below.refl w.heap.size w
          refine (hH _).mono ?_
          rintro e wz ⟨rfl, bb⟩
          replace b := b.trans (bb.mono b.size)
          clear bb
          by_cases kM : 0 < r / 60 % 60
          · have kMt := decide_eq_true kM
            rw [if_neg (show ¬ r / 60 % 60 = 0 by omega)] at pM
            subst pM
            have g1 : ¬ (9223372036854775807 < M.length + 1) := by omega
            have g2 : ¬ (9223372036854775807 < 1 + (M.length + 1)) := by omega
            go_wp2_with fail
            refine (hM _).mono ?_
            rintro e wz ⟨rfl, bb⟩
            replace b := b.trans (bb.mono b.size)
            clear bb
            by_cases kX : 0 < r % 60
            · have kXt := decide_eq_true kX
              rw [if_neg (show ¬ r % 60 = 0 by omega)] at pX
              subst pX
              have g1 : ¬ (9223372036854775807 < X.length + 1) := by omega
              have g2 : ¬ (9223372036854775807 < 1 + (X.length + 1)) := by omega
              go_wp2_with fail
              refine (hX _).mono ?_
              rintro e wz ⟨rfl, bb⟩
              replace b := b.trans (bb.mono b.size)
              clear bb
              go_wp2_with fail
              go_ret2
              rw [hV]
              exact ⟨by simp, b⟩
            · have kXt := decide_eq_false kX
              rw [if_pos (show r % 60 = 0 by omega)] at pX
              subst pX
              go_wp2_with fail
              go_ret2
              rw [hV]
              exact ⟨by simp, b⟩
          · have kMt := decide_eq_false kM
            rw [if_pos (show r / 60 % 60 = 0 by omega)] at pM
            subst pM
            by_cases kX : 0 < r % 60
            · have kXt := decide_eq_true kX
              rw [if_neg (show ¬ r % 60 = 0 by omega)] at pX
              subst pX
              have g1 : ¬ (9223372036854775807 < X.length + 1) := by omega
              have g2 : ¬ (9223372036854775807 < 1 + (X.length + 1)) := by omega
              go_wp2_with fail
              refine (hX _).mono ?_
              rintro e wz ⟨rfl, bb⟩
              replace b := b.trans (bb.mono b.size)
              clear bb
              go_wp2_with fail
              go_ret2
              rw [hV]
              exact ⟨by simp, b⟩
            · have kXt := decide_eq_false kX
              rw [if_pos (show r % 60 = 0 by omega)] at pX
              subst pX
              go_wp2_with fail
              go_ret2
              rw [hV]
              exact ⟨by simp, b⟩
        · have kHt := decide_eq_false kH
          rw [if_pos (show r / 3600 = 0 by omega)] at pH
          subst pH
          by_cases kM : 0 < r / 60 % 60
          · have kMt := decide_eq_true kM
            rw [if_neg (show ¬ r / 60 % 60 = 0 by omega)] at pM
            subst pM
            have g1 : ¬ (9223372036854775807 < M.length + 1) := by omega
            have g2 : ¬ (9223372036854775807 < 1 + (M.length + 1)) := by omega
            go_enter Tryd.func19, Tryd.ntmps19
            go_wp2_with fail
            have b := Below.refl w.heap.size w
            refine (hM _).mono ?_
            rintro e wz ⟨rfl, bb⟩
            replace b := b.trans (bb.mono b.size)
            clear bb
            by_cases kX : 0 < r % 60
            · have kXt := decide_eq_true kX
              rw [if_neg (show ¬ r % 60 = 0 by omega)] at pX
              subst pX
              have g1 : ¬ (9223372036854775807 < X.length + 1) := by omega
              have g2 : ¬ (9223372036854775807 < 1 + (X.length + 1)) := by omega
              go_wp2_with fail
              refine (hX _).mono ?_
              rintro e wz ⟨rfl, bb⟩
              replace b := b.trans (bb.mono b.size)
              clear bb
              go_wp2_with fail
              go_ret2
              rw [hV]
              exact ⟨by simp, b⟩
            · have kXt := decide_eq_false kX
              rw [if_pos (show r % 60 = 0 by omega)] at pX
              subst pX
              go_wp2_with fail
              go_ret2
              rw [hV]
              exact ⟨by simp, b⟩
          · have kMt := decide_eq_false kM
            rw [if_pos (show r / 60 % 60 = 0 by omega)] at pM
            subst pM
            by_cases kX : 0 < r % 60
            · have kXt := decide_eq_true kX
              rw [if_neg (show ¬ r % 60 = 0 by omega)] at pX
              subst pX
              have g1 : ¬ (9223372036854775807 < X.length + 1) := by omega
              have g2 : ¬ (9223372036854775807 < 1 + (X.length + 1)) := by omega
              go_enter Tryd.func19, Tryd.ntmps19
              go_wp2_with fail
              have b := Below.refl w.heap.size w
              refine (hX _).mono ?_
              rintro e wz ⟨rfl, bb⟩
              replace b := b.trans (bb.mono b.size)
              clear bb
              go_wp2_with fail
              go_ret2
              rw [hV]
              exact ⟨by simp, b⟩
            · have kXt := decide_eq_false kX
              rw [if_pos (show r % 60 = 0 by omega)] at pX
              subst pX
              exact absurd z (by omega)
end Go.Proofs.YtkeeocidinnnnaaDoor
