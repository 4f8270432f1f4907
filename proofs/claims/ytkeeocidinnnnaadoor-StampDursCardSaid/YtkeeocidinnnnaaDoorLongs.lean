/- voklaw2.StampLongs. -/
import Derived.Test.YtkeeocidinnnnaaDoorDec
namespace Go.Proofs.YtkeeocidinnnnaaDoor
open Go.RowKit
set_option linter.unusedVariables false
theorem durparse_dur (n : Int) (h1 : 1 ≤ n) (h2 : n ≤ 2147483648) (s : ByteArray) (hs : s = ⟨(dur n).toArray⟩) (w : World) (ht : Tab w) :
    Calls Tryd.prog 20 #[.string s] w fun e w' => e = .returned (.tuple #[.int .i64 n, .int .i64 0]) ∧ Below w.heap.size w w' := by
  have hl := dur_len n h1 h2
  have := durparse_any s (by rw [hs, ba_size]; exact hl.1) (by rw [hs, ba_size]; omega) w ht
  rwa [show dpV s = (n, 0) by rw [hs]; exact dpV_dur n h1 h2] at this
theorem dur_weeks (w : Int) : dur (w * 604800) = [80] ++ Lib.itoa w ++ [87] := by
  unfold dur
  rw [if_pos (by omega), show w * 604800 / 604800 = w by omega]
theorem dur_parts {d h m s : Int} (d1 : 0 ≤ d) (d2 : d ≤ 6) (h1 : 0 ≤ h) (h2 : h ≤ 23) (m1 : 0 ≤ m) (m2 : m ≤ 59) (s1 : 0 ≤ s) (s2 : s ≤ 59) (q : d * 86400 + h * 3600 + m * 60 + s ≠ 0) :
    dur (d * 86400 + h * 3600 + m * 60 + s) = [80] ++ part d 68 ++ (if 0 < h + m + s then [84] ++ part h 72 ++ part m 77 ++ part s 83 else []) := by
  unfold dur
  rw [if_neg (by omega)]
  have e : (d * 86400 + h * 3600 + m * 60 + s) % 86400 = h * 3600 + m * 60 + s := by omega
  rw [e, show (d * 86400 + h * 3600 + m * 60 + s) / 86400 = d by omega, show (h * 3600 + m * 60 + s) / 3600 = h by omega, show (h * 3600 + m * 60 + s) / 60 % 60 = m by omega, show (h * 3600 + m * 60 + s) % 60 = s by omega]
  by_cases k : 0 < h + m + s
  · rw [if_pos k, if_pos (by omega)]
  · rw [if_neg k, if_neg (by omega)]
set_option maxRecDepth 100000 in
set_option maxHeartbeats 4000000 in
theorem stampLongs_true {wk d h m s : Int} {w : World} (ht : Tab w) (wk1 : -9223372036854775808 ≤ wk) (wk2 : wk ≤ 9223372036854775807) (d1 : -9223372036854775808 ≤ d) (d2 : d ≤ 9223372036854775807) (h1 : -9223372036854775808 ≤ h) (h2 : h ≤ 9223372036854775807) (m1 : -9223372036854775808 ≤ m) (m2 : m ≤ 9223372036854775807) (s1 : -9223372036854775808 ≤ s) (s2 : s ≤ 9223372036854775807) :
    Calls Tryd.prog 7 #[.int .i64 wk, .int .i64 d, .int .i64 h, .int .i64 m, .int .i64 s] w fun e w' => e = .returned (.bool true) ∧ Below w.heap.size w w' := by
  have hba := ba_app
  by_cases q1 : wk < 1
  · have q1t := decide_eq_true q1
    go_enter Tryd.func7, Tryd.ntmps7
    go_wp2_with fail
    have b := Below.refl w.heap.size w
    refine (first_any _ ht).mono ?_
    rintro e wz ⟨rfl, bb⟩
    replace ht := ht.below bb
    replace b := b.trans (bb.mono b.size)
    clear bb
    go_wp2_with fail
    refine (first_any _ ht).mono ?_
    rintro e wz ⟨rfl, bb⟩
    replace ht := ht.below bb
    replace b := b.trans (bb.mono b.size)
    clear bb
    go_wp2_with fail
    go_ret
    exact ⟨rfl, b⟩
  · have q1t := decide_eq_false q1
    by_cases q2 : 100 < wk
    · have q2t := decide_eq_true q2
      go_enter Tryd.func7, Tryd.ntmps7
      go_wp2_with fail
      have b := Below.refl w.heap.size w
      refine (first_any _ ht).mono ?_
      rintro e wz ⟨rfl, bb⟩
      replace ht := ht.below bb
      replace b := b.trans (bb.mono b.size)
      clear bb
      go_wp2_with fail
      refine (first_any _ ht).mono ?_
      rintro e wz ⟨rfl, bb⟩
      replace ht := ht.below bb
      replace b := b.trans (bb.mono b.size)
      clear bb
      go_wp2_with fail
      go_ret
      exact ⟨rfl, b⟩
    · have q2t := decide_eq_false q2
      by_cases q3 : d < 0
      · have q3t := decide_eq_true q3
        go_enter Tryd.func7, Tryd.ntmps7
        go_wp2_with fail
        have b := Below.refl w.heap.size w
        refine (first_any _ ht).mono ?_
        rintro e wz ⟨rfl, bb⟩
        replace ht := ht.below bb
        replace b := b.trans (bb.mono b.size)
        clear bb
        go_wp2_with fail
        refine (first_any _ ht).mono ?_
        rintro e wz ⟨rfl, bb⟩
        replace ht := ht.below bb
        replace b := b.trans (bb.mono b.size)
        clear bb
        go_wp2_with fail
        go_ret
        exact ⟨rfl, b⟩
      · have q3t := decide_eq_false q3
        by_cases q4 : 6 < d
        · have q4t := decide_eq_true q4
          go_enter Tryd.func7, Tryd.ntmps7
          go_wp2_with fail
          have b := Below.refl w.heap.size w
          refine (first_any _ ht).mono ?_
          rintro e wz ⟨rfl, bb⟩
          replace ht := ht.below bb
          replace b := b.trans (bb.mono b.size)
          clear bb
          go_wp2_with fail
          refine (first_any _ ht).mono ?_
          rintro e wz ⟨rfl, bb⟩
          replace ht := ht.below bb
          replace b := b.trans (bb.mono b.size)
          clear bb
          go_wp2_with fail
          go_ret
          exact ⟨rfl, b⟩
        · have q4t := decide_eq_false q4
          by_cases q5 : h < 0
          · have q5t := decide_eq_true q5
            go_enter Tryd.func7, Tryd.ntmps7
            go_wp2_with fail
            have b := Below.refl w.heap.size w
            refine (first_any _ ht).mono ?_
            rintro e wz ⟨rfl, bb⟩
            replace ht := ht.below bb
            replace b := b.trans (bb.mono b.size)
            clear bb
            go_wp2_with fail
            refine (first_any _ ht).mono ?_
            rintro e wz ⟨rfl, bb⟩
            replace ht := ht.below bb
            replace b := b.trans (bb.mono b.size)
            clear bb
            go_wp2_with fail
            go_ret
            exact ⟨rfl, b⟩
          · have q5t := decide_eq_false q5
            by_cases q6 : 23 < h
            · have q6t := decide_eq_true q6
              go_enter Tryd.func7, Tryd.ntmps7
              go_wp2_with fail
              have b := Below.refl w.heap.size w
              refine (first_any _ ht).mono ?_
              rintro e wz ⟨rfl, bb⟩
              replace ht := ht.below bb
              replace b := b.trans (bb.mono b.size)
              clear bb
              go_wp2_with fail
              refine (first_any _ ht).mono ?_
              rintro e wz ⟨rfl, bb⟩
              replace ht := ht.below bb
              replace b := b.trans (bb.mono b.size)
              clear bb
              go_wp2_with fail
              go_ret
              exact ⟨rfl, b⟩
            · have q6t := decide_eq_false q6
              by_cases q7 : m < 0
              · have q7t := decide_eq_true q7
                go_enter Tryd.func7, Tryd.ntmps7
                go_wp2_with fail
                have b := Below.refl w.heap.size w
                refine (first_any _ ht).mono ?_
                rintro e wz ⟨rfl, bb⟩
                replace ht := ht.below bb
                replace b := b.trans (bb.mono b.size)
                clear bb
                go_wp2_with fail
                refine (first_any _ ht).mono ?_
                rintro e wz ⟨rfl, bb⟩
                replace ht := ht.below bb
                replace b := b.trans (bb.mono b.size)
                clear bb
                go_wp2_with fail
                go_ret
                exact ⟨rfl, b⟩
              · have q7t := decide_eq_false q7
                by_cases q8 : 59 < m
                · have q8t := decide_eq_true q8
                  go_enter Tryd.func7, Tryd.ntmps7
                  go_wp2_with fail
                  have b := Below.refl w.heap.size w
                  refine (first_any _ ht).mono ?_
                  rintro e wz ⟨rfl, bb⟩
                  replace ht := ht.below bb
                  replace b := b.trans (bb.mono b.size)
                  clear bb
                  go_wp2_with fail
                  refine (first_any _ ht).mono ?_
                  rintro e wz ⟨rfl, bb⟩
                  replace ht := ht.below bb
                  replace b := b.trans (bb.mono b.size)
                  clear bb
                  go_wp2_with fail
                  go_ret
                  exact ⟨rfl, b⟩
                · have q8t := decide_eq_false q8
                  by_cases q9 : s < 0
                  · have q9t := decide_eq_true q9
                    go_enter Tryd.func7, Tryd.ntmps7
                    go_wp2_with fail
                    have b := Below.refl w.heap.size w
                    refine (first_any _ ht).mono ?_
                    rintro e wz ⟨rfl, bb⟩
                    replace ht := ht.below bb
                    replace b := b.trans (bb.mono b.size)
                    clear bb
                    go_wp2_with fail
                    refine (first_any _ ht).mono ?_
                    rintro e wz ⟨rfl, bb⟩
                    replace ht := ht.below bb
                    replace b := b.trans (bb.mono b.size)
                    clear bb
                    go_wp2_with fail
                    go_ret
                    exact ⟨rfl, b⟩
                  · have q9t := decide_eq_false q9
                    by_cases q10 : 59 < s
                    · have q10t := decide_eq_true q10
                      go_enter Tryd.func7, Tryd.ntmps7
                      go_wp2_with fail
                      have b := Below.refl w.heap.size w
                      refine (first_any _ ht).mono ?_
                      rintro e wz ⟨rfl, bb⟩
                      replace ht := ht.below bb
                      replace b := b.trans (bb.mono b.size)
                      clear bb
                      go_wp2_with fail
                      refine (first_any _ ht).mono ?_
                      rintro e wz ⟨rfl, bb⟩
                      replace ht := ht.below bb
                      replace b := b.trans (bb.mono b.size)
                      clear bb
                      go_wp2_with fail
                      go_ret
                      exact ⟨rfl, b⟩
                    · have q10t := decide_eq_false q10
                      replace q1 := Int.not_lt.mp q1
                      replace q2 := Int.not_lt.mp q2
                      replace q3 := Int.not_lt.mp q3
                      replace q4 := Int.not_lt.mp q4
                      replace q5 := Int.not_lt.mp q5
                      replace q6 := Int.not_lt.mp q6
                      replace q7 := Int.not_lt.mp q7
                      replace q8 := Int.not_lt.mp q8
                      replace q9 := Int.not_lt.mp q9
                      replace q10 := Int.not_lt.mp q10
                      by_cases z : d * 86400 + h * 3600 + m * 60 + s = 0
                      · have zt : (d * 86400 + h * 3600 + m * 60 + s == 0) = true := by rw [z]; rfl
                        obtain ⟨rfl, rfl, rfl, rfl⟩ : d = 0 ∧ h = 0 ∧ m = 0 ∧ s = 0 := by omega
                        have hW := dec_any wk (by omega) (by omega)
                        have eW := dur_weeks wk
                        have lW := itoa_len wk (by omega) (by omega)
                        have pW := durparse_dur (wk * 604800) (by omega) (by omega)
                        rw [eW] at pW
                        clear eW
                        generalize Lib.itoa wk = W at hW lW pW
                        have hno0 : ¬ (9223372036854775807 < 1 + W.length) := by omega
                        have hno1 : ¬ (9223372036854775807 < W.length + 1 + 1) := by omega
                        clear lW
                        go_enter Tryd.func7, Tryd.ntmps7
                        go_wp2_with fail
                        have b := Below.refl w.heap.size w
                        refine (first_any _ ht).mono ?_
                        rintro e wz ⟨rfl, bb⟩
                        replace ht := ht.below bb
                        replace b := b.trans (bb.mono b.size)
                        clear bb
                        go_wp2_with fail
                        refine (hW _).mono ?_
                        rintro e wz ⟨rfl, bb⟩
                        replace ht := ht.below bb
                        replace b := b.trans (bb.mono b.size)
                        clear bb
                        go_wp2_with fail
                        refine (pW _ (by simp) _ ht).mono ?_
                        rintro e wz ⟨rfl, bb⟩
                        replace ht := ht.below bb
                        replace b := b.trans (bb.mono b.size)
                        clear bb
                        go_wp2_with fail
                        refine (first_any _ ht).mono ?_
                        rintro e wz ⟨rfl, bb⟩
                        replace ht := ht.below bb
                        replace b := b.trans (bb.mono b.size)
                        clear bb
                        go_wp2_with fail
                        go_ret
                        exact ⟨rfl, b⟩
                      · have zt : (d * 86400 + h * 3600 + m * 60 + s == 0) = false := by rw [beq_eq_false_iff_ne]; exact z
                        have hW := dec_any wk (by omega) (by omega)
                        have eW := dur_weeks wk
                        have lW := itoa_len wk (by omega) (by omega)
                        have pW := durparse_dur (wk * 604800) (by omega) (by omega)
                        rw [eW] at pW
                        clear eW
                        generalize Lib.itoa wk = W at hW lW pW
                        have hno0 : ¬ (9223372036854775807 < 1 + W.length) := by omega
                        have hno1 : ¬ (9223372036854775807 < W.length + 1 + 1) := by omega
                        clear lW
                        have hV := dur_parts q3 q4 q5 q6 q7 q8 q9 q10 z
                        have hD := dec_any d (by omega) (by omega)
                        have lD := itoa_len d (by omega) (by omega)
                        have pD : part d 68 = if d = 0 then [] else Lib.itoa d ++ [68] := rfl
                        generalize part d 68 = PD at pD hV
                        generalize Lib.itoa d = D at hD lD pD
                        have hH := dec_any h (by omega) (by omega)
                        have lH := itoa_len h (by omega) (by omega)
                        have pH : part h 72 = if h = 0 then [] else Lib.itoa h ++ [72] := rfl
                        generalize part h 72 = PH at pH hV
                        generalize Lib.itoa h = H at hH lH pH
                        have hM := dec_any m (by omega) (by omega)
                        have lM := itoa_len m (by omega) (by omega)
                        have pM : part m 77 = if m = 0 then [] else Lib.itoa m ++ [77] := rfl
                        generalize part m 77 = PM at pM hV
                        generalize Lib.itoa m = M at hM lM pM
                        have hX := dec_any s (by omega) (by omega)
                        have lX := itoa_len s (by omega) (by omega)
                        have pX : part s 83 = if s = 0 then [] else Lib.itoa s ++ [83] := rfl
                        generalize part s 83 = PX at pX hV
                        generalize Lib.itoa s = X at hX lX pX
                        go_enter Tryd.func7, Tryd.ntmps7
                        go_wp2_with fail
                        have b := Below.refl w.heap.size w
                        refine (first_any _ ht).mono ?_
                        rintro e wz ⟨rfl, bb⟩
                        replace ht := ht.below bb
                        replace b := b.trans (bb.mono b.size)
                        clear bb
                        go_wp2_with fail
                        refine (hW _).mono ?_
                        rintro e wz ⟨rfl, bb⟩
                        replace ht := ht.below bb
                        replace b := b.trans (bb.mono b.size)
                        clear bb
                        go_wp2_with fail
                        refine (pW _ (by simp) _ ht).mono ?_
                        rintro e wz ⟨rfl, bb⟩
                        replace ht := ht.below bb
                        replace b := b.trans (bb.mono b.size)
                        clear bb
                        by_cases kd : 0 < d
                        · have kdt := decide_eq_true kd
                          rw [if_neg (show ¬ d = 0 by omega)] at pD
                          subst pD
                          have f1 : ¬ (9223372036854775807 < D.length + 1) := by omega
                          have f2 : ¬ (9223372036854775807 < 1 + (D.length + 1)) := by omega
                          go_wp2_with fail
                          refine (hD _).mono ?_
                          rintro e wz ⟨rfl, bb⟩
                          replace ht := ht.below bb
                          replace b := b.trans (bb.mono b.size)
                          clear bb
                          by_cases kt : 0 < h + m + s
                          · have ktt := decide_eq_true kt
                            rw [if_pos kt] at hV
                            by_cases kh : 0 < h
                            · have kht := decide_eq_true kh
                              rw [if_neg (show ¬ h = 0 by omega)] at pH
                              subst pH
                              have f1 : ¬ (9223372036854775807 < H.length + 1) := by omega
                              have f2 : ¬ (9223372036854775807 < 1 + (H.length + 1)) := by omega
                              go_wp2_with fail
                              refine (hH _).mono ?_
                              rintro e wz ⟨rfl, bb⟩
                              replace ht := ht.below bb
                              replace b := b.trans (bb.mono b.size)
                              clear bb
                              by_cases km : 0 < m
                              · have kmt := decide_eq_true km
                                rw [if_neg (show ¬ m = 0 by omega)] at pM
                                subst pM
                                have f1 : ¬ (9223372036854775807 < M.length + 1) := by omega
                                have f2 : ¬ (9223372036854775807 < 1 + (M.length + 1)) := by omega
                                go_wp2_with fail
                                refine (hM _).mono ?_
                                rintro e wz ⟨rfl, bb⟩
                                replace ht := ht.below bb
                                replace b := b.trans (bb.mono b.size)
                                clear bb
                                by_cases ks : 0 < s
                                · have kst := decide_eq_true ks
                                  rw [if_neg (show ¬ s = 0 by omega)] at pX
                                  subst pX
                                  have f1 : ¬ (9223372036854775807 < X.length + 1) := by omega
                                  have f2 : ¬ (9223372036854775807 < 1 + (X.length + 1)) := by omega
                                  go_wp2_with fail
                                  refine (hX _).mono ?_
                                  rintro e wz ⟨rfl, bb⟩
                                  replace ht := ht.below bb
                                  replace b := b.trans (bb.mono b.size)
                                  clear bb
                                  refine id ?_
                                  go_wp2_with fail
                                  refine (durparse_dur (d * 86400 + h * 3600 + m * 60 + s) (by omega) (by omega) _ (by rw [hV]; simp) _ ht).mono ?_
                                  rintro e wz ⟨rfl, bb⟩
                                  replace ht := ht.below bb
                                  replace b := b.trans (bb.mono b.size)
                                  clear bb
                                  go_wp2_with fail
                                  refine (first_any _ ht).mono ?_
                                  rintro e wz ⟨rfl, bb⟩
                                  replace ht := ht.below bb
                                  replace b := b.trans (bb.mono b.size)
                                  clear bb
                                  go_wp2_with fail
                                  go_ret
                                  exact ⟨rfl, b⟩
                                · have kst := decide_eq_false ks
                                  rw [if_pos (show s = 0 by omega)] at pX
                                  subst pX
                                  refine id ?_
                                  go_wp2_with fail
                                  refine (durparse_dur (d * 86400 + h * 3600 + m * 60 + s) (by omega) (by omega) _ (by rw [hV]; simp) _ ht).mono ?_
                                  rintro e wz ⟨rfl, bb⟩
                                  replace ht := ht.below bb
                                  replace b := b.trans (bb.mono b.size)
                                  clear bb
                                  go_wp2_with fail
                                  refine (first_any _ ht).mono ?_
                                  rintro e wz ⟨rfl, bb⟩
                                  replace ht := ht.below bb
                                  replace b := b.trans (bb.mono b.size)
                                  clear bb
                                  go_wp2_with fail
                                  go_ret
                                  exact ⟨rfl, b⟩
                              · have kmt := decide_eq_false km
                                rw [if_pos (show m = 0 by omega)] at pM
                                subst pM
                                by_cases ks : 0 < s
                                · have kst := decide_eq_true ks
                                  rw [if_neg (show ¬ s = 0 by omega)] at pX
                                  subst pX
                                  have f1 : ¬ (9223372036854775807 < X.length + 1) := by omega
                                  have f2 : ¬ (9223372036854775807 < 1 + (X.length + 1)) := by omega
                                  go_wp2_with fail
                                  refine (hX _).mono ?_
                                  rintro e wz ⟨rfl, bb⟩
                                  replace ht := ht.below bb
                                  replace b := b.trans (bb.mono b.size)
                                  clear bb
                                  refine id ?_
                                  go_wp2_with fail
                                  refine (durparse_dur (d * 86400 + h * 3600 + m * 60 + s) (by omega) (by omega) _ (by rw [hV]; simp) _ ht).mono ?_
                                  rintro e wz ⟨rfl, bb⟩
                                  replace ht := ht.below bb
                                  replace b := b.trans (bb.mono b.size)
                                  clear bb
                                  go_wp2_with fail
                                  refine (first_any _ ht).mono ?_
                                  rintro e wz ⟨rfl, bb⟩
                                  replace ht := ht.below bb
                                  replace b := b.trans (bb.mono b.size)
                                  clear bb
                                  go_wp2_with fail
                                  go_ret
                                  exact ⟨rfl, b⟩
                                · have kst := decide_eq_false ks
                                  rw [if_pos (show s = 0 by omega)] at pX
                                  subst pX
                                  refine id ?_
                                  go_wp2_with fail
                                  refine (durparse_dur (d * 86400 + h * 3600 + m * 60 + s) (by omega) (by omega) _ (by rw [hV]; simp) _ ht).mono ?_
                                  rintro e wz ⟨rfl, bb⟩
                                  replace ht := ht.below bb
                                  replace b := b.trans (bb.mono b.size)
                                  clear bb
                                  go_wp2_with fail
                                  refine (first_any _ ht).mono ?_
                                  rintro e wz ⟨rfl, bb⟩
                                  replace ht := ht.below bb
                                  replace b := b.trans (bb.mono b.size)
                                  clear bb
                                  go_wp2_with fail
                                  go_ret
                                  exact ⟨rfl, b⟩
                            · have kht := decide_eq_false kh
                              rw [if_pos (show h = 0 by omega)] at pH
                              subst pH
                              by_cases km : 0 < m
                              · have kmt := decide_eq_true km
                                rw [if_neg (show ¬ m = 0 by omega)] at pM
                                subst pM
                                have f1 : ¬ (9223372036854775807 < M.length + 1) := by omega
                                have f2 : ¬ (9223372036854775807 < 1 + (M.length + 1)) := by omega
                                go_wp2_with fail
                                refine (hM _).mono ?_
                                rintro e wz ⟨rfl, bb⟩
                                replace ht := ht.below bb
                                replace b := b.trans (bb.mono b.size)
                                clear bb
                                by_cases ks : 0 < s
                                · have kst := decide_eq_true ks
                                  rw [if_neg (show ¬ s = 0 by omega)] at pX
                                  subst pX
                                  have f1 : ¬ (9223372036854775807 < X.length + 1) := by omega
                                  have f2 : ¬ (9223372036854775807 < 1 + (X.length + 1)) := by omega
                                  go_wp2_with fail
                                  refine (hX _).mono ?_
                                  rintro e wz ⟨rfl, bb⟩
                                  replace ht := ht.below bb
                                  replace b := b.trans (bb.mono b.size)
                                  clear bb
                                  refine id ?_
                                  go_wp2_with fail
                                  refine (durparse_dur (d * 86400 + h * 3600 + m * 60 + s) (by omega) (by omega) _ (by rw [hV]; simp) _ ht).mono ?_
                                  rintro e wz ⟨rfl, bb⟩
                                  replace ht := ht.below bb
                                  replace b := b.trans (bb.mono b.size)
                                  clear bb
                                  go_wp2_with fail
                                  refine (first_any _ ht).mono ?_
                                  rintro e wz ⟨rfl, bb⟩
                                  replace ht := ht.below bb
                                  replace b := b.trans (bb.mono b.size)
                                  clear bb
                                  go_wp2_with fail
                                  go_ret
                                  exact ⟨rfl, b⟩
                                · have kst := decide_eq_false ks
                                  rw [if_pos (show s = 0 by omega)] at pX
                                  subst pX
                                  refine id ?_
                                  go_wp2_with fail
                                  refine (durparse_dur (d * 86400 + h * 3600 + m * 60 + s) (by omega) (by omega) _ (by rw [hV]; simp) _ ht).mono ?_
                                  rintro e wz ⟨rfl, bb⟩
                                  replace ht := ht.below bb
                                  replace b := b.trans (bb.mono b.size)
                                  clear bb
                                  go_wp2_with fail
                                  refine (first_any _ ht).mono ?_
                                  rintro e wz ⟨rfl, bb⟩
                                  replace ht := ht.below bb
                                  replace b := b.trans (bb.mono b.size)
                                  clear bb
                                  go_wp2_with fail
                                  go_ret
                                  exact ⟨rfl, b⟩
                              · have kmt := decide_eq_false km
                                rw [if_pos (show m = 0 by omega)] at pM
                                subst pM
                                by_cases ks : 0 < s
                                · have kst := decide_eq_true ks
                                  rw [if_neg (show ¬ s = 0 by omega)] at pX
                                  subst pX
                                  have f1 : ¬ (9223372036854775807 < X.length + 1) := by omega
                                  have f2 : ¬ (9223372036854775807 < 1 + (X.length + 1)) := by omega
                                  go_wp2_with fail
                                  refine (hX _).mono ?_
                                  rintro e wz ⟨rfl, bb⟩
                                  replace ht := ht.below bb
                                  replace b := b.trans (bb.mono b.size)
                                  clear bb
                                  refine id ?_
                                  go_wp2_with fail
                                  refine (durparse_dur (d * 86400 + h * 3600 + m * 60 + s) (by omega) (by omega) _ (by rw [hV]; simp) _ ht).mono ?_
                                  rintro e wz ⟨rfl, bb⟩
                                  replace ht := ht.below bb
                                  replace b := b.trans (bb.mono b.size)
                                  clear bb
                                  go_wp2_with fail
                                  refine (first_any _ ht).mono ?_
                                  rintro e wz ⟨rfl, bb⟩
                                  replace ht := ht.below bb
                                  replace b := b.trans (bb.mono b.size)
                                  clear bb
                                  go_wp2_with fail
                                  go_ret
                                  exact ⟨rfl, b⟩
                                · have kst := decide_eq_false ks
                                  rw [if_pos (show s = 0 by omega)] at pX
                                  subst pX
                                  exact absurd kt (by omega)
                          · have ktt := decide_eq_false kt
                            rw [if_neg kt] at hV
                            have nh : decide (0 < h) = false := decide_eq_false (by omega)
                            have nm : decide (0 < m) = false := decide_eq_false (by omega)
                            have ns : decide (0 < s) = false := decide_eq_false (by omega)
                            refine id ?_
                            go_wp2_with fail
                            refine (durparse_dur (d * 86400 + h * 3600 + m * 60 + s) (by omega) (by omega) _ (by rw [hV]; simp) _ ht).mono ?_
                            rintro e wz ⟨rfl, bb⟩
                            replace ht := ht.below bb
                            replace b := b.trans (bb.mono b.size)
                            clear bb
                            go_wp2_with fail
                            refine (first_any _ ht).mono ?_
                            rintro e wz ⟨rfl, bb⟩
                            replace ht := ht.below bb
                            replace b := b.trans (bb.mono b.size)
                            clear bb
                            go_wp2_with fail
                            go_ret
                            exact ⟨rfl, b⟩
                        · have kdt := decide_eq_false kd
                          rw [if_pos (show d = 0 by omega)] at pD
                          subst pD
                          by_cases kt : 0 < h + m + s
                          · have ktt := decide_eq_true kt
                            rw [if_pos kt] at hV
                            by_cases kh : 0 < h
                            · have kht := decide_eq_true kh
                              rw [if_neg (show ¬ h = 0 by omega)] at pH
                              subst pH
                              have f1 : ¬ (9223372036854775807 < H.length + 1) := by omega
                              have f2 : ¬ (9223372036854775807 < 1 + (H.length + 1)) := by omega
                              go_wp2_with fail
                              refine (hH _).mono ?_
                              rintro e wz ⟨rfl, bb⟩
                              replace ht := ht.below bb
                              replace b := b.trans (bb.mono b.size)
                              clear bb
                              by_cases km : 0 < m
                              · have kmt := decide_eq_true km
                                rw [if_neg (show ¬ m = 0 by omega)] at pM
                                subst pM
                                have f1 : ¬ (9223372036854775807 < M.length + 1) := by omega
                                have f2 : ¬ (9223372036854775807 < 1 + (M.length + 1)) := by omega
                                go_wp2_with fail
                                refine (hM _).mono ?_
                                rintro e wz ⟨rfl, bb⟩
                                replace ht := ht.below bb
                                replace b := b.trans (bb.mono b.size)
                                clear bb
                                by_cases ks : 0 < s
                                · have kst := decide_eq_true ks
                                  rw [if_neg (show ¬ s = 0 by omega)] at pX
                                  subst pX
                                  have f1 : ¬ (9223372036854775807 < X.length + 1) := by omega
                                  have f2 : ¬ (9223372036854775807 < 1 + (X.length + 1)) := by omega
                                  go_wp2_with fail
                                  refine (hX _).mono ?_
                                  rintro e wz ⟨rfl, bb⟩
                                  replace ht := ht.below bb
                                  replace b := b.trans (bb.mono b.size)
                                  clear bb
                                  refine id ?_
                                  go_wp2_with fail
                                  refine (durparse_dur (d * 86400 + h * 3600 + m * 60 + s) (by omega) (by omega) _ (by rw [hV]; simp) _ ht).mono ?_
                                  rintro e wz ⟨rfl, bb⟩
                                  replace ht := ht.below bb
                                  replace b := b.trans (bb.mono b.size)
                                  clear bb
                                  go_wp2_with fail
                                  refine (first_any _ ht).mono ?_
                                  rintro e wz ⟨rfl, bb⟩
                                  replace ht := ht.below bb
                                  replace b := b.trans (bb.mono b.size)
                                  clear bb
                                  go_wp2_with fail
                                  go_ret
                                  exact ⟨rfl, b⟩
                                · have kst := decide_eq_false ks
                                  rw [if_pos (show s = 0 by omega)] at pX
                                  subst pX
                                  refine id ?_
                                  go_wp2_with fail
                                  refine (durparse_dur (d * 86400 + h * 3600 + m * 60 + s) (by omega) (by omega) _ (by rw [hV]; simp) _ ht).mono ?_
                                  rintro e wz ⟨rfl, bb⟩
                                  replace ht := ht.below bb
                                  replace b := b.trans (bb.mono b.size)
                                  clear bb
                                  go_wp2_with fail
                                  refine (first_any _ ht).mono ?_
                                  rintro e wz ⟨rfl, bb⟩
                                  replace ht := ht.below bb
                                  replace b := b.trans (bb.mono b.size)
                                  clear bb
                                  go_wp2_with fail
                                  go_ret
                                  exact ⟨rfl, b⟩
                              · have kmt := decide_eq_false km
                                rw [if_pos (show m = 0 by omega)] at pM
                                subst pM
                                by_cases ks : 0 < s
                                · have kst := decide_eq_true ks
                                  rw [if_neg (show ¬ s = 0 by omega)] at pX
                                  subst pX
                                  have f1 : ¬ (9223372036854775807 < X.length + 1) := by omega
                                  have f2 : ¬ (9223372036854775807 < 1 + (X.length + 1)) := by omega
                                  go_wp2_with fail
                                  refine (hX _).mono ?_
                                  rintro e wz ⟨rfl, bb⟩
                                  replace ht := ht.below bb
                                  replace b := b.trans (bb.mono b.size)
                                  clear bb
                                  refine id ?_
                                  go_wp2_with fail
                                  refine (durparse_dur (d * 86400 + h * 3600 + m * 60 + s) (by omega) (by omega) _ (by rw [hV]; simp) _ ht).mono ?_
                                  rintro e wz ⟨rfl, bb⟩
                                  replace ht := ht.below bb
                                  replace b := b.trans (bb.mono b.size)
                                  clear bb
                                  go_wp2_with fail
                                  refine (first_any _ ht).mono ?_
                                  rintro e wz ⟨rfl, bb⟩
                                  replace ht := ht.below bb
                                  replace b := b.trans (bb.mono b.size)
                                  clear bb
                                  go_wp2_with fail
                                  go_ret
                                  exact ⟨rfl, b⟩
                                · have kst := decide_eq_false ks
                                  rw [if_pos (show s = 0 by omega)] at pX
                                  subst pX
                                  refine id ?_
                                  go_wp2_with fail
                                  refine (durparse_dur (d * 86400 + h * 3600 + m * 60 + s) (by omega) (by omega) _ (by rw [hV]; simp) _ ht).mono ?_
                                  rintro e wz ⟨rfl, bb⟩
                                  replace ht := ht.below bb
                                  replace b := b.trans (bb.mono b.size)
                                  clear bb
                                  go_wp2_with fail
                                  refine (first_any _ ht).mono ?_
                                  rintro e wz ⟨rfl, bb⟩
                                  replace ht := ht.below bb
                                  replace b := b.trans (bb.mono b.size)
                                  clear bb
                                  go_wp2_with fail
                                  go_ret
                                  exact ⟨rfl, b⟩
                            · have kht := decide_eq_false kh
                              rw [if_pos (show h = 0 by omega)] at pH
                              subst pH
                              by_cases km : 0 < m
                              · have kmt := decide_eq_true km
                                rw [if_neg (show ¬ m = 0 by omega)] at pM
                                subst pM
                                have f1 : ¬ (9223372036854775807 < M.length + 1) := by omega
                                have f2 : ¬ (9223372036854775807 < 1 + (M.length + 1)) := by omega
                                go_wp2_with fail
                                refine (hM _).mono ?_
                                rintro e wz ⟨rfl, bb⟩
                                replace ht := ht.below bb
                                replace b := b.trans (bb.mono b.size)
                                clear bb
                                by_cases ks : 0 < s
                                · have kst := decide_eq_true ks
                                  rw [if_neg (show ¬ s = 0 by omega)] at pX
                                  subst pX
                                  have f1 : ¬ (9223372036854775807 < X.length + 1) := by omega
                                  have f2 : ¬ (9223372036854775807 < 1 + (X.length + 1)) := by omega
                                  go_wp2_with fail
                                  refine (hX _).mono ?_
                                  rintro e wz ⟨rfl, bb⟩
                                  replace ht := ht.below bb
                                  replace b := b.trans (bb.mono b.size)
                                  clear bb
                                  refine id ?_
                                  go_wp2_with fail
                                  refine (durparse_dur (d * 86400 + h * 3600 + m * 60 + s) (by omega) (by omega) _ (by rw [hV]; simp) _ ht).mono ?_
                                  rintro e wz ⟨rfl, bb⟩
                                  replace ht := ht.below bb
                                  replace b := b.trans (bb.mono b.size)
                                  clear bb
                                  go_wp2_with fail
                                  refine (first_any _ ht).mono ?_
                                  rintro e wz ⟨rfl, bb⟩
                                  replace ht := ht.below bb
                                  replace b := b.trans (bb.mono b.size)
                                  clear bb
                                  go_wp2_with fail
                                  go_ret
                                  exact ⟨rfl, b⟩
                                · have kst := decide_eq_false ks
                                  rw [if_pos (show s = 0 by omega)] at pX
                                  subst pX
                                  refine id ?_
                                  go_wp2_with fail
                                  refine (durparse_dur (d * 86400 + h * 3600 + m * 60 + s) (by omega) (by omega) _ (by rw [hV]; simp) _ ht).mono ?_
                                  rintro e wz ⟨rfl, bb⟩
                                  replace ht := ht.below bb
                                  replace b := b.trans (bb.mono b.size)
                                  clear bb
                                  go_wp2_with fail
                                  refine (first_any _ ht).mono ?_
                                  rintro e wz ⟨rfl, bb⟩
                                  replace ht := ht.below bb
                                  replace b := b.trans (bb.mono b.size)
                                  clear bb
                                  go_wp2_with fail
                                  go_ret
                                  exact ⟨rfl, b⟩
                              · have kmt := decide_eq_false km
                                rw [if_pos (show m = 0 by omega)] at pM
                                subst pM
                                by_cases ks : 0 < s
                                · have kst := decide_eq_true ks
                                  rw [if_neg (show ¬ s = 0 by omega)] at pX
                                  subst pX
                                  have f1 : ¬ (9223372036854775807 < X.length + 1) := by omega
                                  have f2 : ¬ (9223372036854775807 < 1 + (X.length + 1)) := by omega
                                  go_wp2_with fail
                                  refine (hX _).mono ?_
                                  rintro e wz ⟨rfl, bb⟩
                                  replace ht := ht.below bb
                                  replace b := b.trans (bb.mono b.size)
                                  clear bb
                                  refine id ?_
                                  go_wp2_with fail
                                  refine (durparse_dur (d * 86400 + h * 3600 + m * 60 + s) (by omega) (by omega) _ (by rw [hV]; simp) _ ht).mono ?_
                                  rintro e wz ⟨rfl, bb⟩
                                  replace ht := ht.below bb
                                  replace b := b.trans (bb.mono b.size)
                                  clear bb
                                  go_wp2_with fail
                                  refine (first_any _ ht).mono ?_
                                  rintro e wz ⟨rfl, bb⟩
                                  replace ht := ht.below bb
                                  replace b := b.trans (bb.mono b.size)
                                  clear bb
                                  go_wp2_with fail
                                  go_ret
                                  exact ⟨rfl, b⟩
                                · have kst := decide_eq_false ks
                                  rw [if_pos (show s = 0 by omega)] at pX
                                  subst pX
                                  exact absurd kt (by omega)
                          · have ktt := decide_eq_false kt
                            rw [if_neg kt] at hV
                            have nh : decide (0 < h) = false := decide_eq_false (by omega)
                            have nm : decide (0 < m) = false := decide_eq_false (by omega)
                            have ns : decide (0 < s) = false := decide_eq_false (by omega)
                            refine id ?_
                            go_wp2_with fail
                            refine (durparse_dur (d * 86400 + h * 3600 + m * 60 + s) (by omega) (by omega) _ (by rw [hV]; simp) _ ht).mono ?_
                            rintro e wz ⟨rfl, bb⟩
                            replace ht := ht.below bb
                            replace b := b.trans (bb.mono b.size)
                            clear bb
                            go_wp2_with fail
                            refine (first_any _ ht).mono ?_
                            rintro e wz ⟨rfl, bb⟩
                            replace ht := ht.below bb
                            replace b := b.trans (bb.mono b.size)
                            clear bb
                            go_wp2_with fail
                            go_ret
                            exact ⟨rfl, b⟩
end Go.Proofs.YtkeeocidinnnnaaDoor
