/- vokref1: Nth, yearly, right. -/
import Derived.Test.YtbnchbcdgffkaaaRcal
import Derived.Test.YtbnchbcdgffkaaaYly
namespace Go.Proofs.Ytbnchbcdgffkaaa
open Go.RowKit
set_option linter.unusedVariables false
/-- Where the loop of the document's Nth stands. -/
structure NthIn (n q d k l : Int) : Prop where
  hk : k = (d + 5 - q) / 7
  hl : 1 ≤ k → l = q + 7 * k - 6
  few : n < 5 → k < n
theorem NthIn.skip {n q d k l : Int} (h : NthIn n q d k l) (hm : (d - 1 - q) % 7 ≠ 0) : NthIn n q (d + 1) k l := ⟨by have := h.hk; omega, h.hl, h.few⟩
theorem NthIn.hit {n q d k l : Int} (h : NthIn n q d k l) (q1 : 0 ≤ q) (q2 : q < 7) (d1 : 1 ≤ d) (hm : (d - 1 - q) % 7 = 0) (hn : ¬ (k + 1 = n ∧ n < 5)) : NthIn n q (d + 1) (k + 1) d :=
  ⟨by have := h.hk; omega, fun _ => by have := h.hk; omega, fun h5 => by have := h.few h5; omega⟩
theorem NthIn.ret {n q d k l : Int} (h : NthIn n q d k l) (q1 : 0 ≤ q) (q2 : q < 7) (d1 : 1 ≤ d) (hm : (d - 1 - q) % 7 = 0) (hn : k + 1 = n) : d = 1 + q + 7 * (n - 1) := by
  have := h.hk
  omega
set_option maxRecDepth 100000 in
set_option maxHeartbeats 4000000 in
theorem rnth_any (y m n wd : Int) (y1 : 1 ≤ y) (y2 : y ≤ 9999) (m1 : 1 ≤ m) (m2 : m ≤ 12) (n1 : 1 ≤ n) (n2 : n ≤ 5) (w1 : 0 ≤ wd) (w2 : wd ≤ 6) (w : World) :
    Calls Try.prog 60 #[.int .i64 y, .int .i64 m, .int .i64 n, .int .i64 wd] w fun e w' => e = .returned (.tuple #[.int .i64 (nthOf y m n wd), .int .i64 0]) ∧ w = w' := by
  have hl := Civ.len_pos y m m1 m2
  have hv1 : Civ.valid y m 1 := ⟨y1, y2, by omega, by omega⟩
  have hV := rvalid_any y m 1
  rw [decide_eq_true hv1] at hV
  have hL := rlen_any y m
  obtain ⟨q, hq⟩ : ∃ q, q = (wd - Civ.wd (Civ.num y m 1)) % 7 := ⟨_, rfl⟩
  have e0 : nthOf y m n wd = if n = 5 then (if 1 + q + 28 ≤ Civ.len y m then 1 + q + 28 else 1 + q + 21) else 1 + q + 7 * (n - 1) := by rw [hq]; rfl
  have q1 : 0 ≤ q := by omega
  have q2 : q < 7 := by omega
  have hday : ∀ d, 1 ≤ d → d ≤ Civ.len y m → Civ.valid y m d ∧ Civ.num y m d = Civ.num y m 1 + d - 1 := fun d h1 h2 => ⟨⟨y1, y2, h1, h2⟩, by unfold Civ.num; omega⟩
  have hday := Lib.hid hday
  have hwd : ∀ N, (Civ.wd N = wd) ↔ (N - Civ.num y m 1 - q) % 7 = 0 := fun N => by unfold Civ.wd at hq ⊢; omega
  have hwd := Lib.hid hwd
  have hnb := Lib.hid (Civ.num_bd hv1)
  generalize nthOf y m n wd = N0 at e0 ⊢
  have HN0 := Lib.hid e0
  clear hv1 e0 hq
  generalize Civ.num y m 1 = nn at *
  obtain ⟨ln, hln⟩ : ∃ ln, ln = Civ.len y m := ⟨_, rfl⟩
  rw [← hln] at hl hL HN0 hday
  have hln := Lib.hid hln
  obtain ⟨l1, l2⟩ := hl
  go_enter Try.func60, Try.ntmps60
  go_wp2_with fail
  refine (hV _).mono ?_
  rintro e w1 ⟨rfl, rfl⟩
  clear hV
  go_wp2_with fail
  go_loopw [10, 11, 12, 13, 14] (fun kv lv dv nv ev wz => ∃ k l d : Int, kv = .int .i64 k ∧ lv = .int .i64 l ∧ dv = .int .i64 d ∧ 1 ≤ d ∧ d ≤ ln + 1 ∧ NthIn n q d k l ∧ wz = w) (fun kv lv dv nv ev _ => (40 - intOf dv).toNat)
  case atStart => exact ⟨0, 0, 1, rfl, rfl, rfl, by omega, by omega, ⟨by omega, fun h => by omega, fun h => by omega⟩, rfl⟩
  case round =>
    obtain ⟨k, l, d, rfl, rfl, rfl, d1, d2, hR, rfl⟩ := hrel
    have kb : 0 ≤ k ∧ k ≤ 10 := by have := hR.hk; omega
    obtain ⟨kb1, kb2⟩ := kb
    by_cases hd : d ≤ ln
    · obtain ⟨hv, hN⟩ := hday.out d d1 hd
      have hDy := rdays_yes y m d hv
      have hb := Civ.num_bd hv
      have hWd := rwd_any (Civ.num y m d) (by omega) (by omega)
      have hW0 := hwd.out (Civ.num y m d)
      generalize Civ.num y m d = N at *
      by_cases hm : (d - 1 - q) % 7 = 0
      · have hx : Civ.wd N = wd := hW0.mpr (by rw [hN]; omega)
        rw [hx] at hWd
        by_cases hk : k + 1 = n
        · by_cases h5 : n < 5
          · have hfin := Lib.hid (show d = N0 by rw [HN0.out, if_neg (by omega)]; exact hR.ret q1 q2 d1 hm hk)
            have kt : (k + 1 == n) = true := by simpa using hk
            have ht5 := decide_eq_true h5
            clear hm hW0 hN hb hx hk
            go_wp2_with fail
            refine (hL _).mono ?_
            rintro e w1 ⟨rfl, rfl⟩
            go_wp2_with fail
            refine (hDy _).mono ?_
            rintro e w1 ⟨rfl, rfl⟩
            go_wp2_with fail
            refine (hWd _).mono ?_
            rintro e w1 ⟨rfl, rfl⟩
            go_wp2_with fail
            go_ret2
            exact ⟨by rw [hfin.out]; rfl, rfl⟩
          · have hnx := Lib.hid (hR.hit q1 q2 d1 hm (by omega))
            have kt : (k + 1 == n) = true := by simpa using hk
            have ht5 := decide_eq_false h5
            clear hm hW0 hN hb hx hk
            go_wp2_with fail
            refine (hL _).mono ?_
            rintro e w1 ⟨rfl, rfl⟩
            go_wp2_with fail
            refine (hDy _).mono ?_
            rintro e w1 ⟨rfl, rfl⟩
            go_wp2_with fail
            refine (hWd _).mono ?_
            rintro e w1 ⟨rfl, rfl⟩
            go_wp2_with fail
            go_roundw
            case rel => exact ⟨k + 1, d, d + 1, rfl, rfl, rfl, by omega, by omega, hnx.out, trivial⟩
            case measure => simp [intOf]; omega
        · have hnx := Lib.hid (hR.hit q1 q2 d1 hm (by omega))
          have kt : (k + 1 == n) = false := by simpa using hk
          clear hm hW0 hN hb hx hk
          go_wp2_with fail
          refine (hL _).mono ?_
          rintro e w1 ⟨rfl, rfl⟩
          go_wp2_with fail
          refine (hDy _).mono ?_
          rintro e w1 ⟨rfl, rfl⟩
          go_wp2_with fail
          refine (hWd _).mono ?_
          rintro e w1 ⟨rfl, rfl⟩
          go_wp2_with fail
          go_roundw
          case rel => exact ⟨k + 1, d, d + 1, rfl, rfl, rfl, by omega, by omega, hnx.out, trivial⟩
          case measure => simp [intOf]; omega
      · have hx : ¬ Civ.wd N = wd := fun h => hm (by have := hW0.mp h; rw [hN] at this; omega)
        have hxt : (Civ.wd N != wd) = true := by simpa using hx
        have hnx := Lib.hid (hR.skip hm)
        clear hm hW0 hN hb hx
        generalize Civ.wd N = x at *
        go_wp2_with fail
        refine (hL _).mono ?_
        rintro e w1 ⟨rfl, rfl⟩
        go_wp2_with fail
        refine (hDy _).mono ?_
        rintro e w1 ⟨rfl, rfl⟩
        go_wp2_with fail
        refine (hWd _).mono ?_
        rintro e w1 ⟨rfl, rfl⟩
        go_wp2_with fail
        go_roundw
        case rel => exact ⟨k, l, d + 1, rfl, rfl, rfl, by omega, by omega, hnx.out, trivial⟩
        case measure => simp [intOf]; omega
    · obtain rfl : d = ln + 1 := by omega
      have hfin := Lib.hid (show l = N0 by
        have hk := hR.hk
        have h5 : n = 5 := by
          by_cases h : n < 5
          · have := hR.few h; omega
          · omega
        have hl := hR.hl (by omega)
        rw [HN0.out, if_pos h5]
        split <;> omega)
      clear hd
      have hd : ¬ (ln + 1 ≤ ln) := by omega
      go_wp2_with fail
      refine (hL _).mono ?_
      rintro e w1 ⟨rfl, rfl⟩
      go_wp2_with fail
      go_ret2
      exact ⟨by rw [hfin.out]; rfl, rfl⟩
abbrev yv (x : Yr) : Value := .agg #[.int .i64 x.m, .int .i64 x.n, .int .i64 x.w, .int .i64 x.s, .int .i64 x.o]
theorem ryearly_any (x : Yr) (y : Int) (hx : YrOk x) (y1 : 1 ≤ y) (y2 : y ≤ 9999) (w : World) :
    Calls Try.prog 51 #[yv x, .int .i64 y] w fun e w' => e = .returned (.int .i64 (yearAt y x).at_) ∧ Below w.heap.size w w' := by
  obtain ⟨m, n, wd, s, o⟩ := x
  obtain ⟨m1, m2, n1, n2, w1', w2', s1, s2, ho⟩ := hx
  simp only at m1 m2 n1 n2 w1' w2' s1 s2 ho
  have HV := Lib.hid (valid_nth (wd := wd) y1 y2 m1 m2 n1 n2)
  have hD := rnth_any y m n wd y1 y2 m1 m2 n1 n2 w1' w2'
  have bx := (Below.refl w.heap.size w).alloc (Nat.le_refl _) (.cells #[.int .i64 m, .int .i64 n, .int .i64 wd, .int .i64 s, .int .i64 o] 50)
  rw [show (yearAt y ⟨m, n, wd, s, o⟩).at_ = Civ.num y m (nthOf y m n wd) * 86400 + s from rfl]
  have hDy := rdays_yes _ _ _ HV.out
  obtain ⟨nb1, nb2⟩ := Civ.num_bd HV.out
  generalize Civ.num y m (nthOf y m n wd) = N at *
  go_enter Try.func51, Try.ntmps51
  go_wp2_with fail
  refine (hD _).mono ?_
  rintro e w3 ⟨rfl, rfl⟩
  clear hD
  go_wp2_with fail
  refine (hDy _).mono ?_
  rintro e w3 ⟨rfl, rfl⟩
  go_wp2_with fail
  go_ret
  exact ⟨rfl, bx⟩
noncomputable def rightB (x : Yr) : Bool := @decide (YrOk x) (Classical.propDecidable _)
theorem rightB_yes {x : Yr} (h : YrOk x) : rightB x = true := @decide_eq_true _ (Classical.propDecidable _) h
theorem rightB_no {x : Yr} (h : ¬ YrOk x) : rightB x = false := @decide_eq_false _ (Classical.propDecidable _) h
set_option maxHeartbeats 2000000 in
theorem rright_any (x : Yr) (w : World) : Calls Try.prog 39 #[yv x] w fun e w' => e = .returned (.bool (rightB x)) ∧ Below w.heap.size w w' := by
  obtain ⟨m, n, wd, s, o⟩ := x
  have bx := (Below.refl w.heap.size w).alloc (Nat.le_refl _) (.cells #[.int .i64 m, .int .i64 n, .int .i64 wd, .int .i64 s, .int .i64 o] 50)
  by_cases k0 : 1 ≤ m
  · have kt0 := decide_eq_true k0
    by_cases k1 : m ≤ 12
    · have kt1 := decide_eq_true k1
      by_cases k2 : 1 ≤ n
      · have kt2 := decide_eq_true k2
        by_cases k3 : n ≤ 5
        · have kt3 := decide_eq_true k3
          by_cases k4 : 0 ≤ wd
          · have kt4 := decide_eq_true k4
            by_cases k5 : wd ≤ 6
            · have kt5 := decide_eq_true k5
              by_cases k6 : 0 ≤ s
              · have kt6 := decide_eq_true k6
                by_cases k7 : s < 86400
                · have kt7 := decide_eq_true k7
                  by_cases k8 : -64800 ≤ o
                  · have kt8 := decide_eq_true k8
                    by_cases k9 : o ≤ 64800
                    · have kt9 := decide_eq_true k9
                      rw [rightB_yes ⟨k0, k1, k2, k3, k4, k5, k6, k7, ⟨k8, k9⟩⟩]
                      go_enter Try.func39, Try.ntmps39
                      go_wp2_with fail
                      go_ret
                      exact ⟨rfl, bx⟩
                    · have kt9 := decide_eq_false k9
                      rw [rightB_no fun h => k9 h.o.2]
                      go_enter Try.func39, Try.ntmps39
                      go_wp2_with fail
                      go_ret
                      exact ⟨rfl, bx⟩
                  · have kt8 := decide_eq_false k8
                    rw [rightB_no fun h => k8 h.o.1]
                    go_enter Try.func39, Try.ntmps39
                    go_wp2_with fail
                    go_ret
                    exact ⟨rfl, bx⟩
                · have kt7 := decide_eq_false k7
                  rw [rightB_no fun h => k7 h.s2]
                  go_enter Try.func39, Try.ntmps39
                  go_wp2_with fail
                  go_ret
                  exact ⟨rfl, bx⟩
              · have kt6 := decide_eq_false k6
                rw [rightB_no fun h => k6 h.s1]
                go_enter Try.func39, Try.ntmps39
                go_wp2_with fail
                go_ret
                exact ⟨rfl, bx⟩
            · have kt5 := decide_eq_false k5
              rw [rightB_no fun h => k5 h.w2]
              go_enter Try.func39, Try.ntmps39
              go_wp2_with fail
              go_ret
              exact ⟨rfl, bx⟩
          · have kt4 := decide_eq_false k4
            rw [rightB_no fun h => k4 h.w1]
            go_enter Try.func39, Try.ntmps39
            go_wp2_with fail
            go_ret
            exact ⟨rfl, bx⟩
        · have kt3 := decide_eq_false k3
          rw [rightB_no fun h => k3 h.n2]
          go_enter Try.func39, Try.ntmps39
          go_wp2_with fail
          go_ret
          exact ⟨rfl, bx⟩
      · have kt2 := decide_eq_false k2
        rw [rightB_no fun h => k2 h.n1]
        go_enter Try.func39, Try.ntmps39
        go_wp2_with fail
        go_ret
        exact ⟨rfl, bx⟩
    · have kt1 := decide_eq_false k1
      rw [rightB_no fun h => k1 h.m2]
      go_enter Try.func39, Try.ntmps39
      go_wp2_with fail
      go_ret
      exact ⟨rfl, bx⟩
  · have kt0 := decide_eq_false k0
    rw [rightB_no fun h => k0 h.m1]
    go_enter Try.func39, Try.ntmps39
    go_wp2_with fail
    go_ret
    exact ⟨rfl, bx⟩
end Go.Proofs.Ytbnchbcdgffkaaa
