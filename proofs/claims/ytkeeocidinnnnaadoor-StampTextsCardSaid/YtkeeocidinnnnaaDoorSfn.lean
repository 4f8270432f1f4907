/- stamp.Make, Day, Add; civil.Date of a number that is no day. -/
import Derived.Test.YtkeeocidinnnnaaDoorDate
namespace Go.Proofs.YtkeeocidinnnnaaDoor
open Go.RowKit
set_option linter.unusedVariables false
/-- Is it a time of day? -/
def Clock (h mi s : Int) : Prop := 0 ≤ h ∧ h ≤ 23 ∧ 0 ≤ mi ∧ mi ≤ 59 ∧ 0 ≤ s ∧ s ≤ 59
instance (h mi s : Int) : Decidable (Clock h mi s) := by unfold Clock; infer_instance
/-- What Make gives. -/
def mkV (y m d h mi s : Int) : Int × Int := if Civ.valid y m d ∧ Clock h mi s then (Civ.num y m d * 86400 + 3600 * h + 60 * mi + s, 0) else (0, 1)
theorem mkV_yes {y m d h mi s : Int} (v : Civ.valid y m d) (c : Clock h mi s) : mkV y m d h mi s = (Civ.num y m d * 86400 + 3600 * h + 60 * mi + s, 0) := if_pos ⟨v, c⟩
theorem mkV_no {y m d h mi s : Int} (v : ¬ (Civ.valid y m d ∧ Clock h mi s)) : mkV y m d h mi s = (0, 1) := if_neg v
set_option maxHeartbeats 2000000 in
theorem make_any (y m d h mi s : Int) (w : World) : Calls Tryd.prog 24 #[.int .i64 y, .int .i64 m, .int .i64 d, .int .i64 h, .int .i64 mi, .int .i64 s] w fun e w' => e = .returned (.tuple #[.int .i64 (mkV y m d h mi s).1, .int .i64 (mkV y m d h mi s).2]) ∧ w = w' := by
  by_cases v : Civ.valid y m d
  · have hD := days_yes y m d v
    have hb := Civ.num_bd v
    by_cases k0 : h < 0
    · have kt0 := decide_eq_true k0
      rw [mkV_no fun q => by have := q.2.1; omega]
      generalize Civ.num y m d = nn at *
      clear v
      go_enter Tryd.func24, Tryd.ntmps24
      go_wp2_with fail
      refine (hD _).mono ?_
      rintro e w1 ⟨rfl, rfl⟩
      go_wp2_with fail
      go_ret2
      exact ⟨rfl, rfl⟩
    · have kt0 := decide_eq_false k0
      by_cases k1 : 23 < h
      · have kt1 := decide_eq_true k1
        rw [mkV_no fun q => by have := q.2.2.1; omega]
        generalize Civ.num y m d = nn at *
        clear v
        go_enter Tryd.func24, Tryd.ntmps24
        go_wp2_with fail
        refine (hD _).mono ?_
        rintro e w1 ⟨rfl, rfl⟩
        go_wp2_with fail
        go_ret2
        exact ⟨rfl, rfl⟩
      · have kt1 := decide_eq_false k1
        by_cases k2 : mi < 0
        · have kt2 := decide_eq_true k2
          rw [mkV_no fun q => by have := q.2.2.2.1; omega]
          generalize Civ.num y m d = nn at *
          clear v
          go_enter Tryd.func24, Tryd.ntmps24
          go_wp2_with fail
          refine (hD _).mono ?_
          rintro e w1 ⟨rfl, rfl⟩
          go_wp2_with fail
          go_ret2
          exact ⟨rfl, rfl⟩
        · have kt2 := decide_eq_false k2
          by_cases k3 : 59 < mi
          · have kt3 := decide_eq_true k3
            rw [mkV_no fun q => by have := q.2.2.2.2.1; omega]
            generalize Civ.num y m d = nn at *
            clear v
            go_enter Tryd.func24, Tryd.ntmps24
            go_wp2_with fail
            refine (hD _).mono ?_
            rintro e w1 ⟨rfl, rfl⟩
            go_wp2_with fail
            go_ret2
            exact ⟨rfl, rfl⟩
          · have kt3 := decide_eq_false k3
            by_cases k4 : s < 0
            · have kt4 := decide_eq_true k4
              rw [mkV_no fun q => by have := q.2.2.2.2.2.1; omega]
              generalize Civ.num y m d = nn at *
              clear v
              go_enter Tryd.func24, Tryd.ntmps24
              go_wp2_with fail
              refine (hD _).mono ?_
              rintro e w1 ⟨rfl, rfl⟩
              go_wp2_with fail
              go_ret2
              exact ⟨rfl, rfl⟩
            · have kt4 := decide_eq_false k4
              by_cases k5 : 59 < s
              · have kt5 := decide_eq_true k5
                rw [mkV_no fun q => by have := q.2.2.2.2.2.2; omega]
                generalize Civ.num y m d = nn at *
                clear v
                go_enter Tryd.func24, Tryd.ntmps24
                go_wp2_with fail
                refine (hD _).mono ?_
                rintro e w1 ⟨rfl, rfl⟩
                go_wp2_with fail
                go_ret2
                exact ⟨rfl, rfl⟩
              · have kt5 := decide_eq_false k5
                rw [mkV_yes v ⟨by omega, by omega, by omega, by omega, by omega, by omega⟩]
                generalize Civ.num y m d = nn at *
                obtain ⟨b1, b2⟩ := hb
                clear v
                go_enter Tryd.func24, Tryd.ntmps24
                go_wp2_with fail
                refine (hD _).mono ?_
                rintro e w1 ⟨rfl, rfl⟩
                go_wp2_with fail
                go_ret2
                exact ⟨rfl, rfl⟩
  · have hD := days_no y m d v
    rw [mkV_no fun q => v q.1]
    clear v
    go_enter Tryd.func24, Tryd.ntmps24
    go_wp2_with fail
    refine (hD _).mono ?_
    rintro e w1 ⟨rfl, rfl⟩
    go_wp2_with fail
    go_ret2
    exact ⟨rfl, rfl⟩
theorem sday_any (t : Int) (h1 : -9223372036854775808 ≤ t) (h2 : t ≤ 9223372036854775807) (w : World) : Calls Tryd.prog 26 #[.int .i64 t] w fun e w' => e = .returned (.tuple #[.int .i64 (t / 86400), .int .i64 (t % 86400)]) ∧ w = w' := by
  have hb := Int.lt_tmod_of_pos t (b := 86400) (by omega)
  have hb2 := Int.tmod_lt_of_pos t (b := 86400) (by omega)
  have hd := Int.tmod_add_mul_tdiv t 86400
  generalize ht : Int.tmod t 86400 = r at *
  generalize hq : Int.tdiv t 86400 = q at *
  have hqb1 : -200000000000000 ≤ q := by omega
  have hqb2 : q ≤ 200000000000000 := by omega
  by_cases hr : r < 0
  · have e1 : t / 86400 = q - 1 := by omega
    have e2 : t % 86400 = r + 86400 := by omega
    rw [e1, e2]
    clear e1 e2 hd
    go_enter Tryd.func26, Tryd.ntmps26
    go_wp2_with fail
    go_ret2
    exact ⟨rfl, rfl⟩
  · have e1 : t / 86400 = q := by omega
    have e2 : t % 86400 = r := by omega
    rw [e1, e2]
    clear e1 e2 hd
    go_enter Tryd.func26, Tryd.ntmps26
    go_wp2_with fail
    go_ret2
    exact ⟨rfl, rfl⟩
theorem date_no (n : Int) (h : ¬ (-719162 ≤ n ∧ n ≤ 2932896)) (w : World) : Calls Tryd.prog 32 #[.int .i64 n] w fun e w' => e = .returned (.tuple #[.int .i64 0, .int .i64 0, .int .i64 0, .int .i64 1]) ∧ w = w' := by
  have hD := day_any n
  rw [decide_eq_false h] at hD
  clear h
  go_enter Tryd.func32, Tryd.ntmps32
  go_wp2_with fail
  refine (hD _).mono ?_
  rintro e w1 ⟨rfl, rfl⟩
  go_wp2_with fail
  (try simp only [Exit.inBlock, Exit.then]); refine bodyPost_ret (results_four rfl _ _ _) rfl ?_
  exact ⟨rfl, rfl⟩
/-- What Add gives. -/
def addV (t n : Int) : Int × Int := if MayT t ∧ MayT (t + n) then (t + n, 0) else (0, 1)
theorem addV_yes {t n : Int} (h : MayT t) (g : MayT (t + n)) : addV t n = (t + n, 0) := if_pos ⟨h, g⟩
theorem addV_no {t n : Int} (h : ¬ (MayT t ∧ MayT (t + n))) : addV t n = (0, 1) := if_neg h
theorem add_any (t n : Int) (h1 : -9223372036854775808 ≤ n) (h2 : n ≤ 9223372036854775807) (w : World) : Calls Tryd.prog 29 #[.int .i64 t, .int .i64 n] w fun e w' => e = .returned (.tuple #[.int .i64 (addV t n).1, .int .i64 (addV t n).2]) ∧ w = w' := by
  have hM := may_any t
  by_cases q : MayT t
  · rw [decide_eq_true q] at hM
    have q0 := q
    obtain ⟨t1, t2⟩ := q
    by_cases k1 : n < -62135596800 - t
    · rw [addV_no fun h => by have := h.2.1; omega]
      have k1t := decide_eq_true k1
      go_enter Tryd.func29, Tryd.ntmps29
      go_wp2_with fail
      refine (hM _).mono ?_
      rintro e w1 ⟨rfl, rfl⟩
      go_wp2_with fail
      go_ret2
      exact ⟨rfl, rfl⟩
    · have k1t := decide_eq_false k1
      by_cases k2 : 253402300799 - t < n
      · rw [addV_no fun h => by have := h.2.2; omega]
        have k2t := decide_eq_true k2
        go_enter Tryd.func29, Tryd.ntmps29
        go_wp2_with fail
        refine (hM _).mono ?_
        rintro e w1 ⟨rfl, rfl⟩
        go_wp2_with fail
        go_ret2
        exact ⟨rfl, rfl⟩
      · have k2t := decide_eq_false k2
        rw [addV_yes q0 ⟨by omega, by omega⟩]
        have zw : IntKind.i64.wrap (t + n) = t + n := wi64 (by omega) (by omega)
        clear q0
        go_enter Tryd.func29, Tryd.ntmps29
        go_wp2_with fail
        refine (hM _).mono ?_
        rintro e w1 ⟨rfl, rfl⟩
        go_wp2_with fail
        go_ret2
        exact ⟨rfl, rfl⟩
  · rw [decide_eq_false q] at hM
    rw [addV_no fun h => q h.1]
    clear q
    go_enter Tryd.func29, Tryd.ntmps29
    go_wp2_with fail
    refine (hM _).mono ?_
    rintro e w1 ⟨rfl, rfl⟩
    go_wp2_with fail
    go_ret2
    exact ⟨rfl, rfl⟩
end Go.Proofs.YtkeeocidinnnnaaDoor
