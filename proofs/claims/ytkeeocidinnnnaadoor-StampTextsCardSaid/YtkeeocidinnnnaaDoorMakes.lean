/- voklaw2.StampMakes. -/
import Derived.Test.YtkeeocidinnnnaaDoorFst
import Derived.Test.YtkeeocidinnnnaaDoorRcal
namespace Go.Proofs.YtkeeocidinnnnaaDoor
open Go.RowKit
set_option linter.unusedVariables false
set_option maxHeartbeats 2000000 in
theorem rmake_any (y m d h mi s : Int) (w : World) : Calls Tryd.prog 27 #[.int .i64 y, .int .i64 m, .int .i64 d, .int .i64 h, .int .i64 mi, .int .i64 s] w fun e w' => e = .returned (.tuple #[.int .i64 (mkV y m d h mi s).1, .int .i64 (mkV y m d h mi s).2]) ∧ w = w' := by
  by_cases v : Civ.valid y m d
  · have hD := rdays_yes y m d v
    have hb := Civ.num_bd v
    by_cases k0 : h < 0
    · have kt0 := decide_eq_true k0
      rw [mkV_no fun q => by have := q.2.1; omega]
      generalize Civ.num y m d = nn at *
      clear v
      go_enter Tryd.func27, Tryd.ntmps27
      go_wp2_with fail
      refine (hD _).mono ?_
      rintro e w1 ⟨rfl, rfl⟩
      go_wp2_with fail
      go_ret2
      exact ⟨rfl, rfl⟩
    · have kt0 := decide_eq_false k0
      by_cases k1 : 23 < h
      · have kt1 := decide_eq_true k1
        rw [mkV_no fun q => by have := q.2.2.1; omega]
        generalize Civ.num y m d = nn at *
        clear v
        go_enter Tryd.func27, Tryd.ntmps27
        go_wp2_with fail
        refine (hD _).mono ?_
        rintro e w1 ⟨rfl, rfl⟩
        go_wp2_with fail
        go_ret2
        exact ⟨rfl, rfl⟩
      · have kt1 := decide_eq_false k1
        by_cases k2 : mi < 0
        · have kt2 := decide_eq_true k2
          rw [mkV_no fun q => by have := q.2.2.2.1; omega]
          generalize Civ.num y m d = nn at *
          clear v
          go_enter Tryd.func27, Tryd.ntmps27
          go_wp2_with fail
          refine (hD _).mono ?_
          rintro e w1 ⟨rfl, rfl⟩
          go_wp2_with fail
          go_ret2
          exact ⟨rfl, rfl⟩
        · have kt2 := decide_eq_false k2
          by_cases k3 : 59 < mi
          · have kt3 := decide_eq_true k3
            rw [mkV_no fun q => by have := q.2.2.2.2.1; omega]
            generalize Civ.num y m d = nn at *
            clear v
            go_enter Tryd.func27, Tryd.ntmps27
            go_wp2_with fail
            refine (hD _).mono ?_
            rintro e w1 ⟨rfl, rfl⟩
            go_wp2_with fail
            go_ret2
            exact ⟨rfl, rfl⟩
          · have kt3 := decide_eq_false k3
            by_cases k4 : s < 0
            · have kt4 := decide_eq_true k4
              rw [mkV_no fun q => by have := q.2.2.2.2.2.1; omega]
              generalize Civ.num y m d = nn at *
              clear v
              go_enter Tryd.func27, Tryd.ntmps27
              go_wp2_with fail
              refine (hD _).mono ?_
              rintro e w1 ⟨rfl, rfl⟩
              go_wp2_with fail
              go_ret2
              exact ⟨rfl, rfl⟩
            · have kt4 := decide_eq_false k4
              by_cases k5 : 59 < s
              · have kt5 := decide_eq_true k5
                rw [mkV_no fun q => by have := q.2.2.2.2.2.2; omega]
                generalize Civ.num y m d = nn at *
                clear v
                go_enter Tryd.func27, Tryd.ntmps27
                go_wp2_with fail
                refine (hD _).mono ?_
                rintro e w1 ⟨rfl, rfl⟩
                go_wp2_with fail
                go_ret2
                exact ⟨rfl, rfl⟩
              · have kt5 := decide_eq_false k5
                rw [mkV_yes v ⟨by omega, by omega, by omega, by omega, by omega, by omega⟩]
                rw [show Civ.num y m d * 86400 + 3600 * h + 60 * mi + s = Civ.num y m d * 86400 + h * 3600 + mi * 60 + s by omega]
                generalize Civ.num y m d = nn at *
                obtain ⟨b1, b2⟩ := hb
                clear v
                go_enter Tryd.func27, Tryd.ntmps27
                go_wp2_with fail
                refine (hD _).mono ?_
                rintro e w1 ⟨rfl, rfl⟩
                go_wp2_with fail
                go_ret2
                exact ⟨rfl, rfl⟩
  · have hD := rdays_no y m d v
    rw [mkV_no fun q => v q.1]
    clear v
    go_enter Tryd.func27, Tryd.ntmps27
    go_wp2_with fail
    refine (hD _).mono ?_
    rintro e w1 ⟨rfl, rfl⟩
    go_wp2_with fail
    go_ret2
    exact ⟨rfl, rfl⟩
theorem radd_any (t n : Int) (h1 : -9223372036854775808 ≤ n) (h2 : n ≤ 9223372036854775807) (w : World) : Calls Tryd.prog 30 #[.int .i64 t, .int .i64 n] w fun e w' => e = .returned (.tuple #[.int .i64 (addV t n).1, .int .i64 (addV t n).2]) ∧ w = w' := by
  have hM := rmay_any t
  by_cases q : MayT t
  · rw [decide_eq_true q] at hM
    have q0 := q
    obtain ⟨t1, t2⟩ := q
    by_cases k1 : n < -506804601600
    · rw [addV_no fun h => by have := h.2.1; omega]
      have k1t := decide_eq_true k1
      clear q0
      go_enter Tryd.func30, Tryd.ntmps30
      go_wp2_with fail
      refine (hM _).mono ?_
      rintro e w1 ⟨rfl, rfl⟩
      go_wp2_with fail
      go_ret2
      exact ⟨rfl, rfl⟩
    · have k1t := decide_eq_false k1
      by_cases k2 : 506804601600 < n
      · rw [addV_no fun h => by have := h.2.2; omega]
        have k2t := decide_eq_true k2
        clear q0
        go_enter Tryd.func30, Tryd.ntmps30
        go_wp2_with fail
        refine (hM _).mono ?_
        rintro e w1 ⟨rfl, rfl⟩
        go_wp2_with fail
        go_ret2
        exact ⟨rfl, rfl⟩
      · have k2t := decide_eq_false k2
        have zw : IntKind.i64.wrap (t + n) = t + n := wi64 (by omega) (by omega)
        have hM2 := rmay_any (t + n)
        by_cases p : MayT (t + n)
        · rw [addV_yes q0 p]
          rw [decide_eq_true p] at hM2
          clear q0 p
          go_enter Tryd.func30, Tryd.ntmps30
          go_wp2_with fail
          refine (hM _).mono ?_
          rintro e w1 ⟨rfl, rfl⟩
          go_wp2_with fail
          refine (hM2 _).mono ?_
          rintro e w1 ⟨rfl, rfl⟩
          go_wp2_with fail
          go_ret2
          exact ⟨rfl, rfl⟩
        · rw [addV_no fun h => p h.2]
          rw [decide_eq_false p] at hM2
          clear q0 p
          go_enter Tryd.func30, Tryd.ntmps30
          go_wp2_with fail
          refine (hM _).mono ?_
          rintro e w1 ⟨rfl, rfl⟩
          go_wp2_with fail
          refine (hM2 _).mono ?_
          rintro e w1 ⟨rfl, rfl⟩
          go_wp2_with fail
          go_ret2
          exact ⟨rfl, rfl⟩
  · rw [decide_eq_false q] at hM
    rw [addV_no fun h => q h.1]
    clear q
    go_enter Tryd.func30, Tryd.ntmps30
    go_wp2_with fail
    refine (hM _).mono ?_
    rintro e w1 ⟨rfl, rfl⟩
    go_wp2_with fail
    go_ret2
    exact ⟨rfl, rfl⟩
set_option maxRecDepth 100000 in
set_option maxHeartbeats 4000000 in
theorem stampMakes_true {y m d h mi s t n : Int} {w : World} (ht : Tab w) (t1 : -9223372036854775808 ≤ t) (t2 : t ≤ 9223372036854775807) (n1 : -9223372036854775808 ≤ n) (n2 : n ≤ 9223372036854775807) :
    Calls Tryd.prog 10 #[.int .i64 y, .int .i64 m, .int .i64 d, .int .i64 h, .int .i64 mi, .int .i64 s, .int .i64 t, .int .i64 n] w fun e w' => e = .returned (.bool true) ∧ Below w.heap.size w w' := by
  have a1 := make_any y m d h mi s
  have a2 := rmake_any y m d h mi s
  generalize mkV y m d h mi s = V at a1 a2
  have b1 := sday_any t t1 t2
  have b2 := rday_any t t1 t2
  generalize t / 86400 = D at b1 b2
  generalize t % 86400 = R at b1 b2
  have c1 := add_any t n n1 n2
  have c2 := radd_any t n n1 n2
  generalize addV t n = U at c1 c2
  have d1 := may_any t
  have d2 := rmay_any t
  generalize decide (MayT t) = M at d1 d2
  go_enter Tryd.func10, Tryd.ntmps10
  go_wp2_with fail
  have b := Below.refl w.heap.size w
  refine (first_any _ ht).mono ?_
  rintro e wz ⟨rfl, bb⟩
  replace ht := ht.below bb
  replace b := b.trans (bb.mono b.size)
  clear bb
  go_wp2_with fail
  refine (a1 _).mono ?_
  rintro e w9 ⟨rfl, rfl⟩
  go_wp2_with fail
  refine (a2 _).mono ?_
  rintro e w9 ⟨rfl, rfl⟩
  go_wp2_with fail
  refine (b1 _).mono ?_
  rintro e w9 ⟨rfl, rfl⟩
  go_wp2_with fail
  refine (b2 _).mono ?_
  rintro e w9 ⟨rfl, rfl⟩
  go_wp2_with fail
  refine (c1 _).mono ?_
  rintro e w9 ⟨rfl, rfl⟩
  go_wp2_with fail
  refine (c2 _).mono ?_
  rintro e w9 ⟨rfl, rfl⟩
  go_wp2_with fail
  refine (first_any _ ht).mono ?_
  rintro e wz ⟨rfl, bb⟩
  replace ht := ht.below bb
  replace b := b.trans (bb.mono b.size)
  clear bb
  go_wp2_with fail
  refine (d1 _).mono ?_
  rintro e w9 ⟨rfl, rfl⟩
  go_wp2_with fail
  refine (d2 _).mono ?_
  rintro e w9 ⟨rfl, rfl⟩
  go_wp2_with fail
  go_ret
  exact ⟨rfl, b⟩
end Go.Proofs.YtkeeocidinnnnaaDoor
