/- voklaw2.StampFields. -/
import Derived.Test.YtkeeocidinnnnaaDoorFst
namespace Go.Proofs.YtkeeocidinnnnaaDoor
open Go.RowKit
set_option linter.unusedVariables false
set_option maxRecDepth 100000 in
set_option maxHeartbeats 4000000 in
theorem stampFields_true {y m d h mi s : Int} {w : World} (ht : Tab w)  :
    Calls Tryd.prog 9 #[.int .i64 y, .int .i64 m, .int .i64 d, .int .i64 h, .int .i64 mi, .int .i64 s] w fun e w' => e = .returned (.bool true) ∧ Below w.heap.size w w' := by
  have hM := make_any y m d h mi s
  by_cases v : Civ.valid y m d
  · have hD := days_yes y m d v
    by_cases k0 : 0 ≤ h
    · have kt0 := decide_eq_true k0
      by_cases k1 : h ≤ 23
      · have kt1 := decide_eq_true k1
        by_cases k2 : 0 ≤ mi
        · have kt2 := decide_eq_true k2
          by_cases k3 : mi ≤ 59
          · have kt3 := decide_eq_true k3
            by_cases k4 : 0 ≤ s
            · have kt4 := decide_eq_true k4
              by_cases k5 : s ≤ 59
              · have kt5 := decide_eq_true k5
                rw [mkV_yes v ⟨k0, k1, k2, k3, k4, k5⟩] at hM
                obtain ⟨b1, b2⟩ := Civ.num_bd v
                have hDy := sday_any (Civ.num y m d * 86400 + 3600 * h + 60 * mi + s) (by omega) (by omega)
                have e1 : (Civ.num y m d * 86400 + 3600 * h + 60 * mi + s) / 86400 = Civ.num y m d := by omega
                have e2 : (Civ.num y m d * 86400 + 3600 * h + 60 * mi + s) % 86400 = 3600 * h + 60 * mi + s := by omega
                have hMy := may_any (Civ.num y m d * 86400 + 3600 * h + 60 * mi + s)
                rw [decide_eq_true (show MayT (Civ.num y m d * 86400 + 3600 * h + 60 * mi + s) from ⟨by omega, by omega⟩)] at hMy
                rw [e1, e2] at hDy
                generalize Civ.num y m d * 86400 + 3600 * h + 60 * mi + s = t at *
                generalize Civ.num y m d = nn at *
                clear v e1 e2
                go_enter Tryd.func9, Tryd.ntmps9
                go_wp2_with fail
                have b := Below.refl w.heap.size w
                refine (first_any _ ht).mono ?_
                rintro e wz ⟨rfl, bb⟩
                replace ht := ht.below bb
                replace b := b.trans (bb.mono b.size)
                clear bb
                go_wp2_with fail
                refine (hM _).mono ?_
                rintro e w9 ⟨rfl, rfl⟩
                go_wp2_with fail
                refine (hD _).mono ?_
                rintro e w9 ⟨rfl, rfl⟩
                go_wp2_with fail
                refine (hDy _).mono ?_
                rintro e w9 ⟨rfl, rfl⟩
                go_wp2_with fail
                refine (first_any _ ht).mono ?_
                rintro e wz ⟨rfl, bb⟩
                replace ht := ht.below bb
                replace b := b.trans (bb.mono b.size)
                clear bb
                go_wp2_with fail
                refine (hMy _).mono ?_
                rintro e w9 ⟨rfl, rfl⟩
                go_wp2_with fail
                go_ret
                exact ⟨rfl, b⟩
              · have kt5 := decide_eq_false k5
                rw [mkV_no fun q => k5 q.2.2.2.2.2.2] at hM
                generalize Civ.num y m d = nn at *
                clear v
                go_enter Tryd.func9, Tryd.ntmps9
                go_wp2_with fail
                have b := Below.refl w.heap.size w
                refine (first_any _ ht).mono ?_
                rintro e wz ⟨rfl, bb⟩
                replace ht := ht.below bb
                replace b := b.trans (bb.mono b.size)
                clear bb
                go_wp2_with fail
                refine (hM _).mono ?_
                rintro e w9 ⟨rfl, rfl⟩
                go_wp2_with fail
                refine (hD _).mono ?_
                rintro e w9 ⟨rfl, rfl⟩
                go_wp2_with fail
                refine (first_any _ ht).mono ?_
                rintro e wz ⟨rfl, bb⟩
                replace ht := ht.below bb
                replace b := b.trans (bb.mono b.size)
                clear bb
                go_wp2_with fail
                go_ret
                exact ⟨rfl, b⟩
            · have kt4 := decide_eq_false k4
              rw [mkV_no fun q => k4 q.2.2.2.2.2.1] at hM
              generalize Civ.num y m d = nn at *
              clear v
              go_enter Tryd.func9, Tryd.ntmps9
              go_wp2_with fail
              have b := Below.refl w.heap.size w
              refine (first_any _ ht).mono ?_
              rintro e wz ⟨rfl, bb⟩
              replace ht := ht.below bb
              replace b := b.trans (bb.mono b.size)
              clear bb
              go_wp2_with fail
              refine (hM _).mono ?_
              rintro e w9 ⟨rfl, rfl⟩
              go_wp2_with fail
              refine (hD _).mono ?_
              rintro e w9 ⟨rfl, rfl⟩
              go_wp2_with fail
              refine (first_any _ ht).mono ?_
              rintro e wz ⟨rfl, bb⟩
              replace ht := ht.below bb
              replace b := b.trans (bb.mono b.size)
              clear bb
              go_wp2_with fail
              go_ret
              exact ⟨rfl, b⟩
          · have kt3 := decide_eq_false k3
            rw [mkV_no fun q => k3 q.2.2.2.2.1] at hM
            generalize Civ.num y m d = nn at *
            clear v
            go_enter Tryd.func9, Tryd.ntmps9
            go_wp2_with fail
            have b := Below.refl w.heap.size w
            refine (first_any _ ht).mono ?_
            rintro e wz ⟨rfl, bb⟩
            replace ht := ht.below bb
            replace b := b.trans (bb.mono b.size)
            clear bb
            go_wp2_with fail
            refine (hM _).mono ?_
            rintro e w9 ⟨rfl, rfl⟩
            go_wp2_with fail
            refine (hD _).mono ?_
            rintro e w9 ⟨rfl, rfl⟩
            go_wp2_with fail
            refine (first_any _ ht).mono ?_
            rintro e wz ⟨rfl, bb⟩
            replace ht := ht.below bb
            replace b := b.trans (bb.mono b.size)
            clear bb
            go_wp2_with fail
            go_ret
            exact ⟨rfl, b⟩
        · have kt2 := decide_eq_false k2
          rw [mkV_no fun q => k2 q.2.2.2.1] at hM
          generalize Civ.num y m d = nn at *
          clear v
          go_enter Tryd.func9, Tryd.ntmps9
          go_wp2_with fail
          have b := Below.refl w.heap.size w
          refine (first_any _ ht).mono ?_
          rintro e wz ⟨rfl, bb⟩
          replace ht := ht.below bb
          replace b := b.trans (bb.mono b.size)
          clear bb
          go_wp2_with fail
          refine (hM _).mono ?_
          rintro e w9 ⟨rfl, rfl⟩
          go_wp2_with fail
          refine (hD _).mono ?_
          rintro e w9 ⟨rfl, rfl⟩
          go_wp2_with fail
          refine (first_any _ ht).mono ?_
          rintro e wz ⟨rfl, bb⟩
          replace ht := ht.below bb
          replace b := b.trans (bb.mono b.size)
          clear bb
          go_wp2_with fail
          go_ret
          exact ⟨rfl, b⟩
      · have kt1 := decide_eq_false k1
        rw [mkV_no fun q => k1 q.2.2.1] at hM
        generalize Civ.num y m d = nn at *
        clear v
        go_enter Tryd.func9, Tryd.ntmps9
        go_wp2_with fail
        have b := Below.refl w.heap.size w
        refine (first_any _ ht).mono ?_
        rintro e wz ⟨rfl, bb⟩
        replace ht := ht.below bb
        replace b := b.trans (bb.mono b.size)
        clear bb
        go_wp2_with fail
        refine (hM _).mono ?_
        rintro e w9 ⟨rfl, rfl⟩
        go_wp2_with fail
        refine (hD _).mono ?_
        rintro e w9 ⟨rfl, rfl⟩
        go_wp2_with fail
        refine (first_any _ ht).mono ?_
        rintro e wz ⟨rfl, bb⟩
        replace ht := ht.below bb
        replace b := b.trans (bb.mono b.size)
        clear bb
        go_wp2_with fail
        go_ret
        exact ⟨rfl, b⟩
    · have kt0 := decide_eq_false k0
      rw [mkV_no fun q => k0 q.2.1] at hM
      generalize Civ.num y m d = nn at *
      clear v
      go_enter Tryd.func9, Tryd.ntmps9
      go_wp2_with fail
      have b := Below.refl w.heap.size w
      refine (first_any _ ht).mono ?_
      rintro e wz ⟨rfl, bb⟩
      replace ht := ht.below bb
      replace b := b.trans (bb.mono b.size)
      clear bb
      go_wp2_with fail
      refine (hM _).mono ?_
      rintro e w9 ⟨rfl, rfl⟩
      go_wp2_with fail
      refine (hD _).mono ?_
      rintro e w9 ⟨rfl, rfl⟩
      go_wp2_with fail
      refine (first_any _ ht).mono ?_
      rintro e wz ⟨rfl, bb⟩
      replace ht := ht.below bb
      replace b := b.trans (bb.mono b.size)
      clear bb
      go_wp2_with fail
      go_ret
      exact ⟨rfl, b⟩
  · have hD := days_no y m d v
    rw [mkV_no fun q => v q.1] at hM
    clear v
    go_enter Tryd.func9, Tryd.ntmps9
    go_wp2_with fail
    have b := Below.refl w.heap.size w
    refine (first_any _ ht).mono ?_
    rintro e wz ⟨rfl, bb⟩
    replace ht := ht.below bb
    replace b := b.trans (bb.mono b.size)
    clear bb
    go_wp2_with fail
    refine (hM _).mono ?_
    rintro e w9 ⟨rfl, rfl⟩
    go_wp2_with fail
    refine (hD _).mono ?_
    rintro e w9 ⟨rfl, rfl⟩
    go_wp2_with fail
    refine (first_any _ ht).mono ?_
    rintro e wz ⟨rfl, bb⟩
    replace ht := ht.below bb
    replace b := b.trans (bb.mono b.size)
    clear bb
    go_wp2_with fail
    go_ret
    exact ⟨rfl, b⟩
end Go.Proofs.YtkeeocidinnnnaaDoor
