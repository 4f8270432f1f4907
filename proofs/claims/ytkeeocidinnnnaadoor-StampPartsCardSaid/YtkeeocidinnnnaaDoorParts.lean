/- voklaw2.StampParts. -/
import Derived.Test.YtkeeocidinnnnaaDoorFst
namespace Go.Proofs.YtkeeocidinnnnaaDoor
open Go.RowKit
set_option linter.unusedVariables false
set_option maxRecDepth 100000 in
set_option maxHeartbeats 4000000 in
theorem stampParts_true {t : Int} {w : World} (ht : Tab w) (t1 : -9223372036854775808 ≤ t) (t2 : t ≤ 9223372036854775807) :
    Calls Tryd.prog 11 #[.int .i64 t] w fun e w' => e = .returned (.bool true) ∧ Below w.heap.size w w' := by
  have hDy := sday_any t t1 t2
  have hA := add_any t 1 (by omega) (by omega)
  have hM := may_any t
  have hM2 := may_any (t + 1)
  have e0 : t / 86400 * 86400 + t % 86400 = t := by omega
  have s1 : 0 ≤ t % 86400 := by omega
  have s2 : t % 86400 < 86400 := by omega
  have D1 : -200000000000000 ≤ t / 86400 := by omega
  have D2 : t / 86400 ≤ 200000000000000 := by omega
  have e1 : decide (t % 86400 < 0) = false := decide_eq_false (by omega)
  have e2 : decide (86399 < t % 86400) = false := decide_eq_false (by omega)
  generalize t / 86400 = D at *
  generalize t % 86400 = s at *
  by_cases q1 : -1125899906842624 < t
  · have q1t := decide_eq_true q1
    by_cases q2 : t < 1125899906842624
    · have q2t := decide_eq_true q2
      have zw : IntKind.i64.wrap (D * 86400) = D * 86400 := wi64 (by omega) (by omega)
      have zw2 : IntKind.i64.wrap (D * 86400 + s) = t := by rw [e0]; exact wi64 (by omega) (by omega)
      by_cases qm : MayT t
      · by_cases qn : MayT (t + 1)
        · rw [addV_yes qm qn] at hA
          rw [decide_eq_true qm] at hM
          have zt : IntKind.i64.wrap (t + 1) = t + 1 := wi64 (by omega) (by omega)
          clear hM2 qm qn
          go_enter Tryd.func11, Tryd.ntmps11
          go_wp2_with fail
          have b := Below.refl w.heap.size w
          refine (first_any _ ht).mono ?_
          rintro e wz ⟨rfl, bb⟩
          replace ht := ht.below bb
          replace b := b.trans (bb.mono b.size)
          clear bb
          go_wp2_with fail
          refine (hDy _).mono ?_
          rintro e w9 ⟨rfl, rfl⟩
          go_wp2_with fail
          refine (hA _).mono ?_
          rintro e w9 ⟨rfl, rfl⟩
          go_wp2_with fail
          refine (hM _).mono ?_
          rintro e w9 ⟨rfl, rfl⟩
          go_wp2_with fail
          refine (first_any _ ht).mono ?_
          rintro e wz ⟨rfl, bb⟩
          replace ht := ht.below bb
          replace b := b.trans (bb.mono b.size)
          clear bb
          go_wp2_with fail
          go_ret
          exact ⟨rfl, b⟩
        · rw [addV_no fun h => qn h.2] at hA
          rw [decide_eq_true qm] at hM
          rw [decide_eq_false qn] at hM2
          have zt : IntKind.i64.wrap (t + 1) = t + 1 := wi64 (by omega) (by omega)
          clear qm qn
          go_enter Tryd.func11, Tryd.ntmps11
          go_wp2_with fail
          have b := Below.refl w.heap.size w
          refine (first_any _ ht).mono ?_
          rintro e wz ⟨rfl, bb⟩
          replace ht := ht.below bb
          replace b := b.trans (bb.mono b.size)
          clear bb
          go_wp2_with fail
          refine (hDy _).mono ?_
          rintro e w9 ⟨rfl, rfl⟩
          go_wp2_with fail
          refine (hA _).mono ?_
          rintro e w9 ⟨rfl, rfl⟩
          go_wp2_with fail
          refine (hM _).mono ?_
          rintro e w9 ⟨rfl, rfl⟩
          go_wp2_with fail
          refine (first_any _ ht).mono ?_
          rintro e wz ⟨rfl, bb⟩
          replace ht := ht.below bb
          replace b := b.trans (bb.mono b.size)
          clear bb
          go_wp2_with fail
          refine (hM2 _).mono ?_
          rintro e w9 ⟨rfl, rfl⟩
          go_wp2_with fail
          go_ret
          exact ⟨rfl, b⟩
      · rw [addV_no fun h => qm h.1] at hA
        rw [decide_eq_false qm] at hM
        clear hM2
        replace qm := Lib.hid qm
        go_enter Tryd.func11, Tryd.ntmps11
        go_wp2_with fail
        have b := Below.refl w.heap.size w
        refine (first_any _ ht).mono ?_
        rintro e wz ⟨rfl, bb⟩
        replace ht := ht.below bb
        replace b := b.trans (bb.mono b.size)
        clear bb
        go_wp2_with fail
        refine (hDy _).mono ?_
        rintro e w9 ⟨rfl, rfl⟩
        go_wp2_with fail
        refine (hA _).mono ?_
        rintro e w9 ⟨rfl, rfl⟩
        go_wp2_with fail
        refine (hM _).mono ?_
        rintro e w9 ⟨rfl, rfl⟩
        go_wp2_with fail
        refine (first_any _ ht).mono ?_
        rintro e wz ⟨rfl, bb⟩
        replace ht := ht.below bb
        replace b := b.trans (bb.mono b.size)
        clear bb
        go_wp2_with fail
        go_ret
        exact ⟨rfl, b⟩
    · have q2t := decide_eq_false q2
      have qm : ¬ MayT t := fun h => by have := h.2; omega
      rw [addV_no fun h => qm h.1] at hA
      rw [decide_eq_false qm] at hM
      clear hM2
      replace qm := Lib.hid qm
      go_enter Tryd.func11, Tryd.ntmps11
      go_wp2_with fail
      have b := Below.refl w.heap.size w
      refine (first_any _ ht).mono ?_
      rintro e wz ⟨rfl, bb⟩
      replace ht := ht.below bb
      replace b := b.trans (bb.mono b.size)
      clear bb
      go_wp2_with fail
      refine (hDy _).mono ?_
      rintro e w9 ⟨rfl, rfl⟩
      go_wp2_with fail
      refine (hA _).mono ?_
      rintro e w9 ⟨rfl, rfl⟩
      go_wp2_with fail
      refine (hM _).mono ?_
      rintro e w9 ⟨rfl, rfl⟩
      go_wp2_with fail
      refine (first_any _ ht).mono ?_
      rintro e wz ⟨rfl, bb⟩
      replace ht := ht.below bb
      replace b := b.trans (bb.mono b.size)
      clear bb
      go_wp2_with fail
      go_ret
      exact ⟨rfl, b⟩
  · have q1t := decide_eq_false q1
    have qm : ¬ MayT t := fun h => by have := h.1; omega
    rw [addV_no fun h => qm h.1] at hA
    rw [decide_eq_false qm] at hM
    clear hM2
    replace qm := Lib.hid qm
    go_enter Tryd.func11, Tryd.ntmps11
    go_wp2_with fail
    have b := Below.refl w.heap.size w
    refine (first_any _ ht).mono ?_
    rintro e wz ⟨rfl, bb⟩
    replace ht := ht.below bb
    replace b := b.trans (bb.mono b.size)
    clear bb
    go_wp2_with fail
    refine (hDy _).mono ?_
    rintro e w9 ⟨rfl, rfl⟩
    go_wp2_with fail
    refine (hA _).mono ?_
    rintro e w9 ⟨rfl, rfl⟩
    go_wp2_with fail
    refine (hM _).mono ?_
    rintro e w9 ⟨rfl, rfl⟩
    go_wp2_with fail
    refine (first_any _ ht).mono ?_
    rintro e wz ⟨rfl, bb⟩
    replace ht := ht.below bb
    replace b := b.trans (bb.mono b.size)
    clear bb
    go_wp2_with fail
    go_ret
    exact ⟨rfl, b⟩
end Go.Proofs.YtkeeocidinnnnaaDoor
