/- voklaw2.StampSums. -/
import Derived.Test.YtkeeocidinnnnaaDoorFst
namespace Go.Proofs.YtkeeocidinnnnaaDoor
open Go.RowKit
set_option linter.unusedVariables false
set_option maxRecDepth 100000 in
set_option maxHeartbeats 4000000 in
theorem stampSums_true {t x y : Int} {w : World} (ht : Tab w) (t1 : -9223372036854775808 ≤ t) (t2 : t ≤ 9223372036854775807) (x1 : -9223372036854775808 ≤ x) (x2 : x ≤ 9223372036854775807) (y1 : -9223372036854775808 ≤ y) (y2 : y ≤ 9223372036854775807) :
    Calls Tryd.prog 12 #[.int .i64 t, .int .i64 x, .int .i64 y] w fun e w' => e = .returned (.bool true) ∧ Below w.heap.size w w' := by
  have hA := add_any t x x1 x2
  by_cases q : MayT t ∧ MayT (t + x)
  · obtain ⟨q1, q2⟩ := q
    rw [addV_yes q1 q2] at hA
    have hB := add_any (t + x) y y1 y2
    obtain ⟨u1, u2⟩ := id q1
    obtain ⟨u3, u4⟩ := id q2
    by_cases p : MayT (t + x + y)
    · rw [addV_yes q2 p] at hB
      obtain ⟨u5, u6⟩ := id p
      have zxy : IntKind.i64.wrap (x + y) = x + y := wi64 (by omega) (by omega)
      have hC := add_any t (x + y) (by omega) (by omega)
      have p' : MayT (t + (x + y)) := by rw [← Int.add_assoc]; exact p
      rw [addV_yes q1 p', ← Int.add_assoc] at hC
      have zn : IntKind.i64.wrap (-y) = -y := wi64 (by omega) (by omega)
      have hE := add_any (t + x + y) (-y) (by omega) (by omega)
      have e0 : t + x + y + -y = t + x := by omega
      rw [addV_yes p (by rw [e0]; exact q2), e0] at hE
      clear q1 q2 p p' e0
      go_enter Tryd.func12, Tryd.ntmps12
      go_wp2_with fail
      have b := Below.refl w.heap.size w
      refine (first_any _ ht).mono ?_
      rintro e wz ⟨rfl, bb⟩
      replace ht := ht.below bb
      replace b := b.trans (bb.mono b.size)
      clear bb
      go_wp2_with fail
      refine (hA _).mono ?_
      rintro e w9 ⟨rfl, rfl⟩
      go_wp2_with fail
      refine (hB _).mono ?_
      rintro e w9 ⟨rfl, rfl⟩
      go_wp2_with fail
      refine (hC _).mono ?_
      rintro e w9 ⟨rfl, rfl⟩
      go_wp2_with fail
      refine (hE _).mono ?_
      rintro e w9 ⟨rfl, rfl⟩
      go_wp2_with fail
      refine (first_any _ ht).mono ?_
      rintro e wz ⟨rfl, bb⟩
      replace ht := ht.below bb
      replace b := b.trans (bb.mono b.size)
      clear bb
      go_wp2_with fail
      go_ret
      exact ⟨rfl, b⟩
    · rw [addV_no fun h => p h.2] at hB
      clear q1 q2 p
      go_enter Tryd.func12, Tryd.ntmps12
      go_wp2_with fail
      have b := Below.refl w.heap.size w
      refine (first_any _ ht).mono ?_
      rintro e wz ⟨rfl, bb⟩
      replace ht := ht.below bb
      replace b := b.trans (bb.mono b.size)
      clear bb
      go_wp2_with fail
      refine (hA _).mono ?_
      rintro e w9 ⟨rfl, rfl⟩
      go_wp2_with fail
      refine (hB _).mono ?_
      rintro e w9 ⟨rfl, rfl⟩
      go_wp2_with fail
      refine (first_any _ ht).mono ?_
      rintro e wz ⟨rfl, bb⟩
      replace ht := ht.below bb
      replace b := b.trans (bb.mono b.size)
      clear bb
      go_wp2_with fail
      go_ret
      exact ⟨rfl, b⟩
  · rw [addV_no q] at hA
    have hB := add_any 0 y y1 y2
    clear q
    go_enter Tryd.func12, Tryd.ntmps12
    go_wp2_with fail
    have b := Below.refl w.heap.size w
    refine (first_any _ ht).mono ?_
    rintro e wz ⟨rfl, bb⟩
    replace ht := ht.below bb
    replace b := b.trans (bb.mono b.size)
    clear bb
    go_wp2_with fail
    refine (hA _).mono ?_
    rintro e w9 ⟨rfl, rfl⟩
    go_wp2_with fail
    refine (hB _).mono ?_
    rintro e w9 ⟨rfl, rfl⟩
    go_wp2_with fail
    refine (first_any _ ht).mono ?_
    rintro e wz ⟨rfl, bb⟩
    replace ht := ht.below bb
    replace b := b.trans (bb.mono b.size)
    clear bb
    go_wp2_with fail
    go_ret
    exact ⟨rfl, b⟩
end Go.Proofs.YtkeeocidinnnnaaDoor
