/- voklaw2.StampRises. -/
import Derived.Test.YtkeeocidinnnnaaDoorRis
namespace Go.Proofs.YtkeeocidinnnnaaDoor
open Go.RowKit
set_option linter.unusedVariables false
set_option maxRecDepth 100000 in
set_option maxHeartbeats 4000000 in
theorem stampRises_true {x y : Int} {w : World} (ht : Tab w) (x1 : -9223372036854775808 ≤ x) (x2 : x ≤ 9223372036854775807) (y1 : -9223372036854775808 ≤ y) (y2 : y ≤ 9223372036854775807) :
    Calls Tryd.prog 5 #[.int .i64 x, .int .i64 y] w fun e w' => e = .returned (.bool true) ∧ Below w.heap.size w w' := by
  have htl : ∀ l : List UInt8, (⟨l.toArray⟩ : ByteArray).toList = l := fun l => by rw [Lib.toList_data]
  by_cases p : MayT x
  · by_cases q : MayT y
    · go_enter Tryd.func5, Tryd.ntmps5
      go_wp2_with fail
      have b := Below.refl w.heap.size w
      refine (first_any _ ht).mono ?_
      rintro e wz ⟨rfl, bb⟩
      replace ht := ht.below bb
      replace b := b.trans (bb.mono b.size)
      clear bb
      go_wp2_with fail
      refine (text_yes x p _ ht).mono ?_
      rintro e wz ⟨a1, b1, c1, v1, n1, rfl, bb⟩
      replace ht := ht.below bb
      replace b := b.trans (bb.mono b.size)
      clear bb
      have z1 := Lib.hid (And.intro v1 n1)
      clear v1 n1
      obtain ⟨X1, hX1⟩ : ∃ l, l = txt a1 b1 c1 (x % 86400) := ⟨_, rfl⟩
      rw [← hX1]
      replace hX1 := Lib.hid hX1
      go_wp2_with fail
      refine (text_yes y q _ ht).mono ?_
      rintro e wz ⟨a2, b2, c2, v2, n2, rfl, bb⟩
      replace ht := ht.below bb
      replace b := b.trans (bb.mono b.size)
      clear bb
      have z2 := Lib.hid (And.intro v2 n2)
      clear v2 n2
      obtain ⟨X2, hX2⟩ : ∃ l, l = txt a2 b2 c2 (y % 86400) := ⟨_, rfl⟩
      rw [← hX2]
      replace hX2 := Lib.hid hX2
      obtain ⟨r1, r2⟩ := rises z1.out.1 z1.out.2 z2.out.1 z2.out.2
      rw [← hX1.out, ← hX2.out] at r1 r2
      replace r2 : (X1 == X2) = (x == y) := r2
      go_wp2_with fail
      refine (first_any _ ht).mono ?_
      rintro e wz ⟨rfl, bb⟩
      replace ht := ht.below bb
      replace b := b.trans (bb.mono b.size)
      clear bb
      go_wp2_with fail
      go_ret
      exact ⟨rfl, b⟩
    · go_enter Tryd.func5, Tryd.ntmps5
      go_wp2_with fail
      have b := Below.refl w.heap.size w
      refine (first_any _ ht).mono ?_
      rintro e wz ⟨rfl, bb⟩
      replace ht := ht.below bb
      replace b := b.trans (bb.mono b.size)
      clear bb
      go_wp2_with fail
      refine (text_yes x p _ ht).mono ?_
      rintro e wz ⟨a1, b1, c1, v1, n1, rfl, bb⟩
      replace ht := ht.below bb
      replace b := b.trans (bb.mono b.size)
      clear bb
      have z1 := Lib.hid (And.intro v1 n1)
      clear v1 n1
      obtain ⟨X1, hX1⟩ : ∃ l, l = txt a1 b1 c1 (x % 86400) := ⟨_, rfl⟩
      rw [← hX1]
      replace hX1 := Lib.hid hX1
      go_wp2_with fail
      refine (text_no y q y1 y2 _).mono ?_
      rintro e w9 ⟨rfl, rfl⟩
      go_wp2_with fail
      refine (first_any _ ht).mono ?_
      rintro e wz ⟨rfl, bb⟩
      replace ht := ht.below bb
      replace b := b.trans (bb.mono b.size)
      clear bb
      go_wp2_with fail
      go_ret
      exact ⟨rfl, b⟩
  · by_cases q : MayT y
    · go_enter Tryd.func5, Tryd.ntmps5
      go_wp2_with fail
      have b := Below.refl w.heap.size w
      refine (first_any _ ht).mono ?_
      rintro e wz ⟨rfl, bb⟩
      replace ht := ht.below bb
      replace b := b.trans (bb.mono b.size)
      clear bb
      go_wp2_with fail
      refine (text_no x p x1 x2 _).mono ?_
      rintro e w9 ⟨rfl, rfl⟩
      go_wp2_with fail
      refine (text_yes y q _ ht).mono ?_
      rintro e wz ⟨a2, b2, c2, v2, n2, rfl, bb⟩
      replace ht := ht.below bb
      replace b := b.trans (bb.mono b.size)
      clear bb
      have z2 := Lib.hid (And.intro v2 n2)
      clear v2 n2
      obtain ⟨X2, hX2⟩ : ∃ l, l = txt a2 b2 c2 (y % 86400) := ⟨_, rfl⟩
      rw [← hX2]
      replace hX2 := Lib.hid hX2
      go_wp2_with fail
      refine (first_any _ ht).mono ?_
      rintro e wz ⟨rfl, bb⟩
      replace ht := ht.below bb
      replace b := b.trans (bb.mono b.size)
      clear bb
      go_wp2_with fail
      go_ret
      exact ⟨rfl, b⟩
    · go_enter Tryd.func5, Tryd.ntmps5
      go_wp2_with fail
      have b := Below.refl w.heap.size w
      refine (first_any _ ht).mono ?_
      rintro e wz ⟨rfl, bb⟩
      replace ht := ht.below bb
      replace b := b.trans (bb.mono b.size)
      clear bb
      go_wp2_with fail
      refine (text_no x p x1 x2 _).mono ?_
      rintro e w9 ⟨rfl, rfl⟩
      go_wp2_with fail
      refine (text_no y q y1 y2 _).mono ?_
      rintro e w9 ⟨rfl, rfl⟩
      go_wp2_with fail
      refine (first_any _ ht).mono ?_
      rintro e wz ⟨rfl, bb⟩
      replace ht := ht.below bb
      replace b := b.trans (bb.mono b.size)
      clear bb
      go_wp2_with fail
      go_ret
      exact ⟨rfl, b⟩
end Go.Proofs.YtkeeocidinnnnaaDoor
