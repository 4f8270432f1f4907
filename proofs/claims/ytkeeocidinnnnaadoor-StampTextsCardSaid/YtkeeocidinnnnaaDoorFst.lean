/- voklaw2.first. -/
import Derived.Test.YtkeeocidinnnnaaDoorPar
namespace Go.Proofs.YtkeeocidinnnnaaDoor
open Go.RowKit
set_option linter.unusedVariables false
theorem txt0 : txt 1970 1 1 (0 % 86400) = [49, 57, 55, 48, 48, 49, 48, 49, 84, 48, 48, 48, 48, 48, 48] := by decide +kernel
theorem dur5400 : dur 5400 = [80, 84, 49, 72, 51, 48, 77] := by decide +kernel
theorem dur2w : dur 1209600 = [80, 50, 87] := by decide +kernel
theorem text0 (w : World) (ht : Tab w) : Calls Tryd.prog 14 #[.int .i64 0] w fun e w' => e = .returned (.tuple #[.string { data := #[49, 57, 55, 48, 48, 49, 48, 49, 84, 48, 48, 48, 48, 48, 48] }, .int .i64 0]) ∧ Below w.heap.size w w' := by
  refine (text_yes 0 ⟨by omega, by omega⟩ w ht).mono ?_
  rintro e w' ⟨y, m, d, hv, hn, rfl, b⟩
  have h0 : Civ.valid 1970 1 1 := by unfold Civ.valid; decide
  obtain ⟨rfl, rfl, rfl⟩ := Civ.num_inj hv h0 (hn.trans (by decide))
  rw [txt0]
  exact ⟨rfl, b⟩
set_option maxHeartbeats 4000000 in
theorem first_any (w : World) (ht : Tab w) : Calls Tryd.prog 13 #[] w fun e w' => e = .returned (.bool true) ∧ Below w.heap.size w w' := by
  have h1 := dur_yes 5400 (by omega) (by omega)
  rw [dur5400] at h1
  have h2 := dur_yes 1209600 (by omega) (by omega)
  rw [dur2w] at h2
  go_enter Tryd.func13, Tryd.ntmps13
  go_wp2_with fail
  refine (text0 _ ht).mono ?_
  rintro e w1 ⟨rfl, b⟩
  replace ht := ht.below b
  go_wp2_with fail
  refine (parse_x _).mono ?_
  rintro e w2 ⟨rfl, rfl⟩
  go_wp2_with fail
  refine (h1 _ ht).mono ?_
  rintro e w3 ⟨rfl, bb⟩
  replace ht := ht.below bb
  replace b := b.trans (bb.mono b.size)
  clear bb
  go_wp2_with fail
  refine (h2 _ ht).mono ?_
  rintro e w4 ⟨rfl, bb⟩
  replace ht := ht.below bb
  replace b := b.trans (bb.mono b.size)
  clear bb
  go_wp2_with fail
  refine (durparse_x _ ht).mono ?_
  rintro e w5 ⟨rfl, bb⟩
  replace ht := ht.below bb
  replace b := b.trans (bb.mono b.size)
  clear bb
  go_wp2_with fail
  go_ret
  exact ⟨rfl, b⟩
end Go.Proofs.YtkeeocidinnnnaaDoor
