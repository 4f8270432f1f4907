/- vokref10.Get: the document's answer. -/
import Derived.Test.YtkhbpaloicefdaaGet
import Derived.Test.YtkhbpaloicefdaaRput
namespace Go.Proofs.Ytkhbpaloicefdaa
open Go.RowKit
set_option linter.unusedVariables false
set_option maxRecDepth 100000 in
set_option maxHeartbeats 1000000 in
theorem num_two (ax : Addr) (c : Nat) (z0 z1 : Nat) (w : World) (c0 : w.cell? ax = some (.int .u8 (z0 : Int))) (c1 : w.cell? ⟨ax.block, ax.off + 1, none⟩ = some (.int .u8 (z1 : Int))) (x0 : z0 < 256) (x1 : z1 < 256) :
    Calls Try.prog 53 #[.slice (some ax) 2 c] w fun e w' => e = .returned (.int .i64 ((z0 * 256 + z1 : Nat) : Int)) ∧ w = w' := by
  go_enter Try.func53, Try.ntmps53
  go_wp2_with fail
  go_loopw [3, 4] (fun x i wr => ∃ j r : Nat, j ≤ 2 ∧ i = .int .i64 j ∧ x = .int .i64 r ∧ wr = w ∧ (j = 0 → r = 0) ∧ (j = 1 → r = z0) ∧ (j = 2 → r = z0 * 256 + z1)) (fun _ i _ => 2 - (intOf i).toNat)
  case atStart => exact ⟨0, 0, by omega, rfl, rfl, rfl, fun _ => rfl, fun h => absurd h (by decide), fun h => absurd h (by decide)⟩
  case round =>
    obtain ⟨j, r, hj, rfl, rfl, rfl, h0, h1, h2⟩ := hrel
    match j, hj with
    | 0, _ =>
      obtain rfl := h0 rfl
      clear h0 h1 h2
      go_wp2_with fail
      go_roundw
      case rel => exact ⟨1, z0, by omega, by go_num, by go_num, trivial, fun h => absurd h (by decide), fun _ => rfl, fun h => absurd h (by decide)⟩
      case measure => simp [intOf]
    | 1, _ =>
      obtain rfl := h1 rfl
      clear h0 h1 h2
      go_wp2_with fail
      go_roundw
      case rel => exact ⟨2, r * 256 + z1, by omega, by go_num, by go_num, trivial, fun h => absurd h (by decide), fun h => absurd h (by decide), fun _ => rfl⟩
      case measure => simp [intOf]
    | 2, _ =>
      obtain rfl := h2 rfl
      clear h0 h1 h2
      go_wp2_with fail
      go_ret
      exact ⟨rfl, rfl⟩
end Go.Proofs.Ytkhbpaloicefdaa
