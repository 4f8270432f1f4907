/- frame.step: so many bits of a sum. -/
import Derived.Test.YtkhbpaloicefdaaChecked
import Derived.KernelRfl
import Derived.Outline
import Derived.Laws.Rows
import Derived.WalkKit
import Derived.ProofKit
import Derived.Below
import Derived.OwnWalk
import Derived.Lib.Hide
import Derived.Laws.BitsAllLaws
import Derived.Test.YtkhbpaloicefdaaCrc
namespace Go.Proofs.Ytkhbpaloicefdaa
open Go.RowKit
theorem low_bit {r : Nat} (hr : r < 4294967296) : bits .and .u32 (r : Int) 1 = ((r % 2 : Nat) : Int) := by
  have h := u32_and_nat r 1 hr (by decide)
  rw [Nat.and_one_is_mod] at h
  exact h
theorem turn_poly {r : Nat} (hr : r < 4294967296) : bits .xor .u32 ((r : Int) / 2) 3988292384 = ((r / 2 ^^^ Crc.poly : Nat) : Int) := by
  have h := u32_xor_nat (r / 2) 3988292384 (by omega) (by decide)
  simpa [Crc.poly] using h
set_option maxRecDepth 100000 in
set_option maxHeartbeats 1000000 in
theorem step_any (s k : Nat) (hs : s < 4294967296) (hk : k ≤ 64) (w : World) :
    Calls Try.prog 48 #[.int .u32 s, .int .i64 k] w fun e w' => e = .returned (.int .u32 (Crc.stps k s : Nat)) ∧ w = w' := by
  go_enter Try.func48, Try.ntmps48
  go_wp2_with fail
  go_loopw [0, 7] (fun x i wr => ∃ j r : Nat, j ≤ k ∧ i = .int .i64 j ∧ x = .int .u32 r ∧ r < 4294967296 ∧ Hid (Crc.stps (k - j) r = Crc.stps k s) ∧ wr = w) (fun _ i _ => k - (intOf i).toNat)
  case atStart => exact ⟨0, s, Nat.zero_le _, rfl, rfl, hs, Lib.hid rfl, rfl⟩
  case round =>
    obtain ⟨j, r, hj, rfl, rfl, hr, H, rfl⟩ := hrel
    by_cases hlt : j < k
    · have hst : Crc.stps (k - (j + 1)) (Crc.stp r) = Crc.stps (k - j) r := by
        rw [show k - j = (k - (j + 1)) + 1 by omega]; rfl
      have hlow := low_bit hr
      have hst2 : Hid (Crc.stps (k - (j + 1)) (Crc.stp r) = Crc.stps k s) := Lib.hid (hst.trans H.out)
      clear hst H
      rcases Nat.mod_two_eq_zero_or_one r with h0 | h0
      · rw [h0] at hlow
        have hs0 : Crc.stp r = r / 2 := by unfold Crc.stp; rw [if_neg (by omega)]
        rw [hs0] at hst2
        clear hs0 h0
        go_wp2_with fail
        go_roundw
        case rel => exact ⟨j + 1, r / 2, by omega, by go_num, by go_num, by omega, hst2, trivial⟩
        case measure => simp [intOf]; omega
      · rw [h0] at hlow
        have hs0 : Crc.stp r = r / 2 ^^^ Crc.poly := by unfold Crc.stp; rw [if_pos h0]
        rw [hs0] at hst2
        have hx := turn_poly hr
        have hb : r / 2 ^^^ Crc.poly < 4294967296 := Nat.xor_lt_two_pow (n := 32) (by omega) (by decide)
        clear hs0 h0
        go_wp2_with fail
        go_roundw
        case rel => exact ⟨j + 1, r / 2 ^^^ Crc.poly, by omega, by go_num, by first | rfl | (rw [hx]) | trivial, hb, hst2, trivial⟩
        case measure => simp [intOf]; omega
    · obtain rfl : k = j := by omega
      have hr2 : r = Crc.stps k s := by have := H.out; rw [Nat.sub_self] at this; exact this
      subst hr2
      go_wp2_with fail
      go_ret
      exact ⟨rfl, rfl⟩
end Go.Proofs.Ytkhbpaloicefdaa
