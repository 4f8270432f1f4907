/- vokref10.Sum: the document's sum, bit by bit. -/
import Derived.Test.YtkhbpaloicefdaaCopy
namespace Go.Proofs.Ytkhbpaloicefdaa
open Go.RowKit
set_option maxRecDepth 100000 in
set_option maxHeartbeats 1000000 in
theorem rsum_any (A : Option Addr) (c B : Nat) (l : List Nat) (w : World) (ha : BytesAt w B A l) (hs : Small l) (hl : l.length ≤ maxLen) :
    Calls Try.prog 51 #[.slice A l.length c] w fun e w' => e = .returned (.int .u32 (Crc.crc l : Nat)) ∧ w = w' := by
  unfold maxLen at hl
  go_enter Try.func51, Try.ntmps51
  go_wp2_with fail
  go_loopw [3, 4] (fun x i wr => ∃ j : Nat, j ≤ l.length ∧ i = .int .i64 j ∧ x = .int .u32 (Crc.run Crc.ones (l.take j) : Nat) ∧ wr = w) (fun _ i _ => l.length - (intOf i).toNat)
  case atStart => exact ⟨0, Nat.zero_le _, rfl, rfl, rfl⟩
  case round =>
    obtain ⟨j, hj, rfl, rfl, rfl⟩ := hrel
    have hr : Crc.run Crc.ones (l.take j) < 4294967296 := Crc.run_lt (by decide) (hs.take j)
    by_cases hlt : j < l.length
    · obtain ⟨ad, rfl, hc0⟩ := ha.get hlt
      have hx := hs.get hlt
      have hnext : Crc.run Crc.ones (l.take (j + 1)) = Crc.stps 8 (Crc.run Crc.ones (l.take j) ^^^ l[j]) := by
        rw [List.take_succ_eq_append_getElem hlt, Crc.run_append]; rfl
      have HN := Lib.hid hnext
      clear hnext
      generalize Crc.run Crc.ones (l.take j) = s at hr HN ⊢
      generalize l[j] = x at hx HN hc0
      have hb := u32_xor_nat s x hr (by omega)
      have ht : s ^^^ x < 4294967296 := Nat.xor_lt_two_pow (n := 32) hr (by omega)
      generalize s ^^^ x = t at hb HN ht
      go_wp2_with fail
      obtain ⟨w5, rfl⟩ : ∃ w5 : World, w5 = wr := ⟨_, rfl⟩
      go_loopw [3, 5] (fun y i wr => ∃ n r : Nat, n ≤ 8 ∧ i = .int .i64 n ∧ y = .int .u32 r ∧ r < 4294967296 ∧ Hid (Crc.stps (8 - n) r = Crc.stps 8 t) ∧ wr = w5) (fun _ i _ => 8 - (intOf i).toNat)
      case atStart => exact ⟨0, t, by omega, rfl, by first | rfl | rw [hb], ht, Lib.hid rfl, rfl⟩
      case round =>
        obtain ⟨n, r, hn, rfl, rfl, hr2, H, rfl⟩ := hrel
        by_cases hn8 : n < 8
        · have hst : Crc.stps (8 - (n + 1)) (Crc.stp r) = Crc.stps (8 - n) r := by
            rw [show 8 - n = (8 - (n + 1)) + 1 by omega]; rfl
          have hlow := low_bit hr2
          have hst2 : Hid (Crc.stps (8 - (n + 1)) (Crc.stp r) = Crc.stps 8 t) := Lib.hid (hst.trans H.out)
          clear hst H
          rcases Nat.mod_two_eq_zero_or_one r with h0 | h0
          · rw [h0] at hlow
            have hs0 : Crc.stp r = r / 2 := by unfold Crc.stp; rw [if_neg (by omega)]
            rw [hs0] at hst2
            clear hs0 h0
            go_wp2_with fail
            go_roundw
            case rel => exact ⟨n + 1, r / 2, by omega, by go_num, by go_num, by omega, hst2, trivial⟩
            case measure => simp [intOf]; omega
          · rw [h0] at hlow
            have hs0 : Crc.stp r = r / 2 ^^^ Crc.poly := by unfold Crc.stp; rw [if_pos h0]
            rw [hs0] at hst2
            have hx2 := turn_poly hr2
            have hb2 : r / 2 ^^^ Crc.poly < 4294967296 := Nat.xor_lt_two_pow (n := 32) (by omega) (by decide)
            clear hs0 h0
            go_wp2_with fail
            go_roundw
            case rel => exact ⟨n + 1, r / 2 ^^^ Crc.poly, by omega, by go_num, by first | rfl | (rw [hx2]) | trivial, hb2, hst2, trivial⟩
            case measure => simp [intOf]; omega
        · obtain rfl : n = 8 := by omega
          have hr3 : r = Crc.stps 8 t := by have := H.out; rw [Nat.sub_self] at this; exact this
          have HR : Hid (Crc.run Crc.ones (l.take (j + 1)) = r) := Lib.hid (HN.out.trans hr3.symm)
          clear hr3
          go_wp2_with fail
          go_roundw
          case rel => exact ⟨j + 1, by omega, by go_num, by rw [HR.out], trivial⟩
          case measure => simp [intOf]; omega
    · obtain rfl : j = l.length := by omega
      have hend : Crc.run Crc.ones (l.take l.length) = Crc.run Crc.ones l := by rw [List.take_length]
      rw [hend] at hr ⊢
      have hx : bits .xor .u32 IntKind.u32.max (Crc.run Crc.ones l : Nat) = ((Crc.crc l : Nat) : Int) := by
        have h := u32_xor_nat 4294967295 (Crc.run Crc.ones l) (by decide) hr
        rw [Nat.xor_comm] at h
        exact h
      have HX := Lib.hid hx
      clear hx
      go_wp2_with fail
      go_ret
      exact ⟨congrArg (fun z => Ending.returned (.int .u32 z)) HX.out, rfl⟩
end Go.Proofs.Ytkhbpaloicefdaa
