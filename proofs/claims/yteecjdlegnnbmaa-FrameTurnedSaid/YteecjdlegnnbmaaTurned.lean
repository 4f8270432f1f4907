/- FrameTurned: with one bit turned, a record is refused: the walk. -/
import Derived.Test.YteecjdlegnnbmaaTurn
namespace Go.Proofs.Yteecjdlegnnbmaa
open Go.RowKit
set_option linter.unusedVariables false
set_option maxRecDepth 100000 in
set_option maxHeartbeats 1000000 in
theorem turned_bytes (A : Option Addr) (c : Nat) (l : List Nat) (i : Int) (w : World) (ha : BytesAt w w.heap.size A l) (hs : Small l) (hr : Room A l.length c) (hi1 : -9223372036854775808 ≤ i) (hi2 : i ≤ 9223372036854775807) :
    Calls Try.prog 8 #[.slice A l.length c, .int .i64 i] w fun e w' => e = .returned (.bool true) ∧ Below w.heap.size w w' := by
  have hlm : l.length ≤ 9223372036854775807 := Nat.le_trans hr.le hr.max
  rcases (show 20000 < l.length ∨ (¬ 20000 < l.length ∧ i < 0) ∨ (¬ 20000 < l.length ∧ ¬ i < 0 ∧ 8192 < l.length) ∨ (¬ 20000 < l.length ∧ ¬ i < 0 ∧ ¬ 8192 < l.length) by omega) with r1 | ⟨r1, r2⟩ | ⟨r1, r2, r3⟩ | ⟨r1, r2, r3⟩
  case' inr.inr.inl =>
    go_enter Try.func8, Try.ntmps8
    go_wp2_with fail
    refine (first_any _).mono ?_
    rintro e w1 ⟨rfl, b1⟩
    have hw1 := b1.size
    go_wp2_with fail
    refine (put_no A c l.length w1 r3 (by simp only [maxLen]; omega)).mono ?_
    rintro e w2 ⟨rfl, rfl⟩
    go_wp2_with fail
    refine (first_any _).mono ?_
    rintro e w2 ⟨rfl, b2⟩
    go_wp2_with fail
    go_ret
    exact ⟨rfl, b1.trans (b2.mono hw1)⟩
  case' inr.inr.inr =>
    obtain ⟨bit, rfl⟩ := Int.eq_ofNat_of_zero_le (show 0 ≤ i by omega)
    go_enter Try.func8, Try.ntmps8
    go_wp2_with fail
    refine (first_any _).mono ?_
    rintro e w1 ⟨rfl, b1⟩
    have hw1 := b1.size
    go_wp2_with fail
    refine (put_yes A c _ l w1 (ha.below b1) hw1 hs (by omega)).mono ?_
    rintro e w2 ⟨A2, c2, rfl, O2, b2⟩
    replace b2 := b1.trans (b2.mono hw1)
    have hw2 := b2.size
    clear b1
    have hrb : (recd l).length ≤ 8198 := by rw [recd_length]; omega
    have hrc : 6 ≤ (recd l).length := by rw [recd_length]; omega
    have hsR : Small (recd l) := recd_small hs (by omega)
    have hTurn := fun i y => getx_turned (p := l) hs (by omega) (i := i) (y := y)
    have HT := Lib.hid hTurn
    clear hTurn
    generalize recd l = R at O2 hrb hrc hsR HT ⊢
    obtain ⟨K, hK, hKl⟩ : ∃ K : Nat, (bit : Int) % (8 * ((R.length : Int) - 2)) = (K : Int) ∧ K < 8 * (R.length - 2) := by
      refine ⟨((bit : Int) % (8 * ((R.length : Int) - 2))).toNat, ?_, ?_⟩
      · rw [Int.toNat_of_nonneg (Int.emod_nonneg _ (by omega))]
      · have := Int.emod_lt_of_pos (bit : Int) (show 0 < 8 * ((R.length : Int) - 2) by omega)
        have := Int.emod_nonneg (bit : Int) (show 8 * ((R.length : Int) - 2) ≠ 0 by omega)
        omega
    obtain ⟨i, hi⟩ : ∃ i, i = K / 8 + 2 := ⟨_, rfl⟩
    have k1 : (K : Int).tdiv 8 = (((i - 2 : Nat)) : Int) := by rw [Int.tdiv_eq_ediv_of_nonneg (by omega)]; omega
    have k2 : (2 : Int) + (((i - 2 : Nat)) : Int) = (i : Int) := by omega
    have hiR : i < R.length := by omega
    have hi2 : 2 ≤ i := by omega
    have hq : ((i - 2 : Nat) : Int) ≤ 10000 := by omega
    obtain ⟨t, ht, ht8⟩ : ∃ t : Nat, (K : Int).tmod 8 = (t : Int) ∧ t < 8 := ⟨K % 8, by rw [Int.tmod_eq_emod_of_nonneg (by omega)]; omega, by omega⟩
    clear hi
    obtain ⟨g, cp, hv, hgB⟩ := O2.named (by omega)
    injection hv with hv1 _ hv2
    subst hv1 hv2
    have pd := O2.at_ hiR
    have fd := O2.froz i
    go_wp2_with fail
    obtain ⟨y, hb, hy, hne⟩ : ∃ y : Nat, bits .xor .u8 (R[i] : Int) (2 ^ t % 256) = (y : Int) ∧ y < 256 ∧ y ≠ R[i] := by
      have hp : 2 ^ t < 256 := Nat.pow_lt_pow_right (n := 8) (by decide) ht8
      have hpos : 0 < 2 ^ t := Nat.two_pow_pos t
      have hR := hsR.get hiR
      refine ⟨R[i] ^^^ 2 ^ t, ?_, Nat.xor_lt_two_pow (n := 8) hR hp, fun e => ?_⟩
      · rw [← u8_xor_nat _ _ hR hp]
        congr 1
        have : ((2 ^ t : Nat) : Int) % 256 = ((2 ^ t : Nat) : Int) := by omega
        rw [← this]
        simp
      · have h4 : R[i] ^^^ (R[i] ^^^ 2 ^ t) = R[i] ^^^ R[i] := by rw [e]
        rw [← Nat.xor_assoc, Nat.xor_self, Nat.zero_xor] at h4
        omega
    rw [hb]
    have O3 := O2.set_ hiR y
    have hbad := HT.out i y hi2 hiR hy hne
    have hsm := hsR.set (p := i) hy
    have hlen : (R.set i y).length = R.length := List.length_set
    have b3 := b2.setCell (p := ⟨g, i, none⟩) (Nat.le_trans hw1 hgB) (.int .u8 (y : Int))
    clear hb hne HT hK k1 k2 ht pd fd b2 O2
    generalize R.set i y = R2 at O3 hbad hsm hlen
    generalize w2.setCell ⟨g, i, none⟩ (.int .u8 (y : Int)) = w3 at O3 b3 ⊢
    have hw3 := b3.size
    have hG := get_own O3 hsm 0 (by decide) (by decide) ((getd_zero R2).trans hbad)
    have hSc := scand_err ((getd_zero R2).trans hbad)
    rw [hlen] at hG
    refine hG.mono ?_
    rintro e w4 ⟨rfl, b4⟩
    replace O3 := O3.below b4 (Nat.le_refl _)
    replace b4 := b3.trans (b4.mono hw3)
    have hw4 := b4.size
    clear hG b3
    have hS := scan_any _ c2 _ R2 w4 O3.reads (Nat.le_refl _) hsm O3.room (by omega)
    rw [hSc, hlen] at hS
    clear hbad hSc hlen
    go_wp2_with fail
    refine hS.mono ?_
    rintro e w5 ⟨A5, c5, xs, rfl, _, _, b5⟩
    replace b5 := b4.trans (b5.mono hw4)
    have hw5 := b5.size
    clear b4 hS
    go_wp2_with fail
    refine (first_any _).mono ?_
    rintro e w6 ⟨rfl, b6⟩
    go_wp2_with fail
    go_ret
    exact ⟨rfl, b5.trans (b6.mono hw5)⟩
  all_goals
    go_enter Try.func8, Try.ntmps8
    go_wp2_with fail
    refine (first_any _).mono ?_
    rintro e w1 ⟨rfl, b1⟩
    have hw1 := b1.size
    go_wp2_with fail
    refine (first_any _).mono ?_
    rintro e w2 ⟨rfl, b2⟩
    go_wp2_with fail
    go_ret
    exact ⟨rfl, b1.trans (b2.mono hw1)⟩
end Go.Proofs.Yteecjdlegnnbmaa
