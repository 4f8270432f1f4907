/- BoxWheel: put and taken in turn a box never fills: the walk. -/
import Derived.Test.YtegjpfdbfjfolaaArgs
namespace Go.Proofs.Ytegjpfdbfjfolaa
open Go.RowKit

/-- The numbers from a on, so many. -/
def upFrom (a : Nat) : Nat → List Int
  | 0 => []
  | n + 1 => (a : Int) :: upFrom (a + 1) n
theorem upFrom_length (a n : Nat) : (upFrom a n).length = n := by
  induction n generalizing a with
  | zero => rfl
  | succ n ih => simp [upFrom, ih]
theorem upFrom_snoc (a n : Nat) : upFrom a n ++ [((a + n : Nat) : Int)] = upFrom a (n + 1) := by
  induction n generalizing a with
  | zero => simp [upFrom]
  | succ n ih =>
    have h := ih (a + 1)
    rw [show a + 1 + n = a + (n + 1) by omega] at h
    rw [upFrom, List.cons_append, h]
    rfl
theorem wheel_grow {j n : Nat} (h : j + 1 < n) : upFrom (j + 1 - n) (min j (n - 1)) ++ [(j : Int)] = upFrom (j + 1 + 1 - n) (min (j + 1) (n - 1)) := by
  rw [show j + 1 - n = 0 by omega, show j + 1 + 1 - n = 0 by omega, Nat.min_eq_left (by omega), Nat.min_eq_left (by omega)]
  have := upFrom_snoc 0 j
  rwa [Nat.zero_add] at this
theorem wheel_turn {j n : Nat} (h0 : 1 ≤ n) (h : n ≤ j + 1) : upFrom (j + 1 - n) (min j (n - 1)) ++ [(j : Int)] = ((j + 1 - n : Nat) : Int) :: upFrom (j + 1 + 1 - n) (min (j + 1) (n - 1)) := by
  rw [Nat.min_eq_right (by omega), Nat.min_eq_right (by omega)]
  have := upFrom_snoc (j + 1 - n) (n - 1)
  rw [show j + 1 - n + (n - 1) = j by omega] at this
  rw [this, upFrom, show j + 1 - n + 1 = j + 1 + 1 - n by omega]
set_option maxHeartbeats 1000000 in
theorem wheel_any (sz m : Int) (w : World) (hs1 : -9223372036854775808 ≤ sz) (hs2 : sz ≤ 9223372036854775807) (hm1 : -9223372036854775808 ≤ m) (hm2 : m ≤ 9223372036854775807) :
    Calls Try.prog 4 #[.int .i64 sz, .int .i64 m] w fun e w' => e = .returned (.bool true) ∧ Below w.heap.size w w' := by
  by_cases hsz : 1 ≤ sz ∧ sz ≤ 1000
  · obtain ⟨n, rfl⟩ := Int.eq_ofNat_of_zero_le (show 0 ≤ sz by omega)
    by_cases hm : 0 ≤ m ∧ m ≤ 2000
    · obtain ⟨k, rfl⟩ := Int.eq_ofNat_of_zero_le (show 0 ≤ m by omega)
      have hd : decide ((k : Int) < 0) = false := by simp
      have hd2 : decide ((2000 : Int) < (k : Int)) = false := by simp; omega
      go_enter Try.func4, Try.ntmps4
      go_wp2_with fail
      refine (first_any _).mono ?_
      rintro e w1 ⟨rfl, b1⟩
      have hw1 := b1.size
      go_wp2_with fail
      refine (new_yes n (by omega) (by omega) _).mono ?_
      rintro e w2 ⟨rfl, rfl⟩
      have hn := newBox_at w1 n
      have b2 : Below w.heap.size w (newBox w1 n) := b1.trans ((newBox_below w1 n).mono hw1)
      have hns := newBox_size w1 n
      have hw2 : w.heap.size ≤ (newBox w1 n).heap.size := by omega
      generalize newBox w1 n = w2 at hn b2 hns hw2 ⊢
      obtain ⟨b, hb⟩ : ∃ b, b = w1.heap.size + 1 := ⟨_, rfl⟩
      obtain ⟨ch, hch⟩ : ∃ b, b = w1.heap.size := ⟨_, rfl⟩
      rw [← hb, ← hch] at hn
      rw [← hb]
      have hcw : w.heap.size ≤ ch := by omega
      clear hb hns hch hw1 b1
      go_wp2_with fail
      go_loopw [7, 8, 9] (fun i x y wr => ∃ j : Nat, j ≤ k ∧ i = .int .i64 j ∧ BoxAt wr b ch n (upFrom (j + 1 - n) (min j (n - 1))) ∧ Below w.heap.size w wr) (fun i _ _ _ => k - (intOf i).toNat)
      case atStart => exact ⟨0, Nat.zero_le _, rfl, by simpa [upFrom] using hn, b2⟩
      case round =>
        clear hn b2
        obtain ⟨j, hj, rfl, hbox, hbel⟩ := hrel
        have hwr := hbel.size
        by_cases hlt : j < k
        · have hlen1 : (upFrom (j + 1 - n) (min j (n - 1))).length < n := by rw [upFrom_length]; omega
          by_cases hjn : j + 1 < n
          · go_wp2_with fail
            refine (put_yes hbox hlen1 (j : Int)).mono ?_
            rintro e w3 ⟨rfl, h3, t3⟩
            have b3 := below_turned hbel t3 hcw hwr
            rw [wheel_grow hjn] at h3
            go_wp2_with fail
            go_roundw
            case rel => exact ⟨j + 1, by omega, by go_num, h3, b3⟩
            case measure => simp [intOf]; omega
          · go_wp2_with fail
            refine (put_yes hbox hlen1 (j : Int)).mono ?_
            rintro e w3 ⟨rfl, h3, t3⟩
            have b3 := below_turned hbel t3 hcw hwr
            have hw3 := b3.size
            rw [wheel_turn (by omega) (by omega)] at h3
            go_wp2_with fail
            refine (take_yes h3).mono ?_
            rintro e w4 ⟨rfl, h4, t4⟩
            have b4 := below_turned b3 t4 hcw hw3
            have hx : ((j : Int) + 1 - (n : Int)) = ((j + 1 - n : Nat) : Int) := by omega
            rw [← hx]
            clear hx
            go_wp2_with fail
            go_roundw
            case rel => exact ⟨j + 1, by omega, by go_num, h4, b4⟩
            case measure => simp [intOf]; omega
        · obtain rfl : k = j := by omega
          go_wp2_with fail
          refine (first_any _).mono ?_
          rintro e w4 ⟨rfl, b4⟩
          have hbox4 := hbox.keep (b4.block b hbox.ltb) (b4.block ch hbox.ltc)
          have bel4 := hbel.trans (b4.mono hwr)
          go_wp2_with fail
          refine (len_any hbox4).mono ?_
          rintro e w5 ⟨rfl, rfl⟩
          rw [upFrom_length]
          rcases Nat.lt_or_ge (n - 1) k with hln | hln
          · rw [Nat.min_eq_right (by omega), show ((n - 1 : Nat) : Int) = (n : Int) - 1 by omega]
            go_wp2_with fail
            go_ret
            exact ⟨rfl, bel4⟩
          · rw [Nat.min_eq_left (by omega)]
            go_wp2_with fail
            go_ret
            exact ⟨rfl, bel4⟩
    · rcases (show m < 0 ∨ (¬ m < 0 ∧ 2000 < m) by omega) with hneg | ⟨hneg, hbig⟩
      all_goals
        go_enter Try.func4, Try.ntmps4
        go_wp2_with fail
        refine (first_any _).mono ?_
        rintro e w1 ⟨rfl, b1⟩
        have hw1 := b1.size
        go_wp2_with fail
        refine (new_yes n (by omega) (by omega) _).mono ?_
        rintro e w2 ⟨rfl, rfl⟩
        have b2 : Below w.heap.size w (newBox w1 n) := b1.trans ((newBox_below w1 n).mono hw1)
        have hns := newBox_size w1 n
        generalize newBox w1 n = w2 at b2 hns ⊢
        have HS := Lib.hid hns
        clear hns
        go_wp2_with fail
        refine (first_any _).mono ?_
        rintro e w3 ⟨rfl, b3⟩
        go_wp2_with fail
        go_ret
        exact ⟨rfl, b2.trans (b3.mono (by have := HS.out; omega))⟩
  · go_enter Try.func4, Try.ntmps4
    go_wp2_with fail
    refine (first_any _).mono ?_
    rintro e w1 ⟨rfl, b1⟩
    have hw1 := b1.size
    go_wp2_with fail
    refine (new_no sz (by omega) _).mono ?_
    rintro e w2 ⟨rfl, rfl⟩
    go_wp2_with fail
    refine (first_any _).mono ?_
    rintro e w3 ⟨rfl, b3⟩
    go_wp2_with fail
    go_ret
    exact ⟨rfl, b1.trans (b3.mono hw1)⟩
end Go.Proofs.Ytegjpfdbfjfolaa
