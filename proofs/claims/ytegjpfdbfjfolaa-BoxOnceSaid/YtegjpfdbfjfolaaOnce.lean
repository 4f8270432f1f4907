/- BoxOnce: what was put is taken, once, in its order; what did not fit is not there: the walk. -/
import Derived.Test.YtegjpfdbfjfolaaArgs
namespace Go.Proofs.Ytegjpfdbfjfolaa
open Go.RowKit

theorem take_min {l : List Int} {j n : Nat} (h1 : j < l.length) (h2 : j < n) : l.take (min j n) ++ [l[j]] = l.take (min (j + 1) n) := by
  rw [Nat.min_eq_left (by omega), Nat.min_eq_left (by omega), List.take_succ_eq_append_getElem h1]
theorem take_stay {l : List Int} {j n : Nat} (h2 : n ≤ j) : l.take (min j n) = l.take (min (j + 1) n) := by
  rw [Nat.min_eq_right h2, Nat.min_eq_right (by omega)]
set_option maxHeartbeats 1000000 in
theorem once_ints (sz : Int) (A : Option Addr) (c : Nat) (l : List Int) (w : World) (hs1 : -9223372036854775808 ≤ sz) (hs2 : sz ≤ 9223372036854775807) (ha : IntsAt w w.heap.size A l) (hl : l.length ≤ maxLen) :
    Calls Try.prog 3 #[.int .i64 sz, .slice A l.length c] w fun e w' => e = .returned (.bool true) ∧ Below w.heap.size w w' := by
  unfold maxLen at hl
  by_cases hsz : 1 ≤ sz ∧ sz ≤ 1000
  · obtain ⟨n, rfl⟩ := Int.eq_ofNat_of_zero_le (show 0 ≤ sz by omega)
    by_cases hlen : l.length ≤ 1000
    · have hd : decide ((1000 : Int) < (l.length : Int)) = false := by simp; omega
      go_enter Try.func3, Try.ntmps3
      go_wp2_with fail
      refine (first_any _).mono ?_
      rintro e w1 ⟨rfl, b1⟩
      have hw1 := b1.size
      go_wp2_with fail
      refine (new_yes n (by omega) (by omega) _).mono ?_
      rintro e w2 ⟨rfl, rfl⟩
      have hn := newBox_at w1 n
      have b2 : Below w.heap.size w (newBox w1 n) := b1.trans ((newBox_below w1 n).mono hw1)
      have hns := newBox_size w1 n
      have hw2 : w.heap.size ≤ (newBox w1 n).heap.size := by omega
      generalize newBox w1 n = w2 at hn b2 hns hw2 ⊢
      obtain ⟨b, hb⟩ : ∃ b, b = w1.heap.size + 1 := ⟨_, rfl⟩
      obtain ⟨ch, hch⟩ : ∃ b, b = w1.heap.size := ⟨_, rfl⟩
      rw [← hb, ← hch] at hn
      rw [← hb]
      have hcw : w.heap.size ≤ ch := by omega
      clear hb hns hch hw1 b1
      go_wp2_with fail
      go_loopw [7] (fun i wr => ∃ j : Nat, j ≤ l.length ∧ i = .int .i64 j ∧ BoxAt wr b ch n (l.take (min j n)) ∧ Below w.heap.size w wr) (fun i _ => l.length - (intOf i).toNat)
      case atStart => exact ⟨0, Nat.zero_le _, rfl, by simpa using hn, b2⟩
      case round =>
        clear hn b2
        obtain ⟨j, hj, rfl, hbox, hbel⟩ := hrel
        have hwr := hbel.size
        by_cases hlt : j < l.length
        · obtain ⟨ad, rfl, hc0⟩ := (ha.kept hbel).get hlt
          by_cases hjn : j < n
          · have hlen1 : (l.take (min j n)).length < n := by rw [List.length_take]; omega
            go_wp2_with fail
            refine (put_yes hbox hlen1 l[j]).mono ?_
            rintro e w3 ⟨rfl, h3, t3⟩
            have b3 := below_turned hbel t3 hcw hwr
            rw [take_min hlt hjn] at h3
            clear hlen1
            go_wp2_with fail
            refine (len_any h3).mono ?_
            rintro e w4 ⟨rfl, rfl⟩
            have hlen2 : (l.take (min (j + 1) n)).length = j + 1 := by rw [List.length_take]; omega
            rw [hlen2]
            clear hlen2
            go_wp2_with fail
            go_roundw
            case rel => exact ⟨j + 1, by omega, by go_num, h3, b3⟩
            case measure => simp [intOf]; omega
          · have hlen1 : n ≤ (l.take (min j n)).length := by rw [List.length_take]; omega
            go_wp2_with fail
            refine (put_no hbox hlen1 l[j]).mono ?_
            rintro e w3 ⟨rfl, rfl⟩
            rw [take_stay (by omega)] at hbox
            clear hlen1
            go_wp2_with fail
            refine (len_any hbox).mono ?_
            rintro e w4 ⟨rfl, rfl⟩
            have hlen2 : (l.take (min (j + 1) n)).length = n := by rw [List.length_take]; omega
            rw [hlen2]
            clear hlen2
            go_wp2_with fail
            go_roundw
            case rel => exact ⟨j + 1, by omega, by go_num, hbox, hbel⟩
            case measure => simp [intOf]; omega
        · have hend : l.take (min j n) = l.take n := by
            rw [show j = l.length by omega]
            rcases Nat.le_total l.length n with h | h
            · rw [Nat.min_eq_left h, List.take_length, List.take_of_length_le h]
            · rw [Nat.min_eq_right h]
          rw [hend] at hbox
          clear hend
          go_wp2_with fail
          obtain ⟨w5, rfl⟩ : ∃ w5 : World, w5 = wr := ⟨_, rfl⟩
          go_loopw [8, 9, 10] (fun i x y wr => ∃ j : Nat, j ≤ min l.length n ∧ i = .int .i64 j ∧ BoxAt wr b ch n ((l.take n).drop j) ∧ Below w.heap.size w wr) (fun i _ _ _ => l.length - (intOf i).toNat)
          case atStart => exact ⟨0, Nat.zero_le _, rfl, by simpa using hbox, hbel⟩
          case round =>
            clear hbox hbel
            obtain ⟨j, hj, rfl, hbox, hbel⟩ := hrel
            have hwr := hbel.size
            by_cases hlt : j < min l.length n
            · have hjl : j < l.length := by omega
              obtain ⟨ad, rfl, hc0⟩ := (ha.kept hbel).get hjl
              have hdrop : (l.take n).drop j = l[j] :: (l.take n).drop (j + 1) := by
                rw [List.drop_eq_getElem_cons (by rw [List.length_take]; omega)]
                simp
              rw [hdrop] at hbox
              clear hdrop
              have hjn : j < n := by omega
              clear hlt
              rcases Nat.lt_or_ge n l.length with hln | hln
              all_goals
                go_wp2_with fail
                refine (take_yes hbox).mono ?_
                rintro e w3 ⟨rfl, h3, t3⟩
                have b3 := below_turned hbel t3 hcw hwr
                obtain ⟨ad', had, hc3⟩ := (ha.kept b3).get hjl
                injection had with had
                subst had
                go_wp2_with fail
                go_roundw
                case rel => exact ⟨j + 1, by omega, by go_num, h3, b3⟩
                case measure => simp [intOf]; omega
            · have hend : (l.take n).drop j = [] := List.drop_eq_nil_of_le (by rw [List.length_take]; omega)
              rw [hend] at hbox
              clear hend
              rcases Nat.lt_or_ge n l.length with hln | hln
              all_goals
                go_wp2_with fail
                refine (take_no hbox).mono ?_
                rintro e w3 ⟨rfl, rfl⟩
                go_wp2_with fail
                refine (first_any _).mono ?_
                rintro e w4 ⟨rfl, b4⟩
                have hbox4 := hbox.keep (b4.block b hbox.ltb) (b4.block ch hbox.ltc)
                have bel4 := hbel.trans (b4.mono hwr)
                go_wp2_with fail
                refine (len_any hbox4).mono ?_
                rintro e w5 ⟨rfl, rfl⟩
                go_wp2_with fail
                go_ret
                exact ⟨rfl, bel4⟩
    · have hd : decide ((1000 : Int) < (l.length : Int)) = true := by simp; omega
      go_enter Try.func3, Try.ntmps3
      go_wp2_with fail
      refine (first_any _).mono ?_
      rintro e w1 ⟨rfl, b1⟩
      have hw1 := b1.size
      go_wp2_with fail
      refine (new_yes n (by omega) (by omega) _).mono ?_
      rintro e w2 ⟨rfl, rfl⟩
      have b2 : Below w.heap.size w (newBox w1 n) := b1.trans ((newBox_below w1 n).mono hw1)
      have hns := newBox_size w1 n
      generalize newBox w1 n = w2 at b2 hns ⊢
      have HS := Lib.hid hns
      clear hns
      go_wp2_with fail
      refine (first_any _).mono ?_
      rintro e w3 ⟨rfl, b3⟩
      go_wp2_with fail
      go_ret
      exact ⟨rfl, b2.trans (b3.mono (by have := HS.out; omega))⟩
  · go_enter Try.func3, Try.ntmps3
    go_wp2_with fail
    refine (first_any _).mono ?_
    rintro e w1 ⟨rfl, b1⟩
    have hw1 := b1.size
    go_wp2_with fail
    refine (new_no sz (by omega) _).mono ?_
    rintro e w2 ⟨rfl, rfl⟩
    go_wp2_with fail
    refine (first_any _).mono ?_
    rintro e w3 ⟨rfl, b3⟩
    go_wp2_with fail
    go_ret
    exact ⟨rfl, b1.trans (b3.mono hw1)⟩
end Go.Proofs.Ytegjpfdbfjfolaa
