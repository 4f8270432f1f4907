/- BoxFirsts: the walk. -/
import Derived.Test.YtegjpfdbfjfolaaFirsts
namespace Go.Proofs.Ytegjpfdbfjfolaa
open Go.RowKit

theorem cur_hit {ls : Nat → List Int} {r k : Nat} (h : k < (ls r).length) : cur ls r k r = (ls r)[k] :: (ls r).drop (k + 1) := by
  unfold cur
  rw [if_neg (by omega), if_pos rfl, List.drop_eq_getElem_cons h]
theorem cur_before {ls : Nat → List Int} {r k i : Nat} (h : i < r) : cur ls r k i = [] := by
  unfold cur
  rw [if_pos h]
theorem cur_next {ls : Nat → List Int} {r k i : Nat} (h : i ≠ r) : cur ls r k i = cur ls r (k + 1) i := by
  unfold cur
  by_cases hi : i < r
  · rw [if_pos hi, if_pos hi]
  · rw [if_neg hi, if_neg hi, if_neg h, if_neg h]
theorem cur_same {ls : Nat → List Int} {r k : Nat} : cur ls r (k + 1) r = (ls r).drop (k + 1) := by
  unfold cur
  rw [if_neg (by omega), if_pos rfl]
theorem cur_over {ls : Nat → List Int} {r k : Nat} (h : (ls r).length ≤ k) (i : Nat) : cur ls r k i = cur ls (r + 1) 0 i := by
  unfold cur
  by_cases hi : i < r
  · rw [if_pos hi, if_pos (by omega)]
  · rw [if_neg hi]
    by_cases he : i = r
    · subst he
      rw [if_pos rfl, if_pos (by omega), List.drop_eq_nil_of_le h]
    · rw [if_neg he, if_neg (by omega)]
      by_cases h2 : i = r + 1
      · subst h2; rw [if_pos rfl, List.drop_zero]
      · rw [if_neg h2]
theorem cur_start {ls : Nat → List Int} (i : Nat) : ls i = cur ls 0 0 i := by
  unfold cur
  rw [if_neg (by omega)]
  by_cases h : i = 0
  · rw [if_pos h, List.drop_zero]
  · rw [if_neg h]
set_option maxRecDepth 100000 in
set_option maxHeartbeats 4000000 in
theorem firsts_rows (A : Option Addr) (len c : Nat) (ls : Nat → List Int) (T : Int) (w : World) (ht1 : -9223372036854775808 ≤ T) (ht2 : T ≤ 9223372036854775807) (ha : RowsAt w w.heap.size A len ls) (hl : len ≤ maxLen) :
    Calls Try.prog 5 #[.slice A len c, .int .i64 T] w fun e w' => e = .returned (.bool true) ∧ Below w.heap.size w w' := by
  unfold maxLen at hl
  obtain ⟨i0, hi, hz0, hz1, hz2⟩ := info_parts ptr_row
  go_enter Try.func5, Try.ntmps5
  go_wp2_with fail
  refine (first_any _).mono ?_
  rintro e w1 ⟨rfl, b1⟩
  have hw1 := b1.size
  go_wp2_with fail
  go_loopw [5, 6] (fun n i wr => ∃ j N : Nat, j ≤ len ∧ j ≤ 30 ∧ n = .int .i64 N ∧ i = .int .i64 j ∧ wr = w1 ∧ N ≤ 301 * j ∧ (N ≤ 300 → ∀ r, r < j → (ls r).length ≤ 300)) (fun _ i _ => len - (intOf i).toNat)
  case atStart => exact ⟨0, 0, Nat.zero_le _, by omega, rfl, rfl, rfl, by omega, fun _ r hr => absurd hr (by omega)⟩
  case round =>
    obtain ⟨j, N, hj, hj30, rfl, rfl, rfl, hN, hall⟩ := hrel
    have HA := Lib.hid hall
    clear hall
    by_cases hlt : j < len ∧ j < 30
    · obtain ⟨hlt1, hlt2⟩ := hlt
      obtain ⟨ad, a, c', rfl, hc0, _⟩ := (ha.below b1).row hlt1
      rcases Nat.lt_or_ge (ls j).length 301 with hshort | hlong
      case' inl =>
        have key : N + (ls j).length ≤ 301 * (j + 1) ∧ (N + (ls j).length ≤ 300 → ∀ r, r < j + 1 → (ls r).length ≤ 300) := by
          refine ⟨by omega, fun h r hr => ?_⟩
          by_cases hrj : r = j
          · subst hrj; omega
          · exact HA.out (by omega) r (by omega)
        obtain ⟨M, hM⟩ : ∃ M, M = N + (ls j).length := ⟨_, rfl⟩
      case' inr =>
        have key : N + 301 ≤ 301 * (j + 1) ∧ (N + 301 ≤ 300 → ∀ r, r < j + 1 → (ls r).length ≤ 300) := ⟨by omega, fun h => absurd h (by omega)⟩
        obtain ⟨M, hM⟩ : ∃ M, M = N + 301 := ⟨_, rfl⟩
      all_goals
        have KEY := Lib.hid key
        have HM := Lib.hid hM
        clear key hM
        go_wp2_with fail
        go_roundw
        case rel => exact ⟨j + 1, M, by omega, by omega, by rw [HM.out]; go_num, by go_num, trivial, by rw [HM.out]; exact KEY.out.1, by rw [HM.out]; exact KEY.out.2⟩
        case measure => simp [intOf]; omega
    · have parts : (30 < len ∧ ¬ j < 30) ∨ ((len ≤ 30 ∧ ¬ j < len) ∧ 300 < N) ∨ ((len ≤ 30 ∧ ¬ j < len) ∧ ¬ 300 < N ∧ T < 0) ∨ ((len ≤ 30 ∧ ¬ j < len) ∧ ¬ 300 < N ∧ ¬ T < 0 ∧ 400 < T) ∨ ((len ≤ 30 ∧ ¬ j < len) ∧ ¬ 300 < N ∧ ¬ T < 0 ∧ ¬ 400 < T) := by omega
      rcases parts with ⟨q1, q2⟩ | ⟨⟨q1, q2⟩, q3⟩ | ⟨⟨q1, q2⟩, q3, q4⟩ | ⟨⟨q1, q2⟩, q3, q4, q5⟩ | ⟨⟨q1, q2⟩, q3, q4, q5⟩
      case' inr.inr.inr.inr => skip
      rotate_right
      rotate_left
      all_goals try (
        solve
        | (have q6 : j < len := by omega
           go_wp2_with fail
           refine (first_any _).mono ?_
           rintro e w2 ⟨rfl, b2⟩
           go_wp2_with fail
           go_ret
           exact ⟨rfl, b1.trans (b2.mono hw1)⟩)
        | (go_wp2_with fail
           refine (first_any _).mono ?_
           rintro e w2 ⟨rfl, b2⟩
           go_wp2_with fail
           go_ret
           exact ⟨rfl, b1.trans (b2.mono hw1)⟩))
      obtain ⟨t, rfl⟩ := Int.eq_ofNat_of_zero_le (show 0 ≤ T by omega)
      have ht4 : t ≤ 400 := by omega
      have hlens : Hid (∀ r, r < len → (ls r).length ≤ 300) := Lib.hid (fun r hr => HA.out (by omega) r (by omega))
      clear HA
      go_wp2_with fail
      go_loopw [7, 8] (fun sv i wr => ∃ (j : Nat) (f : Nat → Nat × Nat) (cap : Nat → Nat) (v : Value), j ≤ len ∧ i = .int .i64 j ∧ v = sv ∧ Squad w j f cap ls v wr) (fun _ i _ => len - (intOf i).toNat)
      case atStart => exact ⟨0, fun _ => (0, 0), fun _ => 0, _, Nat.zero_le _, rfl, rfl, Squad.start b1⟩
      case round =>
        clear b1 hw1 hN hj hj30 q1 q2 q3
        obtain ⟨j, f, cap, v, hj, rfl, rfl, S⟩ := hrel
        have hwr := S.size
        by_cases hlt : j < len
        · obtain ⟨ad, a, c', rfl, hc0, _⟩ := (ha.below S.bel).row hlt
          have hlj := hlens.out j hlt
          go_wp2_with fail
          refine (new_yes ((ls j).length + 1) (by omega) (by omega) _).mono ?_
          rintro e w2 ⟨rfl, rfl⟩
          have J := S.joins ((ls j).length + 1)
          have hnb := newBox_below wr ((ls j).length + 1)
          generalize newBox wr ((ls j).length + 1) = w2 at J hnb ⊢
          obtain ⟨bn, hbn⟩ : ∃ b, b = wr.heap.size + 1 := ⟨_, rfl⟩
          obtain ⟨cn, hcn⟩ : ∃ b, b = wr.heap.size := ⟨_, rfl⟩
          rw [← hbn, ← hcn] at J
          rw [← hbn]
          clear hbn hcn hnb S hc0
          go_wp2_with fail
          go_loopw [11] (fun i wr => ∃ k : Nat, k ≤ (ls j).length ∧ i = .int .i64 k ∧ Joins w j f cap ls v bn cn ((ls j).length + 1) wr ((ls j).take k)) (fun i _ => (ls j).length - (intOf i).toNat)
          case atStart => exact ⟨0, Nat.zero_le _, rfl, J⟩
          case round =>
            clear J
            obtain ⟨k, hk, rfl, J⟩ := hrel
            by_cases hkl : k < (ls j).length
            · obtain ⟨ad', a, c', had, hc0, hc1⟩ := (ha.below J.sq.bel).num hlt hkl
              injection had with had
              subst had
              have hroom : ((ls j).take k).length < (ls j).length + 1 := by rw [List.length_take]; omega
              go_wp2_with fail
              refine (put_yes J.box hroom _).mono ?_
              rintro e w3 ⟨rfl, h3, t3⟩
              rw [← List.take_succ_eq_append_getElem hkl] at h3
              have J3 := J.put h3 t3
              obtain ⟨ad', a, c', had, hc0', hc1'⟩ := (ha.below J3.sq.bel).num hlt hkl
              injection had with had
              subst had
              go_wp2_with fail
              go_roundw
              case rel => exact ⟨k + 1, by omega, by go_num, J3⟩
              case measure => simp [intOf]; omega
            · obtain ⟨ad', a, c', had, hc0, _⟩ := (ha.below J.sq.bel).row hlt
              injection had with had
              subst had
              have J2 : Joins w j f cap ls v bn cn ((ls j).length + 1) wr (ls j) := by rw [List.take_of_length_le (by omega)] at J; exact J
              have hws := J2.sq.size
              clear J
              go_wp2_with (at_builtin; refine wpList_append_own _ rfl _ _ 35 rfl w.heap.size 24 i0 (.pointer none) 1 8 Try.underlying35 hi hz0 hz1 hz2 rfl (by decide) _ _ _ rfl ((J2.quiet (World.grownBy_alloc _ _ _)).sq.row) ⟨wr.heap.size, 0, none⟩ 1 1 [.pointer (some ⟨bn, 0, none⟩)] rfl rfl ?c1 ?c2 ?c3 ?c4 ?c5 ?_)
              case c1 => exact cell_list
              case c2 => intro u hu; simp at hu; subst hu; rfl
              case c3 => unfold maxLen; omega
              case c4 => omega
              case c5 => simp; omega
              intro v' w3 hown3 hg3 _
              obtain ⟨f3, cap3, S3⟩ := (J2.quiet (World.grownBy_alloc _ _ _)).add_ hown3 hg3
              clear hown3 hg3 J2
              go_wp2_with fail
              go_roundw
              case rel => exact ⟨j + 1, f3, cap3, v', by omega, by go_num, rfl, S3⟩
              case measure => simp [intOf]; omega
        · obtain rfl : len = j := by omega
          obtain ⟨B, cp, S0, rfl⟩ := S.form
          have S1 : Squad w len f cap (cur ls 0 0) (.slice B len cp) wr := S0.congr fun i _ => cur_start i
          clear S S0
          go_wp2_with fail
          obtain ⟨w5, rfl⟩ : ∃ w5 : World, w5 = wr := ⟨_, rfl⟩
          go_loopw [12, 13, 14] (fun ri ki ti wr => ∃ r k s : Nat, r ≤ len ∧ s ≤ t ∧ ri = .int .i64 r ∧ ki = .int .i64 k ∧ ti = .int .i64 s ∧ (r < len → k ≤ (ls r).length) ∧ Squad w len f cap (cur ls r k) (.slice B len cp) wr) (fun _ _ ti _ => t - (intOf ti).toNat)
          case atStart => exact ⟨0, 0, 0, Nat.zero_le _, Nat.zero_le _, rfl, rfl, rfl, fun _ => Nat.zero_le _, S1⟩
          case round =>
            clear S1
            obtain ⟨r, k, s, hr, hs, rfl, rfl, rfl, hk, S⟩ := hrel
            by_cases hst : s < t
            · go_wp2_with fail
              obtain ⟨w6, rfl⟩ : ∃ w6 : World, w6 = wr := ⟨_, rfl⟩
              go_loopw [12, 13] (fun ri ki wr => ∃ r k : Nat, r ≤ len ∧ ri = .int .i64 r ∧ ki = .int .i64 k ∧ (r < len → k ≤ (ls r).length) ∧ wr = w6 ∧ Squad w len f cap (cur ls r k) (.slice B len cp) wr) (fun ri _ _ => len - (intOf ri).toNat)
              case atStart => exact ⟨r, k, hr, rfl, rfl, hk, rfl, S⟩
              case round =>
                clear S hr hk
                obtain ⟨r, k, hr, rfl, rfl, hk, rfl, S⟩ := hrel
                by_cases hrl : r < len
                · have hkl := hk hrl
                  have hl3 := hlens.out r hrl
                  obtain ⟨ad, a, c', rfl, hc0, _⟩ := (ha.below S.bel).row hrl
                  rcases Nat.lt_or_ge k (ls r).length with hlt2 | hge2
                  · have hne : ((k : Int) == ((ls r).length : Int)) = false := by simp; omega
                    obtain ⟨hm, hS, ht⟩ : _ ∧ _ ∧ _ := ⟨S.size, S.reads, cur_hit hlt2⟩
                    have HT := Lib.hid ht
                    clear ht
                    go_wp2_with fail
                    refine (fleet_hit S.fl hS (by omega) hrl (fun i hi => cur_before hi) HT.out).mono ?_
                    rintro e w7 ⟨rfl, hb7, t7⟩
                    have S7 := S.turn (L' := cur ls r (k + 1)) hrl hb7 t7 (fun i hi hne => cur_next hne) cur_same
                    clear HT S hS hb7 t7 hne hc0
                    obtain ⟨ad', a, c', had, hc0', hc1'⟩ := (ha.below S7.bel).num hrl hlt2
                    injection had with had
                    subst had
                    have hne : ((r : Int) == (len : Int)) = false := by simp; omega
                    go_wp2_with fail
                    go_roundw
                    case rel => exact ⟨r, k + 1, s + 1, by omega, by omega, rfl, by go_num, by go_num, fun _ => by omega, S7⟩
                    case measure => simp [intOf]; omega
                  · have heq : ((k : Int) == ((ls r).length : Int)) = true := by simp; omega
                    have S7 : Squad w len f cap (cur ls (r + 1) 0) (.slice B len cp) wr := S.congr fun i _ => cur_over hge2 i
                    go_wp2_with fail
                    go_roundw
                    case rel => exact ⟨r + 1, 0, by omega, by go_num, rfl, fun _ => Nat.zero_le _, trivial, S7⟩
                    case measure => simp [intOf]; omega
                · obtain rfl : len = r := by omega
                  have hS := S.reads
                  go_wp2_with fail
                  refine (fleet_miss S.fl hS (by omega) (fun i hi => cur_before hi)).mono ?_
                  rintro e w7 ⟨rfl, rfl⟩
                  go_wp2_with fail
                  go_roundw
                  case rel => exact ⟨len, k, s + 1, by omega, by omega, rfl, rfl, by go_num, hk, S⟩
                  case measure => simp [intOf]; omega
            · go_wp2_with fail
              refine (first_any _).mono ?_
              rintro e w2 ⟨rfl, b2⟩
              go_wp2_with fail
              go_ret
              exact ⟨rfl, S.bel.trans (b2.mono S.size)⟩
end Go.Proofs.Ytegjpfdbfjfolaa
