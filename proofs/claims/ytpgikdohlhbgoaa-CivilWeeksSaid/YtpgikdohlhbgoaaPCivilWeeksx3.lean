-- PRINTED BY print.sh 35421559b90ae4d0a3588c463048766b98c2df88dd9212a6774a882060cdf62d: not written by this session
import Derived.Test.YtpgikdohlhbgoaaPCivilWeeksx0
import Derived.Test.YtpgikdohlhbgoaaPCivilWeeksx2
namespace Go.Proofs.Ytpgikdohlhbgoaa.PCivilWeeks
open Go.RowKit Go.Proofs.YtpgikdohlhbgoaaW.PrintWords Go.Proofs.YtpgikdohlhbgoaaW.PrintLast Go.Proofs.YtpgikdohlhbgoaaW.PrintMore
attribute [local go_sem] max2_int min2_int max_two min_two max_three min_three max_four min_four   -- for this text's walks alone
set_option linter.unusedVariables false
set_option linter.unusedSimpArgs false

/-! ### vokref1_Length: function 21 -/
mutual
def vokref1_Length.j0 : Nat → Int → Int → Bool → Option (Int)
  | 0, _, _, _ => none
  | k + 1, x0, x5, x6 => if x6 = true then (some 31) else (if x5 = 4 then (vokref1_Length.j1 k x0 x5 (x5 == 4)) else (if x5 = 6 then (vokref1_Length.j1 k x0 x5 (x5 == 6)) else (if x5 = 9 then (vokref1_Length.j1 k x0 x5 (x5 == 9)) else (vokref1_Length.j1 k x0 x5 (x5 == 11)))))
def vokref1_Length.j1 : Nat → Int → Int → Bool → Option (Int)
  | 0, _, _, _ => none
  | k + 1, x0, x5, x14 => if x14 = true then (some 30) else (if x5 = 2 then ((vokref1_Leap.f x0).bind fun t144 => (if t144 = true then (some 29) else (some 28))) else (some 0))
end
def vokref1_Length.f (k : Nat) (a0 : Int) (a1 : Int) : Option (Int) := if a1 = 1 then (vokref1_Length.j0 k a0 a1 (a1 == 1)) else (if a1 = 3 then (vokref1_Length.j0 k a0 a1 (a1 == 3)) else (if a1 = 5 then (vokref1_Length.j0 k a0 a1 (a1 == 5)) else (if a1 = 7 then (vokref1_Length.j0 k a0 a1 (a1 == 7)) else (if a1 = 8 then (vokref1_Length.j0 k a0 a1 (a1 == 8)) else (if a1 = 10 then (vokref1_Length.j0 k a0 a1 (a1 == 10)) else (vokref1_Length.j0 k a0 a1 (a1 == 12)))))))
theorem vokref1_Length.mono_l : ∀ k, (∀ y0 y1 y2, LeO (vokref1_Length.j0 k y0 y1 y2) (vokref1_Length.j0 (k + 1) y0 y1 y2)) ∧ (∀ y0 y1 y2, LeO (vokref1_Length.j1 k y0 y1 y2) (vokref1_Length.j1 (k + 1) y0 y1 y2))
  | 0 => ⟨fun _ _ _ r h => by simp [vokref1_Length.j0] at h, fun _ _ _ r h => by simp [vokref1_Length.j1] at h⟩
  | k + 1 => by
    obtain ⟨ih0, ih1⟩ := vokref1_Length.mono_l k
    refine ⟨?_, ?_⟩
    · intro y0 y1 y2
      unfold vokref1_Length.j0
      repeat' first
      | (with_reducible exact ih0 _ _ _)
      | (with_reducible exact ih1 _ _ _)
      | (with_reducible exact LeO.refl _)
      | (with_reducible exact LeO.none _)
      | (with_reducible refine LeO.ite ?_ ?_)
      | (with_reducible refine LeO.bind ?_ (fun _ => ?_))
      | exact ih0 _ _ _
      | exact ih1 _ _ _
      | exact LeO.none _
      | refine LeO.ite ?_ ?_
      | refine LeO.bind ?_ (fun _ => ?_)
    · intro y0 y1 y2
      unfold vokref1_Length.j1
      repeat' first
      | (with_reducible exact ih0 _ _ _)
      | (with_reducible exact ih1 _ _ _)
      | (with_reducible exact LeO.refl _)
      | (with_reducible exact LeO.none _)
      | (with_reducible refine LeO.ite ?_ ?_)
      | (with_reducible refine LeO.bind ?_ (fun _ => ?_))
      | exact ih0 _ _ _
      | exact ih1 _ _ _
      | exact LeO.none _
      | refine LeO.ite ?_ ?_
      | refine LeO.bind ?_ (fun _ => ?_)
theorem vokref1_Length.mono : ∀ a0 a1 k, LeO (vokref1_Length.f k a0 a1) (vokref1_Length.f (k + 1) a0 a1) := by
  intro a0 a1 k
  obtain ⟨ih0, ih1⟩ := vokref1_Length.mono_l k
  unfold vokref1_Length.f
  repeat' first
      | (with_reducible exact ih0 _ _ _)
      | (with_reducible exact ih1 _ _ _)
      | (with_reducible exact LeO.refl _)
      | (with_reducible exact LeO.none _)
      | (with_reducible refine LeO.ite ?_ ?_)
      | (with_reducible refine LeO.bind ?_ (fun _ => ?_))
      | exact ih0 _ _ _
      | exact ih1 _ _ _
      | exact LeO.none _
      | refine LeO.ite ?_ ?_
      | refine LeO.bind ?_ (fun _ => ?_)
set_option maxHeartbeats 8000000 in
set_option maxRecDepth 100000 in
theorem vokref1_Length.calls (k : Nat) (a0 : Int) (a1 : Int) (r : Int) (w : World) (h : vokref1_Length.f k a0 a1 = some r) :
    Calls Try.prog 21 #[.int .i64 a0, .int .i64 a1] w fun e w' => e = .returned (.int .i64 r) ∧ Drawn0 w w' := by
  have H : (if a1 = 1 then (vokref1_Length.j0 k a0 a1 (a1 == 1)) else (if a1 = 3 then (vokref1_Length.j0 k a0 a1 (a1 == 3)) else (if a1 = 5 then (vokref1_Length.j0 k a0 a1 (a1 == 5)) else (if a1 = 7 then (vokref1_Length.j0 k a0 a1 (a1 == 7)) else (if a1 = 8 then (vokref1_Length.j0 k a0 a1 (a1 == 8)) else (if a1 = 10 then (vokref1_Length.j0 k a0 a1 (a1 == 10)) else (vokref1_Length.j0 k a0 a1 (a1 == 12)))))))) = some r := h
  clear h
  have HC3 := Aside0.mk H
  clear H
  go_enter Try.func21, Try.ntmps21
  go_upto_if 6 with (fail)
  go_cut [6] (fun v6 wc => ∃ (kq : Nat) (x6_2 : Bool), v6 = .bool x6_2 ∧ Aside0 (vokref1_Length.j0 kq a0 a1 x6_2 = some r) ∧ Aside0 (kq ≤ k) ∧ Drawn0 w wc)
  case first =>
    have H := HC3.out
    clear HC3
    by_cases c4 : a1 = 1
    · rw [if_pos c4] at H
      have c4b0 : (a1 == 1) = true := beq_iff_eq.mpr c4
      have c4b1 : (a1 != 1) = false := bne_eq_false_iff_eq.mpr c4
      clear c4
      (first | rw [c4b0] | (simp only [i64_w, i32_w]; rw [c4b0]) | skip)
      have H' := Aside0.mk H
      clear H
      go_wp2
      go_meet
      case rel => exact ⟨_, ((a1 == 1)), (by first | rfl | (simp; done) | (simp [*]; done)), H', ⟨by first | omega | exact Nat.le_refl _⟩, by repeat (first | exact Drawn0.refl _ | apply Drawn0.step)⟩
    · rw [if_neg c4] at H
      have c4b0 : (a1 == 1) = false := beq_eq_false_iff_ne.mpr c4
      have c4b1 : (a1 != 1) = true := bne_iff_ne.mpr c4
      (first | rw [c4b0] | (simp only [i64_w, i32_w]; rw [c4b0]) | skip)
      by_cases c5 : a1 = 3
      · rw [if_pos c5] at H
        have c5b0 : (a1 == 3) = true := beq_iff_eq.mpr c5
        have c5b1 : (a1 != 3) = false := bne_eq_false_iff_eq.mpr c5
        clear c5
        have H' := Aside0.mk H
        clear H
        go_wp2
        go_meet
        case rel => exact ⟨_, ((a1 == 3)), (by first | rfl | (simp; done) | (simp [*]; done)), H', ⟨by first | omega | exact Nat.le_refl _⟩, by repeat (first | exact Drawn0.refl _ | apply Drawn0.step)⟩
      · rw [if_neg c5] at H
        have c5b0 : (a1 == 3) = false := beq_eq_false_iff_ne.mpr c5
        have c5b1 : (a1 != 3) = true := bne_iff_ne.mpr c5
        by_cases c6 : a1 = 5
        · rw [if_pos c6] at H
          have c6b0 : (a1 == 5) = true := beq_iff_eq.mpr c6
          have c6b1 : (a1 != 5) = false := bne_eq_false_iff_eq.mpr c6
          clear c6
          have H' := Aside0.mk H
          clear H
          go_wp2
          go_meet
          case rel => exact ⟨_, ((a1 == 5)), (by first | rfl | (simp; done) | (simp [*]; done)), H', ⟨by first | omega | exact Nat.le_refl _⟩, by repeat (first | exact Drawn0.refl _ | apply Drawn0.step)⟩
        · rw [if_neg c6] at H
          have c6b0 : (a1 == 5) = false := beq_eq_false_iff_ne.mpr c6
          have c6b1 : (a1 != 5) = true := bne_iff_ne.mpr c6
          by_cases c7 : a1 = 7
          · rw [if_pos c7] at H
            have c7b0 : (a1 == 7) = true := beq_iff_eq.mpr c7
            have c7b1 : (a1 != 7) = false := bne_eq_false_iff_eq.mpr c7
            clear c7
            have H' := Aside0.mk H
            clear H
            go_wp2
            go_meet
            case rel => exact ⟨_, ((a1 == 7)), (by first | rfl | (simp; done) | (simp [*]; done)), H', ⟨by first | omega | exact Nat.le_refl _⟩, by repeat (first | exact Drawn0.refl _ | apply Drawn0.step)⟩
          · rw [if_neg c7] at H
            have c7b0 : (a1 == 7) = false := beq_eq_false_iff_ne.mpr c7
            have c7b1 : (a1 != 7) = true := bne_iff_ne.mpr c7
            by_cases c8 : a1 = 8
            · rw [if_pos c8] at H
              have c8b0 : (a1 == 8) = true := beq_iff_eq.mpr c8
              have c8b1 : (a1 != 8) = false := bne_eq_false_iff_eq.mpr c8
              clear c8
              have H' := Aside0.mk H
              clear H
              go_wp2
              go_meet
              case rel => exact ⟨_, ((a1 == 8)), (by first | rfl | (simp; done) | (simp [*]; done)), H', ⟨by first | omega | exact Nat.le_refl _⟩, by repeat (first | exact Drawn0.refl _ | apply Drawn0.step)⟩
            · rw [if_neg c8] at H
              have c8b0 : (a1 == 8) = false := beq_eq_false_iff_ne.mpr c8
              have c8b1 : (a1 != 8) = true := bne_iff_ne.mpr c8
              by_cases c9 : a1 = 10
              · rw [if_pos c9] at H
                have c9b0 : (a1 == 10) = true := beq_iff_eq.mpr c9
                have c9b1 : (a1 != 10) = false := bne_eq_false_iff_eq.mpr c9
                clear c9
                have H' := Aside0.mk H
                clear H
                go_wp2
                go_meet
                case rel => exact ⟨_, ((a1 == 10)), (by first | rfl | (simp; done) | (simp [*]; done)), H', ⟨by first | omega | exact Nat.le_refl _⟩, by repeat (first | exact Drawn0.refl _ | apply Drawn0.step)⟩
              · rw [if_neg c9] at H
                have c9b0 : (a1 == 10) = false := beq_eq_false_iff_ne.mpr c9
                have c9b1 : (a1 != 10) = true := bne_iff_ne.mpr c9
                have H' := Aside0.mk H
                clear H
                go_wp2
                go_meet
                case rel => exact ⟨_, ((a1 == 12)), (by first | rfl | (simp; done) | (simp [*]; done)), H', ⟨by first | omega | exact Nat.le_refl _⟩, by repeat (first | exact Drawn0.refl _ | apply Drawn0.step)⟩
  case rest =>
    clear HC3
    try clear c2
    try clear p2
    try clear c4
    try clear c4b0
    try clear c4b1
    try clear c5
    try clear c5b0
    try clear c5b1
    try clear c6
    try clear c6b0
    try clear c6b1
    try clear c7
    try clear c7b0
    try clear c7b1
    try clear c8
    try clear c8b0
    try clear c8b1
    try clear c9
    try clear c9b0
    try clear c9b1
    obtain ⟨kq, x6_2, rfl, HA, HJ2, ⟨mc2, rfl⟩⟩ := hcut
    cases kq with
    | zero => exact absurd HA.out (by simp [vokref1_Length.j0])
    | succ kj2 =>
      have H := HA.out
      clear HA
      simp only [vokref1_Length.j0] at H
      by_cases c10 : x6_2 = true
      · subst c10
        have H1 : (some 31) = some r := by rw [if_pos rfl] at H; exact H
        clear H
        have H := H1
        clear H1
        obtain rfl := Option.some.inj H
        go_wp2
        go_ret
        exact ⟨by first | rfl | (simp; done) | (simp [*]; done), by repeat (first | exact Drawn0.refl _ | apply Drawn0.step)⟩
      · replace c10 := Bool.eq_false_iff.mpr c10
        subst c10
        have H1 : (if a1 = 4 then (vokref1_Length.j1 kj2 a0 a1 (a1 == 4)) else (if a1 = 6 then (vokref1_Length.j1 kj2 a0 a1 (a1 == 6)) else (if a1 = 9 then (vokref1_Length.j1 kj2 a0 a1 (a1 == 9)) else (vokref1_Length.j1 kj2 a0 a1 (a1 == 11))))) = some r := by rw [if_neg (show ¬ (false = true) by decide)] at H; exact H
        clear H
        have H := H1
        clear H1
        have HC11 := Aside0.mk H
        clear H
        go_upto_if 14 with (fail)
        go_cut [14] (fun v14 wc => ∃ (kq : Nat) (x14_10 : Bool), v14 = .bool x14_10 ∧ Aside0 (vokref1_Length.j1 kq a0 a1 x14_10 = some r) ∧ Aside0 (kq ≤ kj2) ∧ Drawn0 w wc)
        case first =>
          have H := HC11.out
          clear HC11
          by_cases c12 : a1 = 4
          · rw [if_pos c12] at H
            have c12b0 : (a1 == 4) = true := beq_iff_eq.mpr c12
            have c12b1 : (a1 != 4) = false := bne_eq_false_iff_eq.mpr c12
            clear c12
            (first | rw [c12b0] | (simp only [i64_w, i32_w]; rw [c12b0]) | skip)
            have H' := Aside0.mk H
            clear H
            go_wp2
            go_meet
            case rel => exact ⟨_, ((a1 == 4)), (by first | rfl | (simp; done) | (simp [*]; done)), H', ⟨by have := HJ2.out; first | omega | exact Nat.le_refl _⟩, by repeat (first | exact Drawn0.refl _ | apply Drawn0.step)⟩
          · rw [if_neg c12] at H
            have c12b0 : (a1 == 4) = false := beq_eq_false_iff_ne.mpr c12
            have c12b1 : (a1 != 4) = true := bne_iff_ne.mpr c12
            (first | rw [c12b0] | (simp only [i64_w, i32_w]; rw [c12b0]) | skip)
            by_cases c13 : a1 = 6
            · rw [if_pos c13] at H
              have c13b0 : (a1 == 6) = true := beq_iff_eq.mpr c13
              have c13b1 : (a1 != 6) = false := bne_eq_false_iff_eq.mpr c13
              clear c13
              have H' := Aside0.mk H
              clear H
              go_wp2
              go_meet
              case rel => exact ⟨_, ((a1 == 6)), (by first | rfl | (simp; done) | (simp [*]; done)), H', ⟨by have := HJ2.out; first | omega | exact Nat.le_refl _⟩, by repeat (first | exact Drawn0.refl _ | apply Drawn0.step)⟩
            · rw [if_neg c13] at H
              have c13b0 : (a1 == 6) = false := beq_eq_false_iff_ne.mpr c13
              have c13b1 : (a1 != 6) = true := bne_iff_ne.mpr c13
              by_cases c14 : a1 = 9
              · rw [if_pos c14] at H
                have c14b0 : (a1 == 9) = true := beq_iff_eq.mpr c14
                have c14b1 : (a1 != 9) = false := bne_eq_false_iff_eq.mpr c14
                clear c14
                have H' := Aside0.mk H
                clear H
                go_wp2
                go_meet
                case rel => exact ⟨_, ((a1 == 9)), (by first | rfl | (simp; done) | (simp [*]; done)), H', ⟨by have := HJ2.out; first | omega | exact Nat.le_refl _⟩, by repeat (first | exact Drawn0.refl _ | apply Drawn0.step)⟩
              · rw [if_neg c14] at H
                have c14b0 : (a1 == 9) = false := beq_eq_false_iff_ne.mpr c14
                have c14b1 : (a1 != 9) = true := bne_iff_ne.mpr c14
                have H' := Aside0.mk H
                clear H
                go_wp2
                go_meet
                case rel => exact ⟨_, ((a1 == 11)), (by first | rfl | (simp; done) | (simp [*]; done)), H', ⟨by have := HJ2.out; first | omega | exact Nat.le_refl _⟩, by repeat (first | exact Drawn0.refl _ | apply Drawn0.step)⟩
        case rest =>
          clear HC11
          try clear c1
          try clear c2
          try clear p2
          try clear c4
          try clear c4b0
          try clear c4b1
          try clear c5
          try clear c5b0
          try clear c5b1
          try clear c6
          try clear c6b0
          try clear c6b1
          try clear c7
          try clear c7b0
          try clear c7b1
          try clear c8
          try clear c8b0
          try clear c8b1
          try clear c9
          try clear c9b0
          try clear c9b1
          try clear c10
          try clear c12
          try clear c12b0
          try clear c12b1
          try clear c13
          try clear c13b0
          try clear c13b1
          try clear c14
          try clear c14b0
          try clear c14b1
          try clear p2
          obtain ⟨kq, x14_10, rfl, HA, HJ10, ⟨mc10, rfl⟩⟩ := hcut
          cases kq with
          | zero => exact absurd HA.out (by simp [vokref1_Length.j1])
          | succ kj10 =>
            have H := HA.out
            clear HA
            simp only [vokref1_Length.j1] at H
            by_cases c15 : x14_10 = true
            · subst c15
              have H1 : (some 30) = some r := by rw [if_pos rfl] at H; exact H
              clear H
              have H := H1
              clear H1
              obtain rfl := Option.some.inj H
              go_wp2
              go_ret
              exact ⟨by first | rfl | (simp; done) | (simp [*]; done), by repeat (first | exact Drawn0.refl _ | apply Drawn0.step)⟩
            · replace c15 := Bool.eq_false_iff.mpr c15
              subst c15
              have H1 : (if a1 = 2 then ((vokref1_Leap.f a0).bind fun t144 => (if t144 = true then (some 29) else (some 28))) else (some 0)) = some r := by rw [if_neg (show ¬ (false = true) by decide)] at H; exact H
              clear H
              have H := H1
              clear H1
              by_cases c16 : a1 = 2
              · rw [if_pos c16] at H
                have c16b0 : (a1 == 2) = true := beq_iff_eq.mpr c16
                have c16b1 : (a1 != 2) = false := bne_eq_false_iff_eq.mpr c16
                clear c16
                replace H := Option.bind_eq_some_iff.mp H
                obtain ⟨t144, A170, H⟩ := H
                replace H : (if t144 = true then (some 29) else (some 28)) = some r := H
                have A17 := Aside0.mk A170
                clear A170
                by_cases c18 : t144 = true
                · subst c18
                  have H1 : (some 29) = some r := by rw [if_pos rfl] at H; exact H
                  clear H
                  have H := H1
                  clear H1
                  obtain rfl := Option.some.inj H
                  go_wp2_with (first | ((with_reducible refine gate_callee (f := 19) rfl ?_); refine goesL_ (some 22) rfl rfl Try.func19 (by kernel_rfl) rfl #[.int .i64 a0] rfl (by (try simp only [List.map_toArray, List.map_cons, List.map_nil]); first | done | rfl | (simp only [List.length_drop, List.length_take]; rfl)) ?_; (with_reducible refine (vokref1_Leap.calls a0 true _ A17.out).mono ?_); rintro e w' ⟨rfl, ⟨nd, rfl⟩⟩; refine ⟨_, rfl, ?_⟩))
                  go_ret
                  exact ⟨by first | rfl | (simp; done) | (simp [*]; done), by repeat (first | exact Drawn0.refl _ | apply Drawn0.step)⟩
                · replace c18 := Bool.eq_false_iff.mpr c18
                  subst c18
                  have H1 : (some 28) = some r := by rw [if_neg (show ¬ (false = true) by decide)] at H; exact H
                  clear H
                  have H := H1
                  clear H1
                  obtain rfl := Option.some.inj H
                  go_wp2_with (first | ((with_reducible refine gate_callee (f := 19) rfl ?_); refine goesL_ (some 22) rfl rfl Try.func19 (by kernel_rfl) rfl #[.int .i64 a0] rfl (by (try simp only [List.map_toArray, List.map_cons, List.map_nil]); first | done | rfl | (simp only [List.length_drop, List.length_take]; rfl)) ?_; (with_reducible refine (vokref1_Leap.calls a0 false _ A17.out).mono ?_); rintro e w' ⟨rfl, ⟨nd, rfl⟩⟩; refine ⟨_, rfl, ?_⟩))
                  go_ret
                  exact ⟨by first | rfl | (simp; done) | (simp [*]; done), by repeat (first | exact Drawn0.refl _ | apply Drawn0.step)⟩
              · rw [if_neg c16] at H
                have c16b0 : (a1 == 2) = false := beq_eq_false_iff_ne.mpr c16
                have c16b1 : (a1 != 2) = true := bne_iff_ne.mpr c16
                obtain rfl := Option.some.inj H
                go_wp2
                go_ret
                exact ⟨by first | rfl | (simp; done) | (simp [*]; done), by repeat (first | exact Drawn0.refl _ | apply Drawn0.step)⟩

/-! ### vokref1_down: function 47 -/
def vokref1_down.f (a0 : Int) (a1 : Int) : Option (Int) := if a1 = 0 then (none) else (if (Int.tmod a0 a1) < 0 then (some (wrap64 ((wrap64 (Int.tdiv a0 a1)) - 1))) else (some (wrap64 (Int.tdiv a0 a1))))
set_option maxHeartbeats 8000000 in
set_option maxRecDepth 100000 in
theorem vokref1_down.calls (a0 : Int) (a1 : Int) (r : Int) (w : World) (h : vokref1_down.f a0 a1 = some r) :
    Calls Try.prog 47 #[.int .i64 a0, .int .i64 a1] w fun e w' => e = .returned (.int .i64 r) ∧ Drawn0 w w' := by
  have H : (if a1 = 0 then (none) else (if (Int.tmod a0 a1) < 0 then (some (wrap64 ((wrap64 (Int.tdiv a0 a1)) - 1))) else (some (wrap64 (Int.tdiv a0 a1))))) = some r := h
  clear h
  by_cases c3 : a1 = 0
  · rw [if_pos c3] at H
    exact absurd H (by simp)
  · rw [if_neg c3] at H
    have c3b0 : (a1 == 0) = false := beq_eq_false_iff_ne.mpr c3
    have c3b1 : (a1 != 0) = true := bne_iff_ne.mpr c3
    by_cases c4 : (Int.tmod a0 a1) < 0
    · rw [if_pos c4] at H
      have c4b0 : decide ((Int.tmod a0 a1) < 0) = true := decide_eq_true c4
      clear c4
      obtain rfl := Option.some.inj H
      go_enter Try.func47, Try.ntmps47
      go_wp2
      go_ret
      exact ⟨by first | rfl | (simp; done) | (simp [*]; done), by repeat (first | exact Drawn0.refl _ | apply Drawn0.step)⟩
    · rw [if_neg c4] at H
      have c4b0 : decide ((Int.tmod a0 a1) < 0) = false := decide_eq_false c4
      clear c4
      obtain rfl := Option.some.inj H
      go_enter Try.func47, Try.ntmps47
      go_wp2
      go_ret
      exact ⟨by first | rfl | (simp; done) | (simp [*]; done), by repeat (first | exact Drawn0.refl _ | apply Drawn0.step)⟩

/-! ### vokref1_first: function 39 -/
def vokref1_first.f (a0 : Int) : Option (Int) := (vokref1_down.f (wrap64 (a0 - 1)) 4).bind fun t145 => ((vokref1_down.f (wrap64 (a0 - 1)) 100).bind fun t146 => ((vokref1_down.f (wrap64 (a0 - 1)) 400).bind fun t147 => (some (wrap64 ((wrap64 ((wrap64 ((wrap64 ((wrap64 (365 * (wrap64 (a0 - 1)))) + t145)) - t146)) + t147)) - 719162)))))
set_option maxHeartbeats 8000000 in
set_option maxRecDepth 100000 in
theorem vokref1_first.calls (a0 : Int) (r : Int) (w : World) (h : vokref1_first.f a0 = some r) :
    Calls Try.prog 39 #[.int .i64 a0] w fun e w' => e = .returned (.int .i64 r) ∧ Drawn0 w w' := by
  have H : ((vokref1_down.f (wrap64 (a0 - 1)) 4).bind fun t145 => ((vokref1_down.f (wrap64 (a0 - 1)) 100).bind fun t146 => ((vokref1_down.f (wrap64 (a0 - 1)) 400).bind fun t147 => (some (wrap64 ((wrap64 ((wrap64 ((wrap64 ((wrap64 (365 * (wrap64 (a0 - 1)))) + t145)) - t146)) + t147)) - 719162)))))) = some r := h
  clear h
  replace H := Option.bind_eq_some_iff.mp H
  obtain ⟨t145, A20, H⟩ := H
  replace H : ((vokref1_down.f (wrap64 (a0 - 1)) 100).bind fun t146 => ((vokref1_down.f (wrap64 (a0 - 1)) 400).bind fun t147 => (some (wrap64 ((wrap64 ((wrap64 ((wrap64 ((wrap64 (365 * (wrap64 (a0 - 1)))) + t145)) - t146)) + t147)) - 719162))))) = some r := H
  have A2 := Aside0.mk A20
  clear A20
  replace H := Option.bind_eq_some_iff.mp H
  obtain ⟨t146, A30, H⟩ := H
  replace H : ((vokref1_down.f (wrap64 (a0 - 1)) 400).bind fun t147 => (some (wrap64 ((wrap64 ((wrap64 ((wrap64 ((wrap64 (365 * (wrap64 (a0 - 1)))) + t145)) - t146)) + t147)) - 719162)))) = some r := H
  have A3 := Aside0.mk A30
  clear A30
  replace H := Option.bind_eq_some_iff.mp H
  obtain ⟨t147, A40, H⟩ := H
  replace H : (some (wrap64 ((wrap64 ((wrap64 ((wrap64 ((wrap64 (365 * (wrap64 (a0 - 1)))) + t145)) - t146)) + t147)) - 719162))) = some r := H
  have A4 := Aside0.mk A40
  clear A40
  obtain rfl := Option.some.inj H
  go_enter Try.func39, Try.ntmps39
  go_wp2_with (first | ((with_reducible refine gate_callee (f := 47) rfl ?_); refine goesL_ (some 9) rfl rfl Try.func47 (by kernel_rfl) rfl #[.int .i64 (wrap64 (a0 - 1)), .int .i64 4] rfl (by (try simp only [List.map_toArray, List.map_cons, List.map_nil]); first | done | rfl | (simp only [List.length_drop, List.length_take]; rfl)) ?_; (with_reducible refine (vokref1_down.calls (wrap64 (a0 - 1)) 4 t145 _ A2.out).mono ?_); rintro e w' ⟨rfl, ⟨nd, rfl⟩⟩; refine ⟨_, rfl, ?_⟩) | ((with_reducible refine gate_callee (f := 47) rfl ?_); refine goesL_ (some 12) rfl rfl Try.func47 (by kernel_rfl) rfl #[.int .i64 (wrap64 (a0 - 1)), .int .i64 100] rfl (by (try simp only [List.map_toArray, List.map_cons, List.map_nil]); first | done | rfl | (simp only [List.length_drop, List.length_take]; rfl)) ?_; (with_reducible refine (vokref1_down.calls (wrap64 (a0 - 1)) 100 t146 _ A3.out).mono ?_); rintro e w' ⟨rfl, ⟨nd, rfl⟩⟩; refine ⟨_, rfl, ?_⟩) | ((with_reducible refine gate_callee (f := 47) rfl ?_); refine goesL_ (some 15) rfl rfl Try.func47 (by kernel_rfl) rfl #[.int .i64 (wrap64 (a0 - 1)), .int .i64 400] rfl (by (try simp only [List.map_toArray, List.map_cons, List.map_nil]); first | done | rfl | (simp only [List.length_drop, List.length_take]; rfl)) ?_; (with_reducible refine (vokref1_down.calls (wrap64 (a0 - 1)) 400 t147 _ A4.out).mono ?_); rintro e w' ⟨rfl, ⟨nd, rfl⟩⟩; refine ⟨_, rfl, ?_⟩))
  go_ret
  exact ⟨by first | rfl | (simp; done) | (simp [*]; done), by repeat (first | exact Drawn0.refl _ | apply Drawn0.step)⟩

/-! ### vokref1_in: function 46 -/
def vokref1_in.f (a0 : Int) : Option (Bool) := (vokref1_first.f 1).bind fun t148 => (if a0 ≥ t148 then ((vokref1_first.f 10000).bind fun t149 => (some (decide (a0 < t149)))) else (some false))
set_option maxHeartbeats 8000000 in
set_option maxRecDepth 100000 in
theorem vokref1_in.calls (a0 : Int) (r : Bool) (w : World) (h : vokref1_in.f a0 = some r) :
    Calls Try.prog 46 #[.int .i64 a0] w fun e w' => e = .returned (.bool r) ∧ Drawn0 w w' := by
  have H : ((vokref1_first.f 1).bind fun t148 => (if a0 ≥ t148 then ((vokref1_first.f 10000).bind fun t149 => (some (decide (a0 < t149)))) else (some false))) = some r := h
  clear h
  replace H := Option.bind_eq_some_iff.mp H
  obtain ⟨t148, A20, H⟩ := H
  replace H : (if a0 ≥ t148 then ((vokref1_first.f 10000).bind fun t149 => (some (decide (a0 < t149)))) else (some false)) = some r := H
  have A2 := Aside0.mk A20
  clear A20
  by_cases c3 : a0 ≥ t148
  · rw [if_pos c3] at H
    have c3b0 : decide (t148 ≤ a0) = true := decide_eq_true c3
    clear c3
    replace H := Option.bind_eq_some_iff.mp H
    obtain ⟨t149, A40, H⟩ := H
    replace H : (some (decide (a0 < t149))) = some r := H
    have A4 := Aside0.mk A40
    clear A40
    obtain rfl := Option.some.inj H
    go_enter Try.func46, Try.ntmps46
    go_wp2_with (first | ((with_reducible refine gate_callee (f := 39) rfl ?_); refine goesL_ (some 4) rfl rfl Try.func39 (by kernel_rfl) rfl #[.int .i64 1] rfl (by (try simp only [List.map_toArray, List.map_cons, List.map_nil]); first | done | rfl | (simp only [List.length_drop, List.length_take]; rfl)) ?_; (with_reducible refine (vokref1_first.calls 1 t148 _ A2.out).mono ?_); rintro e w' ⟨rfl, ⟨nd, rfl⟩⟩; refine ⟨_, rfl, ?_⟩) | (go_at_call 39; (with_reducible refine (vokref1_first.calls 10000 t149 _ A4.out).mono ?_); rintro e w' ⟨rfl, ⟨nd, rfl⟩⟩))
    go_ret
    exact ⟨by first | rfl | (simp; done) | (simp [*]; done), by repeat (first | exact Drawn0.refl _ | apply Drawn0.step)⟩
  · rw [if_neg c3] at H
    have c3b0 : decide (t148 ≤ a0) = false := decide_eq_false c3
    clear c3
    obtain rfl := Option.some.inj H
    go_enter Try.func46, Try.ntmps46
    go_wp2_with (first | ((with_reducible refine gate_callee (f := 39) rfl ?_); refine goesL_ (some 4) rfl rfl Try.func39 (by kernel_rfl) rfl #[.int .i64 1] rfl (by (try simp only [List.map_toArray, List.map_cons, List.map_nil]); first | done | rfl | (simp only [List.length_drop, List.length_take]; rfl)) ?_; (with_reducible refine (vokref1_first.calls 1 t148 _ A2.out).mono ?_); rintro e w' ⟨rfl, ⟨nd, rfl⟩⟩; refine ⟨_, rfl, ?_⟩))
    go_ret
    exact ⟨by first | rfl | (simp; done) | (simp [*]; done), by repeat (first | exact Drawn0.refl _ | apply Drawn0.step)⟩

/-! ### vokref1_Date: function 31 -/
mutual
def vokref1_Date.l0 : Nat → Int → Int → Option (Int × Int × Int × Int)
  | 0, _, _ => none
  | k + 1, x0, x6 => (vokref1_first.f (wrap64 (x6 + 1))).bind fun t152 => (if t152 ≤ x0 then (vokref1_Date.l0 k x0 (wrap64 (x6 + 1))) else ((vokref1_first.f x6).bind fun t153 => (vokref1_Date.l1 k x6 (wrap64 (x0 - t153)) 1)))
def vokref1_Date.l1 : Nat → Int → Int → Int → Option (Int × Int × Int × Int)
  | 0, _, _, _ => none
  | k + 1, x6, x7, x8 => (vokref1_Length.f k x6 x8).bind fun t154 => (if x7 ≥ t154 then ((vokref1_Length.f k x6 x8).bind fun t155 => (vokref1_Date.l1 k x6 (wrap64 (x7 - t155)) (wrap64 (x8 + 1)))) else (some (x6, x8, wrap64 (x7 + 1), 0)))
end
def vokref1_Date.f (k : Nat) (a0 : Int) : Option (Int × Int × Int × Int) := (vokref1_in.f a0).bind fun t150 => (if t150 = true then ((vokref1_first.f 1).bind fun t151 => (vokref1_Date.l0 k a0 (wrap64 ((wrap64 (Int.tdiv (wrap64 (a0 - t151)) 366)) + 1)))) else (some (0, 0, 0, 1)))
theorem vokref1_Date.mono_l : ∀ k, (∀ y0 y1, LeO (vokref1_Date.l0 k y0 y1) (vokref1_Date.l0 (k + 1) y0 y1)) ∧ (∀ y0 y1 y2, LeO (vokref1_Date.l1 k y0 y1 y2) (vokref1_Date.l1 (k + 1) y0 y1 y2))
  | 0 => ⟨fun _ _ r h => by simp [vokref1_Date.l0] at h, fun _ _ _ r h => by simp [vokref1_Date.l1] at h⟩
  | k + 1 => by
    obtain ⟨ih0, ih1⟩ := vokref1_Date.mono_l k
    refine ⟨?_, ?_⟩
    · intro y0 y1
      unfold vokref1_Date.l0
      repeat' first
      | (with_reducible exact ih0 _ _)
      | (with_reducible exact ih1 _ _ _)
      | (with_reducible exact vokref1_Length.mono _ _ _)
      | (with_reducible exact LeO.refl _)
      | (with_reducible exact LeO.none _)
      | (with_reducible refine LeO.ite ?_ ?_)
      | (with_reducible refine LeO.bind ?_ (fun _ => ?_))
      | exact ih0 _ _
      | exact ih1 _ _ _
      | exact vokref1_Length.mono _ _ _
      | exact LeO.none _
      | refine LeO.ite ?_ ?_
      | refine LeO.bind ?_ (fun _ => ?_)
    · intro y0 y1 y2
      unfold vokref1_Date.l1
      repeat' first
      | (with_reducible exact ih0 _ _)
      | (with_reducible exact ih1 _ _ _)
      | (with_reducible exact vokref1_Length.mono _ _ _)
      | (with_reducible exact LeO.refl _)
      | (with_reducible exact LeO.none _)
      | (with_reducible refine LeO.ite ?_ ?_)
      | (with_reducible refine LeO.bind ?_ (fun _ => ?_))
      | exact ih0 _ _
      | exact ih1 _ _ _
      | exact vokref1_Length.mono _ _ _
      | exact LeO.none _
      | refine LeO.ite ?_ ?_
      | refine LeO.bind ?_ (fun _ => ?_)
theorem vokref1_Date.mono : ∀ a0 k, LeO (vokref1_Date.f k a0) (vokref1_Date.f (k + 1) a0) := by
  intro a0 k
  obtain ⟨ih0, ih1⟩ := vokref1_Date.mono_l k
  unfold vokref1_Date.f
  repeat' first
      | (with_reducible exact ih0 _ _)
      | (with_reducible exact ih1 _ _ _)
      | (with_reducible exact vokref1_Length.mono _ _ _)
      | (with_reducible exact LeO.refl _)
      | (with_reducible exact LeO.none _)
      | (with_reducible refine LeO.ite ?_ ?_)
      | (with_reducible refine LeO.bind ?_ (fun _ => ?_))
      | exact ih0 _ _
      | exact ih1 _ _ _
      | exact vokref1_Length.mono _ _ _
      | exact LeO.none _
      | refine LeO.ite ?_ ?_
      | refine LeO.bind ?_ (fun _ => ?_)
set_option maxHeartbeats 8000000 in
set_option maxRecDepth 100000 in
theorem vokref1_Date.calls (k : Nat) (a0 : Int) (r1 : Int) (r2 : Int) (r3 : Int) (r4 : Int) (w : World) (h : vokref1_Date.f k a0 = some (r1, r2, r3, r4)) :
    Calls Try.prog 31 #[.int .i64 a0] w fun e w' => e = .returned (.tuple #[.int .i64 r1, .int .i64 r2, .int .i64 r3, .int .i64 r4]) ∧ Drawn0 w w' := by
  have H : ((vokref1_in.f a0).bind fun t150 => (if t150 = true then ((vokref1_first.f 1).bind fun t151 => (vokref1_Date.l0 k a0 (wrap64 ((wrap64 (Int.tdiv (wrap64 (a0 - t151)) 366)) + 1)))) else (some (0, 0, 0, 1)))) = some (r1, r2, r3, r4) := h
  clear h
  replace H := Option.bind_eq_some_iff.mp H
  obtain ⟨t150, A20, H⟩ := H
  replace H : (if t150 = true then ((vokref1_first.f 1).bind fun t151 => (vokref1_Date.l0 k a0 (wrap64 ((wrap64 (Int.tdiv (wrap64 (a0 - t151)) 366)) + 1)))) else (some (0, 0, 0, 1))) = some (r1, r2, r3, r4) := H
  have A2 := Aside0.mk A20
  clear A20
  by_cases c3 : t150 = true
  · subst c3
    have H1 : ((vokref1_first.f 1).bind fun t151 => (vokref1_Date.l0 k a0 (wrap64 ((wrap64 (Int.tdiv (wrap64 (a0 - t151)) 366)) + 1)))) = some (r1, r2, r3, r4) := by rw [if_pos rfl] at H; exact H
    clear H
    have H := H1
    clear H1
    replace H := Option.bind_eq_some_iff.mp H
    obtain ⟨t151, A40, H⟩ := H
    replace H : (vokref1_Date.l0 k a0 (wrap64 ((wrap64 (Int.tdiv (wrap64 (a0 - t151)) 366)) + 1))) = some (r1, r2, r3, r4) := H
    have A4 := Aside0.mk A40
    clear A40
    have H' := Aside0.mk H
    clear H
    go_enter Try.func31, Try.ntmps31
    go_wp2_with (first | ((with_reducible refine gate_callee (f := 46) rfl ?_); refine goesL_ (some 10) rfl rfl Try.func46 (by kernel_rfl) rfl #[.int .i64 a0] rfl (by (try simp only [List.map_toArray, List.map_cons, List.map_nil]); first | done | rfl | (simp only [List.length_drop, List.length_take]; rfl)) ?_; (with_reducible refine (vokref1_in.calls a0 true _ A2.out).mono ?_); rintro e w' ⟨rfl, ⟨nd, rfl⟩⟩; refine ⟨_, rfl, ?_⟩) | ((with_reducible refine gate_callee (f := 39) rfl ?_); refine goesL_ (some 13) rfl rfl Try.func39 (by kernel_rfl) rfl #[.int .i64 1] rfl (by (try simp only [List.map_toArray, List.map_cons, List.map_nil]); first | done | rfl | (simp only [List.length_drop, List.length_take]; rfl)) ?_; (with_reducible refine (vokref1_first.calls 1 t151 _ A4.out).mono ?_); rintro e w' ⟨rfl, ⟨nd, rfl⟩⟩; refine ⟨_, rfl, ?_⟩))
    go_loopg [6] k (fun kq v6 w' => ∃ (x6_1 : Int), v6 = .int .i64 x6_1 ∧ Aside0 (vokref1_Date.l0 kq a0 x6_1 = some (r1, r2, r3, r4)) ∧ Aside0 (kq ≤ k) ∧ Drawn0 w w')
    case atStart => exact ⟨(wrap64 ((wrap64 (Int.tdiv (wrap64 (a0 - t151)) 366)) + 1)), (by first | rfl | (simp; done) | (simp [*]; done)), H', ⟨Nat.le_refl _⟩, by repeat (first | exact Drawn0.refl _ | apply Drawn0.step)⟩
    case round =>
      clear H'
      try clear p2
      try clear c3
      try clear c4
      obtain ⟨x6_1, rfl, HA, HK1, ⟨m1, rfl⟩⟩ := hrel
      cases gk with
      | zero => exact absurd HA.out (by simp [vokref1_Date.l0])
      | succ k1 =>
        have H := HA.out
        clear HA
        simp only [vokref1_Date.l0] at H
        replace H := Option.bind_eq_some_iff.mp H
        obtain ⟨t152, A50, H⟩ := H
        replace H : (if t152 ≤ a0 then (vokref1_Date.l0 k1 a0 (wrap64 (x6_1 + 1))) else ((vokref1_first.f x6_1).bind fun t153 => (vokref1_Date.l1 k1 x6_1 (wrap64 (a0 - t153)) 1))) = some (r1, r2, r3, r4) := H
        have A5 := Aside0.mk A50
        clear A50
        by_cases c6 : t152 ≤ a0
        · rw [if_pos c6] at H
          have c6b0 : decide (t152 ≤ a0) = true := decide_eq_true c6
          clear c6
          have H' := Aside0.mk H
          clear H
          go_wp2_with (first | ((with_reducible refine gate_callee (f := 39) rfl ?_); refine goesL_ (some 19) rfl rfl Try.func39 (by kernel_rfl) rfl #[.int .i64 (wrap64 (x6_1 + 1))] rfl (by (try simp only [List.map_toArray, List.map_cons, List.map_nil]); first | done | rfl | (simp only [List.length_drop, List.length_take]; rfl)) ?_; (with_reducible refine (vokref1_first.calls (wrap64 (x6_1 + 1)) t152 _ A5.out).mono ?_); rintro e w' ⟨rfl, ⟨nd, rfl⟩⟩; refine ⟨_, rfl, ?_⟩))
          go_roundg k1
          case measure => have := HK1.out; omega
          case rel => exact ⟨(wrap64 (x6_1 + 1)), (by first | rfl | (simp; done) | (simp [*]; done)), H', ⟨by have := HK1.out; omega⟩, by repeat (first | exact Drawn0.refl _ | apply Drawn0.step)⟩
        · rw [if_neg c6] at H
          have c6b0 : decide (t152 ≤ a0) = false := decide_eq_false c6
          clear c6
          replace H := Option.bind_eq_some_iff.mp H
          obtain ⟨t153, A70, H⟩ := H
          replace H : (vokref1_Date.l1 k1 x6_1 (wrap64 (a0 - t153)) 1) = some (r1, r2, r3, r4) := H
          have A7 := Aside0.mk A70
          clear A70
          have H' := Aside0.mk H
          clear H
          go_wp2_with (first | ((with_reducible refine gate_callee (f := 39) rfl ?_); refine goesL_ (some 19) rfl rfl Try.func39 (by kernel_rfl) rfl #[.int .i64 (wrap64 (x6_1 + 1))] rfl (by (try simp only [List.map_toArray, List.map_cons, List.map_nil]); first | done | rfl | (simp only [List.length_drop, List.length_take]; rfl)) ?_; (with_reducible refine (vokref1_first.calls (wrap64 (x6_1 + 1)) t152 _ A5.out).mono ?_); rintro e w' ⟨rfl, ⟨nd, rfl⟩⟩; refine ⟨_, rfl, ?_⟩) | ((with_reducible refine gate_callee (f := 39) rfl ?_); refine goesL_ (some 26) rfl rfl Try.func39 (by kernel_rfl) rfl #[.int .i64 x6_1] rfl (by (try simp only [List.map_toArray, List.map_cons, List.map_nil]); first | done | rfl | (simp only [List.length_drop, List.length_take]; rfl)) ?_; (with_reducible refine (vokref1_first.calls x6_1 t153 _ A7.out).mono ?_); rintro e w' ⟨rfl, ⟨nd, rfl⟩⟩; refine ⟨_, rfl, ?_⟩))
          go_loopg [7, 8] k1 (fun kq v7 v8 w' => ∃ (x7_2 : Int) (x8_2 : Int), v7 = .int .i64 x7_2 ∧ v8 = .int .i64 x8_2 ∧ Aside0 (vokref1_Date.l1 kq x6_1 x7_2 x8_2 = some (r1, r2, r3, r4)) ∧ Aside0 (kq ≤ k1) ∧ Drawn0 w w')
          case atStart => exact ⟨(wrap64 (a0 - t153)), (1), (by first | rfl | (simp; done) | (simp [*]; done)), (by first | rfl | (simp; done) | (simp [*]; done)), H', ⟨Nat.le_refl _⟩, by repeat (first | exact Drawn0.refl _ | apply Drawn0.step)⟩
          case round =>
            clear H'
            try clear p2
            try clear c3
            try clear c4
            try clear c6
            try clear c6b0
            try clear p6
            try clear p2
            obtain ⟨x7_2, x8_2, rfl, rfl, HA, HK2, ⟨m2, rfl⟩⟩ := hrel
            cases gk with
            | zero => exact absurd HA.out (by simp [vokref1_Date.l1])
            | succ k2 =>
              have H := HA.out
              clear HA
              simp only [vokref1_Date.l1] at H
              replace H := Option.bind_eq_some_iff.mp H
              obtain ⟨t154, A80, H⟩ := H
              replace H : (if x7_2 ≥ t154 then ((vokref1_Length.f k2 x6_1 x8_2).bind fun t155 => (vokref1_Date.l1 k2 x6_1 (wrap64 (x7_2 - t155)) (wrap64 (x8_2 + 1)))) else (some (x6_1, x8_2, wrap64 (x7_2 + 1), 0))) = some (r1, r2, r3, r4) := H
              have A8 := Aside0.mk A80
              clear A80
              by_cases c9 : x7_2 ≥ t154
              · rw [if_pos c9] at H
                have c9b0 : decide (t154 ≤ x7_2) = true := decide_eq_true c9
                clear c9
                replace H := Option.bind_eq_some_iff.mp H
                obtain ⟨t155, A100, H⟩ := H
                replace H : (vokref1_Date.l1 k2 x6_1 (wrap64 (x7_2 - t155)) (wrap64 (x8_2 + 1))) = some (r1, r2, r3, r4) := H
                have A10 := Aside0.mk A100
                clear A100
                have H' := Aside0.mk H
                clear H
                go_wp2_with (first | ((with_reducible refine gate_callee (f := 21) rfl ?_); refine goesL_ (some 31) rfl rfl Try.func21 (by kernel_rfl) rfl #[.int .i64 x6_1, .int .i64 x8_2] rfl (by (try simp only [List.map_toArray, List.map_cons, List.map_nil]); first | done | rfl | (simp only [List.length_drop, List.length_take]; rfl)) ?_; (with_reducible refine (vokref1_Length.calls k2 x6_1 x8_2 t154 _ A8.out).mono ?_); rintro e w' ⟨rfl, ⟨nd, rfl⟩⟩; refine ⟨_, rfl, ?_⟩) | ((with_reducible refine gate_callee (f := 21) rfl ?_); refine goesL_ (some 36) rfl rfl Try.func21 (by kernel_rfl) rfl #[.int .i64 x6_1, .int .i64 x8_2] rfl (by (try simp only [List.map_toArray, List.map_cons, List.map_nil]); first | done | rfl | (simp only [List.length_drop, List.length_take]; rfl)) ?_; (with_reducible refine (vokref1_Length.calls k2 x6_1 x8_2 t155 _ A10.out).mono ?_); rintro e w' ⟨rfl, ⟨nd, rfl⟩⟩; refine ⟨_, rfl, ?_⟩))
                go_roundg k2
                case measure => have := HK1.out; have := HK2.out; omega
                case rel => exact ⟨(wrap64 (x7_2 - t155)), (wrap64 (x8_2 + 1)), (by first | rfl | (simp; done) | (simp [*]; done)), (by first | rfl | (simp; done) | (simp [*]; done)), H', ⟨by have := HK1.out; have := HK2.out; omega⟩, by repeat (first | exact Drawn0.refl _ | apply Drawn0.step)⟩
              · rw [if_neg c9] at H
                have c9b0 : decide (t154 ≤ x7_2) = false := decide_eq_false c9
                clear c9
                simp only [Option.some.injEq, Prod.mk.injEq] at H
                obtain ⟨rfl, rfl, rfl, rfl⟩ := H
                go_wp2_with (first | ((with_reducible refine gate_callee (f := 21) rfl ?_); refine goesL_ (some 31) rfl rfl Try.func21 (by kernel_rfl) rfl #[.int .i64 x6_1, .int .i64 x8_2] rfl (by (try simp only [List.map_toArray, List.map_cons, List.map_nil]); first | done | rfl | (simp only [List.length_drop, List.length_take]; rfl)) ?_; (with_reducible refine (vokref1_Length.calls k2 x6_1 x8_2 t154 _ A8.out).mono ?_); rintro e w' ⟨rfl, ⟨nd, rfl⟩⟩; refine ⟨_, rfl, ?_⟩))
                refine bodyPost_ret (results_list (rs := [.tmp 2, .tmp 3, .tmp 4, .tmp 5]) rfl (by simp) (.tmp (.tmp (.tmp (.tmp .nil))))) rfl ?_
                exact ⟨by first | rfl | (simp; done) | (simp [*]; done), by repeat (first | exact Drawn0.refl _ | apply Drawn0.step)⟩
  · replace c3 := Bool.eq_false_iff.mpr c3
    subst c3
    have H1 : (some (0, 0, 0, 1)) = some (r1, r2, r3, r4) := by rw [if_neg (show ¬ (false = true) by decide)] at H; exact H
    clear H
    have H := H1
    clear H1
    simp only [Option.some.injEq, Prod.mk.injEq] at H
    obtain ⟨rfl, rfl, rfl, rfl⟩ := H
    go_enter Try.func31, Try.ntmps31
    go_wp2_with (first | ((with_reducible refine gate_callee (f := 46) rfl ?_); refine goesL_ (some 10) rfl rfl Try.func46 (by kernel_rfl) rfl #[.int .i64 a0] rfl (by (try simp only [List.map_toArray, List.map_cons, List.map_nil]); first | done | rfl | (simp only [List.length_drop, List.length_take]; rfl)) ?_; (with_reducible refine (vokref1_in.calls a0 false _ A2.out).mono ?_); rintro e w' ⟨rfl, ⟨nd, rfl⟩⟩; refine ⟨_, rfl, ?_⟩))
    refine bodyPost_ret (results_list (rs := [.tmp 2, .tmp 3, .tmp 4, .tmp 5]) rfl (by simp) (.tmp (.tmp (.tmp (.tmp .nil))))) rfl ?_
    exact ⟨by first | rfl | (simp; done) | (simp [*]; done), by repeat (first | exact Drawn0.refl _ | apply Drawn0.step)⟩

/-! ### vokref1_Weekday: function 34 -/
def vokref1_Weekday.f (a0 : Int) : Option (Int) := some (Int.tmod (wrap64 ((Int.tmod a0 7) + 10)) 7)
set_option maxHeartbeats 8000000 in
set_option maxRecDepth 100000 in
theorem vokref1_Weekday.calls (a0 : Int) (r : Int) (w : World) (h : vokref1_Weekday.f a0 = some r) :
    Calls Try.prog 34 #[.int .i64 a0] w fun e w' => e = .returned (.int .i64 r) ∧ Drawn0 w w' := by
  have H : (some (Int.tmod (wrap64 ((Int.tmod a0 7) + 10)) 7)) = some r := h
  clear h
  obtain rfl := Option.some.inj H
  go_enter Try.func34, Try.ntmps34
  go_wp2
  go_ret
  exact ⟨by first | rfl | (simp; done) | (simp [*]; done), by repeat (first | exact Drawn0.refl _ | apply Drawn0.step)⟩

/-! ### vokref1_begin: function 48 -/
def vokref1_begin.f (a0 : Int) (a1 : Int) : Option (Int) := (vokref1_Weekday.f a0).bind fun t156 => (some (wrap64 (a0 - (Int.tmod (wrap64 ((wrap64 (t156 - a1)) + 7)) 7))))
set_option maxHeartbeats 8000000 in
set_option maxRecDepth 100000 in
theorem vokref1_begin.calls (a0 : Int) (a1 : Int) (r : Int) (w : World) (h : vokref1_begin.f a0 a1 = some r) :
    Calls Try.prog 48 #[.int .i64 a0, .int .i64 a1] w fun e w' => e = .returned (.int .i64 r) ∧ Drawn0 w w' := by
  have H : ((vokref1_Weekday.f a0).bind fun t156 => (some (wrap64 (a0 - (Int.tmod (wrap64 ((wrap64 (t156 - a1)) + 7)) 7))))) = some r := h
  clear h
  replace H := Option.bind_eq_some_iff.mp H
  obtain ⟨t156, A30, H⟩ := H
  replace H : (some (wrap64 (a0 - (Int.tmod (wrap64 ((wrap64 (t156 - a1)) + 7)) 7)))) = some r := H
  have A3 := Aside0.mk A30
  clear A30
  obtain rfl := Option.some.inj H
  go_enter Try.func48, Try.ntmps48
  go_wp2_with (first | ((with_reducible refine gate_callee (f := 34) rfl ?_); refine goesL_ (some 7) rfl rfl Try.func34 (by kernel_rfl) rfl #[.int .i64 a0] rfl (by (try simp only [List.map_toArray, List.map_cons, List.map_nil]); first | done | rfl | (simp only [List.length_drop, List.length_take]; rfl)) ?_; (with_reducible refine (vokref1_Weekday.calls a0 t156 _ A3.out).mono ?_); rintro e w' ⟨rfl, ⟨nd, rfl⟩⟩; refine ⟨_, rfl, ?_⟩))
  go_ret
  exact ⟨by first | rfl | (simp; done) | (simp [*]; done), by repeat (first | exact Drawn0.refl _ | apply Drawn0.step)⟩

/-! ### vokref1_one: function 45 -/
def vokref1_one.f (a0 : Int) (a1 : Int) : Option (Int) := (vokref1_first.f a0).bind fun t157 => ((vokref1_begin.f (wrap64 (t157 + 3)) a1).bind fun t158 => (some t158))
set_option maxHeartbeats 8000000 in
set_option maxRecDepth 100000 in
theorem vokref1_one.calls (a0 : Int) (a1 : Int) (r : Int) (w : World) (h : vokref1_one.f a0 a1 = some r) :
    Calls Try.prog 45 #[.int .i64 a0, .int .i64 a1] w fun e w' => e = .returned (.int .i64 r) ∧ Drawn0 w w' := by
  have H : ((vokref1_first.f a0).bind fun t157 => ((vokref1_begin.f (wrap64 (t157 + 3)) a1).bind fun t158 => (some t158))) = some r := h
  clear h
  replace H := Option.bind_eq_some_iff.mp H
  obtain ⟨t157, A30, H⟩ := H
  replace H : ((vokref1_begin.f (wrap64 (t157 + 3)) a1).bind fun t158 => (some t158)) = some r := H
  have A3 := Aside0.mk A30
  clear A30
  replace H := Option.bind_eq_some_iff.mp H
  obtain ⟨t158, A40, H⟩ := H
  replace H : (some t158) = some r := H
  have A4 := Aside0.mk A40
  clear A40
  obtain rfl := Option.some.inj H
  go_enter Try.func45, Try.ntmps45
  go_wp2_with (first | ((with_reducible refine gate_callee (f := 39) rfl ?_); refine goesL_ (some 6) rfl rfl Try.func39 (by kernel_rfl) rfl #[.int .i64 a0] rfl (by (try simp only [List.map_toArray, List.map_cons, List.map_nil]); first | done | rfl | (simp only [List.length_drop, List.length_take]; rfl)) ?_; (with_reducible refine (vokref1_first.calls a0 t157 _ A3.out).mono ?_); rintro e w' ⟨rfl, ⟨nd, rfl⟩⟩; refine ⟨_, rfl, ?_⟩) | ((with_reducible refine gate_callee (f := 48) rfl ?_); refine goesL_ (some 9) rfl rfl Try.func48 (by kernel_rfl) rfl #[.int .i64 (wrap64 (t157 + 3)), .int .i64 a1] rfl (by (try simp only [List.map_toArray, List.map_cons, List.map_nil]); first | done | rfl | (simp only [List.length_drop, List.length_take]; rfl)) ?_; (with_reducible refine (vokref1_begin.calls (wrap64 (t157 + 3)) a1 t158 _ A4.out).mono ?_); rintro e w' ⟨rfl, ⟨nd, rfl⟩⟩; refine ⟨_, rfl, ?_⟩))
  go_ret
  exact ⟨by first | rfl | (simp; done) | (simp [*]; done), by repeat (first | exact Drawn0.refl _ | apply Drawn0.step)⟩

/-! ### vokref1_Week: function 28 -/
def vokref1_Week.j0 : Nat → Int → Int → Int → Int → Bool → Option (Int × Int × Int)
  | 0, _, _, _, _, _ => none
  | k + 1, x0, x1, x7, x10, x27 => if x27 = true then (some (0, 0, 1)) else ((vokref1_one.f (wrap64 (x7 + 1)) x1).bind fun t163 => (if x0 ≥ t163 then ((vokref1_one.f (wrap64 (x7 + 1)) x1).bind fun t164 => (some (wrap64 (x7 + 1), wrap64 ((wrap64 (Int.tdiv (wrap64 (x0 - t164)) 7)) + 1), x10))) else ((vokref1_one.f x7 x1).bind fun t165 => (if x0 < t165 then ((vokref1_one.f (wrap64 (x7 - 1)) x1).bind fun t166 => (some (wrap64 (x7 - 1), wrap64 ((wrap64 (Int.tdiv (wrap64 (x0 - t166)) 7)) + 1), x10))) else ((vokref1_one.f x7 x1).bind fun t167 => (some (x7, wrap64 ((wrap64 (Int.tdiv (wrap64 (x0 - t167)) 7)) + 1), x10)))))))
def vokref1_Week.f (k : Nat) (a0 : Int) (a1 : Int) : Option (Int × Int × Int) := (vokref1_Date.f k a0).bind fun bt159 => (if bt159.2.2.2 = 0 then (if a1 < 0 then (vokref1_Week.j0 k a0 a1 bt159.1 bt159.2.2.2 true) else (vokref1_Week.j0 k a0 a1 bt159.1 bt159.2.2.2 (decide (a1 > 6)))) else (vokref1_Week.j0 k a0 a1 bt159.1 bt159.2.2.2 true))
theorem vokref1_Week.mono_l : ∀ k, (∀ y0 y1 y2 y3 y4, LeO (vokref1_Week.j0 k y0 y1 y2 y3 y4) (vokref1_Week.j0 (k + 1) y0 y1 y2 y3 y4))
  | 0 => fun _ _ _ _ _ r h => by simp [vokref1_Week.j0] at h
  | k + 1 => by
    have ih0 := vokref1_Week.mono_l k
    · intro y0 y1 y2 y3 y4
      unfold vokref1_Week.j0
      repeat' first
      | (with_reducible exact ih0 _ _ _ _ _)
      | (with_reducible exact vokref1_Date.mono _ _)
      | (with_reducible exact LeO.refl _)
      | (with_reducible exact LeO.none _)
      | (with_reducible refine LeO.ite ?_ ?_)
      | (with_reducible refine LeO.bind ?_ (fun _ => ?_))
      | exact ih0 _ _ _ _ _
      | exact vokref1_Date.mono _ _
      | exact LeO.none _
      | refine LeO.ite ?_ ?_
      | refine LeO.bind ?_ (fun _ => ?_)
theorem vokref1_Week.mono : ∀ a0 a1 k, LeO (vokref1_Week.f k a0 a1) (vokref1_Week.f (k + 1) a0 a1) := by
  intro a0 a1 k
  have ih0 := vokref1_Week.mono_l k
  unfold vokref1_Week.f
  repeat' first
      | (with_reducible exact ih0 _ _ _ _ _)
      | (with_reducible exact vokref1_Date.mono _ _)
      | (with_reducible exact LeO.refl _)
      | (with_reducible exact LeO.none _)
      | (with_reducible refine LeO.ite ?_ ?_)
      | (with_reducible refine LeO.bind ?_ (fun _ => ?_))
      | exact ih0 _ _ _ _ _
      | exact vokref1_Date.mono _ _
      | exact LeO.none _
      | refine LeO.ite ?_ ?_
      | refine LeO.bind ?_ (fun _ => ?_)
set_option maxHeartbeats 8000000 in
set_option maxRecDepth 100000 in
theorem vokref1_Week.calls (k : Nat) (a0 : Int) (a1 : Int) (r1 : Int) (r2 : Int) (r3 : Int) (w : World) (h : vokref1_Week.f k a0 a1 = some (r1, r2, r3)) :
    Calls Try.prog 28 #[.int .i64 a0, .int .i64 a1] w fun e w' => e = .returned (.tuple #[.int .i64 r1, .int .i64 r2, .int .i64 r3]) ∧ Drawn0 w w' := by
  have H : ((vokref1_Date.f k a0).bind fun bt159 => (if bt159.2.2.2 = 0 then (if a1 < 0 then (vokref1_Week.j0 k a0 a1 bt159.1 bt159.2.2.2 true) else (vokref1_Week.j0 k a0 a1 bt159.1 bt159.2.2.2 (decide (a1 > 6)))) else (vokref1_Week.j0 k a0 a1 bt159.1 bt159.2.2.2 true))) = some (r1, r2, r3) := h
  clear h
  replace H := Option.bind_eq_some_iff.mp H
  obtain ⟨⟨t159, t160, t161, t162⟩, A30, H⟩ := H
  replace H : (if t162 = 0 then (if a1 < 0 then (vokref1_Week.j0 k a0 a1 t159 t162 true) else (vokref1_Week.j0 k a0 a1 t159 t162 (decide (a1 > 6)))) else (vokref1_Week.j0 k a0 a1 t159 t162 true)) = some (r1, r2, r3) := H
  have A3 := Aside0.mk A30
  clear A30
  have HC4 := Aside0.mk H
  clear H
  go_enter Try.func28, Try.ntmps28
  go_upto_region 2 with (first | ((with_reducible refine gate_callee (f := 31) rfl ?_); refine goesL_ (some 13) rfl rfl Try.func31 (by kernel_rfl) rfl #[.int .i64 a0] rfl (by (try simp only [List.map_toArray, List.map_cons, List.map_nil]); first | done | rfl | (simp only [List.length_drop, List.length_take]; rfl)) ?_; (with_reducible refine (vokref1_Date.calls k a0 t159 t160 t161 t162 _ A3.out).mono ?_); rintro e w' ⟨rfl, ⟨nd, rfl⟩⟩; refine ⟨_, rfl, ?_⟩))
  (try simp only [Act.put, List.setIfInBounds_toArray, List.set_cons_zero, List.set_cons_succ])
  go_cut [27] (fun v27 wc => ∃ (kq : Nat) (x27_3 : Bool), v27 = .bool x27_3 ∧ Aside0 (vokref1_Week.j0 kq a0 a1 t159 t162 x27_3 = some (r1, r2, r3)) ∧ Aside0 (kq ≤ k) ∧ Drawn0 w wc)
  case first =>
    have H := HC4.out
    clear HC4
    by_cases c5 : t162 = 0
    · rw [if_pos c5] at H
      have c5b0 : (t162 == 0) = true := beq_iff_eq.mpr c5
      have c5b1 : (t162 != 0) = false := bne_eq_false_iff_eq.mpr c5
      clear c5
      (first | rw [c5b0] | (simp only [i64_w, i32_w]; rw [c5b0]) | skip)
      by_cases c6 : a1 < 0
      · rw [if_pos c6] at H
        have c6b0 : decide (a1 < 0) = true := decide_eq_true c6
        clear c6
        have H' := Aside0.mk H
        clear H
        go_wp2
        go_meet
        case rel => exact ⟨_, (true), (by first | rfl | (simp; done) | (simp [*]; done)), H', ⟨by first | omega | exact Nat.le_refl _⟩, by repeat (first | exact Drawn0.refl _ | apply Drawn0.step)⟩
      · rw [if_neg c6] at H
        have c6b0 : decide (a1 < 0) = false := decide_eq_false c6
        clear c6
        have H' := Aside0.mk H
        clear H
        go_wp2
        go_meet
        case rel => exact ⟨_, (decide (a1 > 6)), (by first | rfl | (simp; done) | (simp [*]; done)), H', ⟨by first | omega | exact Nat.le_refl _⟩, by repeat (first | exact Drawn0.refl _ | apply Drawn0.step)⟩
    · rw [if_neg c5] at H
      have c5b0 : (t162 == 0) = false := beq_eq_false_iff_ne.mpr c5
      have c5b1 : (t162 != 0) = true := bne_iff_ne.mpr c5
      (first | rw [c5b0] | (simp only [i64_w, i32_w]; rw [c5b0]) | skip)
      have H' := Aside0.mk H
      clear H
      go_wp2
      go_meet
      case rel => exact ⟨_, (true), (by first | rfl | (simp; done) | (simp [*]; done)), H', ⟨by first | omega | exact Nat.le_refl _⟩, by repeat (first | exact Drawn0.refl _ | apply Drawn0.step)⟩
  case rest =>
    clear HC4
    try clear c2
    try clear p2
    try clear c3
    try clear c5
    try clear c5b0
    try clear c5b1
    try clear c6
    try clear c6b0
    obtain ⟨kq, x27_3, rfl, HA, HJ3, ⟨mc3, rfl⟩⟩ := hcut
    cases kq with
    | zero => exact absurd HA.out (by simp [vokref1_Week.j0])
    | succ kj3 =>
      have H := HA.out
      clear HA
      simp only [vokref1_Week.j0] at H
      by_cases c7 : x27_3 = true
      · subst c7
        have H1 : (some (0, 0, 1)) = some (r1, r2, r3) := by rw [if_pos rfl] at H; exact H
        clear H
        have H := H1
        clear H1
        simp only [Option.some.injEq, Prod.mk.injEq] at H
        obtain ⟨rfl, rfl, rfl⟩ := H
        go_wp2
        go_ret3
        exact ⟨by first | rfl | (simp; done) | (simp [*]; done), by repeat (first | exact Drawn0.refl _ | apply Drawn0.step)⟩
      · replace c7 := Bool.eq_false_iff.mpr c7
        subst c7
        have H1 : ((vokref1_one.f (wrap64 (t159 + 1)) a1).bind fun t163 => (if a0 ≥ t163 then ((vokref1_one.f (wrap64 (t159 + 1)) a1).bind fun t164 => (some (wrap64 (t159 + 1), wrap64 ((wrap64 (Int.tdiv (wrap64 (a0 - t164)) 7)) + 1), t162))) else ((vokref1_one.f t159 a1).bind fun t165 => (if a0 < t165 then ((vokref1_one.f (wrap64 (t159 - 1)) a1).bind fun t166 => (some (wrap64 (t159 - 1), wrap64 ((wrap64 (Int.tdiv (wrap64 (a0 - t166)) 7)) + 1), t162))) else ((vokref1_one.f t159 a1).bind fun t167 => (some (t159, wrap64 ((wrap64 (Int.tdiv (wrap64 (a0 - t167)) 7)) + 1), t162))))))) = some (r1, r2, r3) := by rw [if_neg (show ¬ (false = true) by decide)] at H; exact H
        clear H
        have H := H1
        clear H1
        replace H := Option.bind_eq_some_iff.mp H
        obtain ⟨t163, A80, H⟩ := H
        replace H : (if a0 ≥ t163 then ((vokref1_one.f (wrap64 (t159 + 1)) a1).bind fun t164 => (some (wrap64 (t159 + 1), wrap64 ((wrap64 (Int.tdiv (wrap64 (a0 - t164)) 7)) + 1), t162))) else ((vokref1_one.f t159 a1).bind fun t165 => (if a0 < t165 then ((vokref1_one.f (wrap64 (t159 - 1)) a1).bind fun t166 => (some (wrap64 (t159 - 1), wrap64 ((wrap64 (Int.tdiv (wrap64 (a0 - t166)) 7)) + 1), t162))) else ((vokref1_one.f t159 a1).bind fun t167 => (some (t159, wrap64 ((wrap64 (Int.tdiv (wrap64 (a0 - t167)) 7)) + 1), t162)))))) = some (r1, r2, r3) := H
        have A8 := Aside0.mk A80
        clear A80
        by_cases c9 : a0 ≥ t163
        · rw [if_pos c9] at H
          have c9b0 : decide (t163 ≤ a0) = true := decide_eq_true c9
          clear c9
          replace H := Option.bind_eq_some_iff.mp H
          obtain ⟨t164, A100, H⟩ := H
          replace H : (some (wrap64 (t159 + 1), wrap64 ((wrap64 (Int.tdiv (wrap64 (a0 - t164)) 7)) + 1), t162)) = some (r1, r2, r3) := H
          have A10 := Aside0.mk A100
          clear A100
          simp only [Option.some.injEq, Prod.mk.injEq] at H
          obtain ⟨rfl, rfl, rfl⟩ := H
          go_wp2_with (first | ((with_reducible refine gate_callee (f := 45) rfl ?_); refine goesL_ (some 33) rfl rfl Try.func45 (by kernel_rfl) rfl #[.int .i64 (wrap64 (t159 + 1)), .int .i64 a1] rfl (by (try simp only [List.map_toArray, List.map_cons, List.map_nil]); first | done | rfl | (simp only [List.length_drop, List.length_take]; rfl)) ?_; (with_reducible refine (vokref1_one.calls (wrap64 (t159 + 1)) a1 t163 _ A8.out).mono ?_); rintro e w' ⟨rfl, ⟨nd, rfl⟩⟩; refine ⟨_, rfl, ?_⟩) | ((with_reducible refine gate_callee (f := 45) rfl ?_); refine goesL_ (some 49) rfl rfl Try.func45 (by kernel_rfl) rfl #[.int .i64 (wrap64 (t159 + 1)), .int .i64 a1] rfl (by (try simp only [List.map_toArray, List.map_cons, List.map_nil]); first | done | rfl | (simp only [List.length_drop, List.length_take]; rfl)) ?_; (with_reducible refine (vokref1_one.calls (wrap64 (t159 + 1)) a1 t164 _ A10.out).mono ?_); rintro e w' ⟨rfl, ⟨nd, rfl⟩⟩; refine ⟨_, rfl, ?_⟩))
          go_ret3
          exact ⟨by first | rfl | (simp; done) | (simp [*]; done), by repeat (first | exact Drawn0.refl _ | apply Drawn0.step)⟩
        · rw [if_neg c9] at H
          have c9b0 : decide (t163 ≤ a0) = false := decide_eq_false c9
          clear c9
          replace H := Option.bind_eq_some_iff.mp H
          obtain ⟨t165, A110, H⟩ := H
          replace H : (if a0 < t165 then ((vokref1_one.f (wrap64 (t159 - 1)) a1).bind fun t166 => (some (wrap64 (t159 - 1), wrap64 ((wrap64 (Int.tdiv (wrap64 (a0 - t166)) 7)) + 1), t162))) else ((vokref1_one.f t159 a1).bind fun t167 => (some (t159, wrap64 ((wrap64 (Int.tdiv (wrap64 (a0 - t167)) 7)) + 1), t162)))) = some (r1, r2, r3) := H
          have A11 := Aside0.mk A110
          clear A110
          by_cases c12 : a0 < t165
          · rw [if_pos c12] at H
            have c12b0 : decide (a0 < t165) = true := decide_eq_true c12
            clear c12
            replace H := Option.bind_eq_some_iff.mp H
            obtain ⟨t166, A130, H⟩ := H
            replace H : (some (wrap64 (t159 - 1), wrap64 ((wrap64 (Int.tdiv (wrap64 (a0 - t166)) 7)) + 1), t162)) = some (r1, r2, r3) := H
            have A13 := Aside0.mk A130
            clear A130
            simp only [Option.some.injEq, Prod.mk.injEq] at H
            obtain ⟨rfl, rfl, rfl⟩ := H
            go_wp2_with (first | ((with_reducible refine gate_callee (f := 45) rfl ?_); refine goesL_ (some 33) rfl rfl Try.func45 (by kernel_rfl) rfl #[.int .i64 (wrap64 (t159 + 1)), .int .i64 a1] rfl (by (try simp only [List.map_toArray, List.map_cons, List.map_nil]); first | done | rfl | (simp only [List.length_drop, List.length_take]; rfl)) ?_; (with_reducible refine (vokref1_one.calls (wrap64 (t159 + 1)) a1 t163 _ A8.out).mono ?_); rintro e w' ⟨rfl, ⟨nd, rfl⟩⟩; refine ⟨_, rfl, ?_⟩) | ((with_reducible refine gate_callee (f := 45) rfl ?_); refine goesL_ (some 41) rfl rfl Try.func45 (by kernel_rfl) rfl #[.int .i64 t159, .int .i64 a1] rfl (by (try simp only [List.map_toArray, List.map_cons, List.map_nil]); first | done | rfl | (simp only [List.length_drop, List.length_take]; rfl)) ?_; (with_reducible refine (vokref1_one.calls t159 a1 t165 _ A11.out).mono ?_); rintro e w' ⟨rfl, ⟨nd, rfl⟩⟩; refine ⟨_, rfl, ?_⟩) | ((with_reducible refine gate_callee (f := 45) rfl ?_); refine goesL_ (some 49) rfl rfl Try.func45 (by kernel_rfl) rfl #[.int .i64 (wrap64 (t159 - 1)), .int .i64 a1] rfl (by (try simp only [List.map_toArray, List.map_cons, List.map_nil]); first | done | rfl | (simp only [List.length_drop, List.length_take]; rfl)) ?_; (with_reducible refine (vokref1_one.calls (wrap64 (t159 - 1)) a1 t166 _ A13.out).mono ?_); rintro e w' ⟨rfl, ⟨nd, rfl⟩⟩; refine ⟨_, rfl, ?_⟩))
            go_ret3
            exact ⟨by first | rfl | (simp; done) | (simp [*]; done), by repeat (first | exact Drawn0.refl _ | apply Drawn0.step)⟩
          · rw [if_neg c12] at H
            have c12b0 : decide (a0 < t165) = false := decide_eq_false c12
            clear c12
            replace H := Option.bind_eq_some_iff.mp H
            obtain ⟨t167, A140, H⟩ := H
            replace H : (some (t159, wrap64 ((wrap64 (Int.tdiv (wrap64 (a0 - t167)) 7)) + 1), t162)) = some (r1, r2, r3) := H
            have A14 := Aside0.mk A140
            clear A140
            simp only [Option.some.injEq, Prod.mk.injEq] at H
            obtain ⟨rfl, rfl, rfl⟩ := H
            go_wp2_with (first | ((with_reducible refine gate_callee (f := 45) rfl ?_); refine goesL_ (some 33) rfl rfl Try.func45 (by kernel_rfl) rfl #[.int .i64 (wrap64 (t159 + 1)), .int .i64 a1] rfl (by (try simp only [List.map_toArray, List.map_cons, List.map_nil]); first | done | rfl | (simp only [List.length_drop, List.length_take]; rfl)) ?_; (with_reducible refine (vokref1_one.calls (wrap64 (t159 + 1)) a1 t163 _ A8.out).mono ?_); rintro e w' ⟨rfl, ⟨nd, rfl⟩⟩; refine ⟨_, rfl, ?_⟩) | ((with_reducible refine gate_callee (f := 45) rfl ?_); refine goesL_ (some 41) rfl rfl Try.func45 (by kernel_rfl) rfl #[.int .i64 t159, .int .i64 a1] rfl (by (try simp only [List.map_toArray, List.map_cons, List.map_nil]); first | done | rfl | (simp only [List.length_drop, List.length_take]; rfl)) ?_; (with_reducible refine (vokref1_one.calls t159 a1 t165 _ A11.out).mono ?_); rintro e w' ⟨rfl, ⟨nd, rfl⟩⟩; refine ⟨_, rfl, ?_⟩) | ((with_reducible refine gate_callee (f := 45) rfl ?_); refine goesL_ (some 49) rfl rfl Try.func45 (by kernel_rfl) rfl #[.int .i64 t159, .int .i64 a1] rfl (by (try simp only [List.map_toArray, List.map_cons, List.map_nil]); first | done | rfl | (simp only [List.length_drop, List.length_take]; rfl)) ?_; (with_reducible refine (vokref1_one.calls t159 a1 t167 _ A14.out).mono ?_); rintro e w' ⟨rfl, ⟨nd, rfl⟩⟩; refine ⟨_, rfl, ?_⟩))
            go_ret3
            exact ⟨by first | rfl | (simp; done) | (simp [*]; done), by repeat (first | exact Drawn0.refl _ | apply Drawn0.step)⟩

end Go.Proofs.Ytpgikdohlhbgoaa.PCivilWeeks
