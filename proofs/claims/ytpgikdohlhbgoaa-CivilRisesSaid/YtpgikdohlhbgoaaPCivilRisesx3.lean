-- PRINTED BY print.sh 35421559b90ae4d0a3588c463048766b98c2df88dd9212a6774a882060cdf62d: not written by this session
import Derived.Test.YtpgikdohlhbgoaaPCivilRisesx0
import Derived.Test.YtpgikdohlhbgoaaPCivilRisesx1
import Derived.Test.YtpgikdohlhbgoaaPCivilRisesx2
namespace Go.Proofs.Ytpgikdohlhbgoaa.PCivilRises
open Go.RowKit Go.Proofs.YtpgikdohlhbgoaaW.PrintWords Go.Proofs.YtpgikdohlhbgoaaW.PrintLast Go.Proofs.YtpgikdohlhbgoaaW.PrintMore
attribute [local go_sem] max2_int min2_int max_two min_two max_three min_three max_four min_four   -- for this text's walks alone
set_option linter.unusedVariables false
set_option linter.unusedSimpArgs false

/-! ### voklaw1_CivilRises: function 5 -/
mutual
def voklaw1_CivilRises.j0 : Nat → Int → Int → Int → Int → Int → Int → Int → Int → Bool → Option (Bool)
  | 0, _, _, _, _, _, _, _, _, _ => none
  | k + 1, x0, x1, x2, x3, x4, x5, x13, x15, x44 => if x44 = true then ((voklaw1_first.f k).bind fun t149 => (some t149)) else (if x0 > x3 then (voklaw1_CivilRises.j1 k x0 x1 x2 x3 x4 x5 x13 x15 true) else (if x0 = x3 then (if x1 > x4 then (voklaw1_CivilRises.j1 k x0 x1 x2 x3 x4 x5 x13 x15 true) else (if x1 = x4 then (voklaw1_CivilRises.j1 k x0 x1 x2 x3 x4 x5 x13 x15 (decide (x2 > x5))) else (voklaw1_CivilRises.j1 k x0 x1 x2 x3 x4 x5 x13 x15 false))) else (voklaw1_CivilRises.j1 k x0 x1 x2 x3 x4 x5 x13 x15 false)))
def voklaw1_CivilRises.j1 : Nat → Int → Int → Int → Int → Int → Int → Int → Int → Bool → Option (Bool)
  | 0, _, _, _, _, _, _, _, _, _ => none
  | k + 1, x0, x1, x2, x3, x4, x5, x13, x15, x17 => (civil_Days.f k x0 1 1).bind fun bt150 => ((civil_Days.f k x0 12 31).bind fun bt152 => ((civil_Leap.f x0).bind fun t154 => (if t154 = true then ((voklaw1_first.f k).bind fun t155 => (if t155 = true then (if ((decide (x13 > x15)) == x17) = true then (if x0 = x3 then (if x1 = x4 then (if ((x13 == x15) == (x2 == x5)) = true then (some ((wrap64 ((wrap64 (bt152.1 - bt150.1)) + 1)) == 366)) else (some false)) else (if ((x13 == x15) == false) = true then (some ((wrap64 ((wrap64 (bt152.1 - bt150.1)) + 1)) == 366)) else (some false))) else (if ((x13 == x15) == false) = true then (some ((wrap64 ((wrap64 (bt152.1 - bt150.1)) + 1)) == 366)) else (some false))) else (some false)) else (some false))) else ((voklaw1_first.f k).bind fun t156 => (if t156 = true then (if ((decide (x13 > x15)) == x17) = true then (if x0 = x3 then (if x1 = x4 then (if ((x13 == x15) == (x2 == x5)) = true then (some ((wrap64 ((wrap64 (bt152.1 - bt150.1)) + 1)) == 365)) else (some false)) else (if ((x13 == x15) == false) = true then (some ((wrap64 ((wrap64 (bt152.1 - bt150.1)) + 1)) == 365)) else (some false))) else (if ((x13 == x15) == false) = true then (some ((wrap64 ((wrap64 (bt152.1 - bt150.1)) + 1)) == 365)) else (some false))) else (some false)) else (some false))))))
end
def voklaw1_CivilRises.f (k : Nat) (a0 : Int) (a1 : Int) (a2 : Int) (a3 : Int) (a4 : Int) (a5 : Int) : Option (Bool) := (voklaw1_first.f k).bind fun t144 => (if t144 = true then ((civil_Days.f k a0 a1 a2).bind fun bt145 => ((civil_Days.f k a3 a4 a5).bind fun bt147 => (if bt145.2 = 0 then (voklaw1_CivilRises.j0 k a0 a1 a2 a3 a4 a5 bt145.1 bt147.1 (bt147.2 != 0)) else (voklaw1_CivilRises.j0 k a0 a1 a2 a3 a4 a5 bt145.1 bt147.1 true)))) else (some false))
theorem voklaw1_CivilRises.mono_l : ∀ k, (∀ y0 y1 y2 y3 y4 y5 y6 y7 y8, LeO (voklaw1_CivilRises.j0 k y0 y1 y2 y3 y4 y5 y6 y7 y8) (voklaw1_CivilRises.j0 (k + 1) y0 y1 y2 y3 y4 y5 y6 y7 y8)) ∧ (∀ y0 y1 y2 y3 y4 y5 y6 y7 y8, LeO (voklaw1_CivilRises.j1 k y0 y1 y2 y3 y4 y5 y6 y7 y8) (voklaw1_CivilRises.j1 (k + 1) y0 y1 y2 y3 y4 y5 y6 y7 y8))
  | 0 => ⟨fun _ _ _ _ _ _ _ _ _ r h => by simp [voklaw1_CivilRises.j0] at h, fun _ _ _ _ _ _ _ _ _ r h => by simp [voklaw1_CivilRises.j1] at h⟩
  | k + 1 => by
    obtain ⟨ih0, ih1⟩ := voklaw1_CivilRises.mono_l k
    refine ⟨?_, ?_⟩
    · intro y0 y1 y2 y3 y4 y5 y6 y7 y8
      unfold voklaw1_CivilRises.j0
      repeat' first
      | (with_reducible exact ih0 _ _ _ _ _ _ _ _ _)
      | (with_reducible exact ih1 _ _ _ _ _ _ _ _ _)
      | (with_reducible exact civil_Days.mono _ _ _ _)
      | (with_reducible exact voklaw1_first.mono _)
      | (with_reducible exact LeO.refl _)
      | (with_reducible exact LeO.none _)
      | (with_reducible refine LeO.ite ?_ ?_)
      | (with_reducible refine LeO.bind ?_ (fun _ => ?_))
      | exact ih0 _ _ _ _ _ _ _ _ _
      | exact ih1 _ _ _ _ _ _ _ _ _
      | exact civil_Days.mono _ _ _ _
      | exact voklaw1_first.mono _
      | exact LeO.none _
      | refine LeO.ite ?_ ?_
      | refine LeO.bind ?_ (fun _ => ?_)
    · intro y0 y1 y2 y3 y4 y5 y6 y7 y8
      unfold voklaw1_CivilRises.j1
      repeat' first
      | (with_reducible exact ih0 _ _ _ _ _ _ _ _ _)
      | (with_reducible exact ih1 _ _ _ _ _ _ _ _ _)
      | (with_reducible exact civil_Days.mono _ _ _ _)
      | (with_reducible exact voklaw1_first.mono _)
      | (with_reducible exact LeO.refl _)
      | (with_reducible exact LeO.none _)
      | (with_reducible refine LeO.ite ?_ ?_)
      | (with_reducible refine LeO.bind ?_ (fun _ => ?_))
      | exact ih0 _ _ _ _ _ _ _ _ _
      | exact ih1 _ _ _ _ _ _ _ _ _
      | exact civil_Days.mono _ _ _ _
      | exact voklaw1_first.mono _
      | exact LeO.none _
      | refine LeO.ite ?_ ?_
      | refine LeO.bind ?_ (fun _ => ?_)
theorem voklaw1_CivilRises.mono : ∀ a0 a1 a2 a3 a4 a5 k, LeO (voklaw1_CivilRises.f k a0 a1 a2 a3 a4 a5) (voklaw1_CivilRises.f (k + 1) a0 a1 a2 a3 a4 a5) := by
  intro a0 a1 a2 a3 a4 a5 k
  obtain ⟨ih0, ih1⟩ := voklaw1_CivilRises.mono_l k
  unfold voklaw1_CivilRises.f
  repeat' first
      | (with_reducible exact ih0 _ _ _ _ _ _ _ _ _)
      | (with_reducible exact ih1 _ _ _ _ _ _ _ _ _)
      | (with_reducible exact civil_Days.mono _ _ _ _)
      | (with_reducible exact voklaw1_first.mono _)
      | (with_reducible exact LeO.refl _)
      | (with_reducible exact LeO.none _)
      | (with_reducible refine LeO.ite ?_ ?_)
      | (with_reducible refine LeO.bind ?_ (fun _ => ?_))
      | exact ih0 _ _ _ _ _ _ _ _ _
      | exact ih1 _ _ _ _ _ _ _ _ _
      | exact civil_Days.mono _ _ _ _
      | exact voklaw1_first.mono _
      | exact LeO.none _
      | refine LeO.ite ?_ ?_
      | refine LeO.bind ?_ (fun _ => ?_)
set_option maxHeartbeats 8000000 in
set_option maxRecDepth 100000 in
theorem voklaw1_CivilRises.calls (k : Nat) (a0 : Int) (a1 : Int) (a2 : Int) (a3 : Int) (a4 : Int) (a5 : Int) (r : Bool) (w : World) (h : voklaw1_CivilRises.f k a0 a1 a2 a3 a4 a5 = some r) :
    Calls Try.prog 5 #[.int .i64 a0, .int .i64 a1, .int .i64 a2, .int .i64 a3, .int .i64 a4, .int .i64 a5] w fun e w' => e = .returned (.bool r) ∧ Drawn0 w w' := by
  have H : ((voklaw1_first.f k).bind fun t144 => (if t144 = true then ((civil_Days.f k a0 a1 a2).bind fun bt145 => ((civil_Days.f k a3 a4 a5).bind fun bt147 => (if bt145.2 = 0 then (voklaw1_CivilRises.j0 k a0 a1 a2 a3 a4 a5 bt145.1 bt147.1 (bt147.2 != 0)) else (voklaw1_CivilRises.j0 k a0 a1 a2 a3 a4 a5 bt145.1 bt147.1 true)))) else (some false))) = some r := h
  clear h
  replace H := Option.bind_eq_some_iff.mp H
  obtain ⟨t144, A70, H⟩ := H
  replace H : (if t144 = true then ((civil_Days.f k a0 a1 a2).bind fun bt145 => ((civil_Days.f k a3 a4 a5).bind fun bt147 => (if bt145.2 = 0 then (voklaw1_CivilRises.j0 k a0 a1 a2 a3 a4 a5 bt145.1 bt147.1 (bt147.2 != 0)) else (voklaw1_CivilRises.j0 k a0 a1 a2 a3 a4 a5 bt145.1 bt147.1 true)))) else (some false)) = some r := H
  have A7 := Aside0.mk A70
  clear A70
  by_cases c8 : t144 = true
  · subst c8
    have H1 : ((civil_Days.f k a0 a1 a2).bind fun bt145 => ((civil_Days.f k a3 a4 a5).bind fun bt147 => (if bt145.2 = 0 then (voklaw1_CivilRises.j0 k a0 a1 a2 a3 a4 a5 bt145.1 bt147.1 (bt147.2 != 0)) else (voklaw1_CivilRises.j0 k a0 a1 a2 a3 a4 a5 bt145.1 bt147.1 true)))) = some r := by rw [if_pos rfl] at H; exact H
    clear H
    have H := H1
    clear H1
    replace H := Option.bind_eq_some_iff.mp H
    obtain ⟨⟨t145, t146⟩, A90, H⟩ := H
    replace H : ((civil_Days.f k a3 a4 a5).bind fun bt147 => (if t146 = 0 then (voklaw1_CivilRises.j0 k a0 a1 a2 a3 a4 a5 t145 bt147.1 (bt147.2 != 0)) else (voklaw1_CivilRises.j0 k a0 a1 a2 a3 a4 a5 t145 bt147.1 true))) = some r := H
    have A9 := Aside0.mk A90
    clear A90
    replace H := Option.bind_eq_some_iff.mp H
    obtain ⟨⟨t147, t148⟩, A100, H⟩ := H
    replace H : (if t146 = 0 then (voklaw1_CivilRises.j0 k a0 a1 a2 a3 a4 a5 t145 t147 (t148 != 0)) else (voklaw1_CivilRises.j0 k a0 a1 a2 a3 a4 a5 t145 t147 true)) = some r := H
    have A10 := Aside0.mk A100
    clear A100
    have HC11 := Aside0.mk H
    clear H
    go_enter Try.func5, Try.ntmps5
    go_upto_region 5 with (first | ((with_reducible refine gate_callee (f := 15) rfl ?_); refine goesL_ (some 23) rfl rfl Try.func15 (by kernel_rfl) rfl #[] rfl (by (try simp only [List.map_toArray, List.map_cons, List.map_nil]); first | done | rfl | (simp only [List.length_drop, List.length_take]; rfl)) ?_; (with_reducible refine (voklaw1_first.calls k  true _ A7.out).mono ?_); rintro e w' ⟨rfl, ⟨nd, rfl⟩⟩; refine ⟨_, rfl, ?_⟩) | ((with_reducible refine gate_callee (f := 16) rfl ?_); refine goesL_ (some 29) rfl rfl Try.func16 (by kernel_rfl) rfl #[.int .i64 a0, .int .i64 a1, .int .i64 a2] rfl (by (try simp only [List.map_toArray, List.map_cons, List.map_nil]); first | done | rfl | (simp only [List.length_drop, List.length_take]; rfl)) ?_; (with_reducible refine (civil_Days.calls k a0 a1 a2 t145 t146 _ A9.out).mono ?_); rintro e w' ⟨rfl, ⟨nd, rfl⟩⟩; refine ⟨_, rfl, ?_⟩) | ((with_reducible refine gate_callee (f := 16) rfl ?_); refine goesL_ (some 36) rfl rfl Try.func16 (by kernel_rfl) rfl #[.int .i64 a3, .int .i64 a4, .int .i64 a5] rfl (by (try simp only [List.map_toArray, List.map_cons, List.map_nil]); first | done | rfl | (simp only [List.length_drop, List.length_take]; rfl)) ?_; (with_reducible refine (civil_Days.calls k a3 a4 a5 t147 t148 _ A10.out).mono ?_); rintro e w' ⟨rfl, ⟨nd, rfl⟩⟩; refine ⟨_, rfl, ?_⟩))
    (try simp only [Act.put, List.setIfInBounds_toArray, List.set_cons_zero, List.set_cons_succ])
    go_cut [44] (fun v44 wc => ∃ (kq : Nat) (x44_10 : Bool), v44 = .bool x44_10 ∧ Aside0 (voklaw1_CivilRises.j0 kq a0 a1 a2 a3 a4 a5 t145 t147 x44_10 = some r) ∧ Aside0 (kq ≤ k) ∧ Drawn0 w wc)
    case first =>
      have H := HC11.out
      clear HC11
      by_cases c12 : t146 = 0
      · rw [if_pos c12] at H
        have c12b0 : (t146 == 0) = true := beq_iff_eq.mpr c12
        have c12b1 : (t146 != 0) = false := bne_eq_false_iff_eq.mpr c12
        clear c12
        (first | rw [c12b0] | (simp only [i64_w, i32_w]; rw [c12b0]) | skip)
        have H' := Aside0.mk H
        clear H
        go_wp2
        go_meet
        case rel => exact ⟨_, ((t148 != 0)), (by first | rfl | (simp; done) | (simp [*]; done)), H', ⟨by first | omega | exact Nat.le_refl _⟩, by repeat (first | exact Drawn0.refl _ | apply Drawn0.step)⟩
      · rw [if_neg c12] at H
        have c12b0 : (t146 == 0) = false := beq_eq_false_iff_ne.mpr c12
        have c12b1 : (t146 != 0) = true := bne_iff_ne.mpr c12
        (first | rw [c12b0] | (simp only [i64_w, i32_w]; rw [c12b0]) | skip)
        have H' := Aside0.mk H
        clear H
        go_wp2
        go_meet
        case rel => exact ⟨_, (true), (by first | rfl | (simp; done) | (simp [*]; done)), H', ⟨by first | omega | exact Nat.le_refl _⟩, by repeat (first | exact Drawn0.refl _ | apply Drawn0.step)⟩
    case rest =>
      clear HC11
      try clear c1
      try clear p2
      try clear c5
      try clear c8
      try clear c12
      try clear c12b0
      try clear c12b1
      obtain ⟨kq, x44_10, rfl, HA, HJ10, ⟨mc10, rfl⟩⟩ := hcut
      cases kq with
      | zero => exact absurd HA.out (by simp [voklaw1_CivilRises.j0])
      | succ kj10 =>
        have H := HA.out
        clear HA
        simp only [voklaw1_CivilRises.j0] at H
        by_cases c13 : x44_10 = true
        · subst c13
          have H1 : ((voklaw1_first.f kj10).bind fun t149 => (some t149)) = some r := by rw [if_pos rfl] at H; exact H
          clear H
          have H := H1
          clear H1
          replace H := Option.bind_eq_some_iff.mp H
          obtain ⟨t149, A140, H⟩ := H
          replace H : (some t149) = some r := H
          have A14 := Aside0.mk A140
          clear A140
          obtain rfl := Option.some.inj H
          go_wp2_with (first | ((with_reducible refine gate_callee (f := 15) rfl ?_); refine goesL_ (some 45) rfl rfl Try.func15 (by kernel_rfl) rfl #[] rfl (by (try simp only [List.map_toArray, List.map_cons, List.map_nil]); first | done | rfl | (simp only [List.length_drop, List.length_take]; rfl)) ?_; (with_reducible refine (voklaw1_first.calls kj10  t149 _ A14.out).mono ?_); rintro e w' ⟨rfl, ⟨nd, rfl⟩⟩; refine ⟨_, rfl, ?_⟩))
          go_ret
          exact ⟨by first | rfl | (simp; done) | (simp [*]; done), by repeat (first | exact Drawn0.refl _ | apply Drawn0.step)⟩
        · replace c13 := Bool.eq_false_iff.mpr c13
          subst c13
          have H1 : (if a0 > a3 then (voklaw1_CivilRises.j1 kj10 a0 a1 a2 a3 a4 a5 t145 t147 true) else (if a0 = a3 then (if a1 > a4 then (voklaw1_CivilRises.j1 kj10 a0 a1 a2 a3 a4 a5 t145 t147 true) else (if a1 = a4 then (voklaw1_CivilRises.j1 kj10 a0 a1 a2 a3 a4 a5 t145 t147 (decide (a2 > a5))) else (voklaw1_CivilRises.j1 kj10 a0 a1 a2 a3 a4 a5 t145 t147 false))) else (voklaw1_CivilRises.j1 kj10 a0 a1 a2 a3 a4 a5 t145 t147 false))) = some r := by rw [if_neg (show ¬ (false = true) by decide)] at H; exact H
          clear H
          have H := H1
          clear H1
          have HC15 := Aside0.mk H
          clear H
          go_upto_region 7 with (fail)
          go_cut [17] (fun v17 wc => ∃ (kq : Nat) (x17_14 : Bool), v17 = .bool x17_14 ∧ Aside0 (voklaw1_CivilRises.j1 kq a0 a1 a2 a3 a4 a5 t145 t147 x17_14 = some r) ∧ Aside0 (kq ≤ kj10) ∧ Drawn0 w wc)
          case first =>
            have H := HC15.out
            clear HC15
            by_cases c16 : a0 > a3
            · rw [if_pos c16] at H
              have c16b0 : decide (a3 < a0) = true := decide_eq_true c16
              clear c16
              (first | rw [c16b0] | (simp only [i64_w, i32_w]; rw [c16b0]) | skip)
              have H' := Aside0.mk H
              clear H
              go_wp2
              go_meet
              case rel => exact ⟨_, (true), (by first | rfl | (simp; done) | (simp [*]; done)), H', ⟨by have := HJ10.out; first | omega | exact Nat.le_refl _⟩, by repeat (first | exact Drawn0.refl _ | apply Drawn0.step)⟩
            · rw [if_neg c16] at H
              have c16b0 : decide (a3 < a0) = false := decide_eq_false c16
              clear c16
              (first | rw [c16b0] | (simp only [i64_w, i32_w]; rw [c16b0]) | skip)
              by_cases c17 : a0 = a3
              · rw [if_pos c17] at H
                have c17b0 : (a0 == a3) = true := beq_iff_eq.mpr c17
                have c17b1 : (a0 != a3) = false := bne_eq_false_iff_eq.mpr c17
                clear c17
                by_cases c18 : a1 > a4
                · rw [if_pos c18] at H
                  have c18b0 : decide (a4 < a1) = true := decide_eq_true c18
                  clear c18
                  have H' := Aside0.mk H
                  clear H
                  go_wp2
                  go_meet
                  case rel => exact ⟨_, (true), (by first | rfl | (simp; done) | (simp [*]; done)), H', ⟨by have := HJ10.out; first | omega | exact Nat.le_refl _⟩, by repeat (first | exact Drawn0.refl _ | apply Drawn0.step)⟩
                · rw [if_neg c18] at H
                  have c18b0 : decide (a4 < a1) = false := decide_eq_false c18
                  clear c18
                  by_cases c19 : a1 = a4
                  · rw [if_pos c19] at H
                    have c19b0 : (a1 == a4) = true := beq_iff_eq.mpr c19
                    have c19b1 : (a1 != a4) = false := bne_eq_false_iff_eq.mpr c19
                    clear c19
                    have H' := Aside0.mk H
                    clear H
                    go_wp2
                    go_meet
                    case rel => exact ⟨_, (decide (a2 > a5)), (by first | rfl | (simp; done) | (simp [*]; done)), H', ⟨by have := HJ10.out; first | omega | exact Nat.le_refl _⟩, by repeat (first | exact Drawn0.refl _ | apply Drawn0.step)⟩
                  · rw [if_neg c19] at H
                    have c19b0 : (a1 == a4) = false := beq_eq_false_iff_ne.mpr c19
                    have c19b1 : (a1 != a4) = true := bne_iff_ne.mpr c19
                    have H' := Aside0.mk H
                    clear H
                    go_wp2
                    go_meet
                    case rel => exact ⟨_, (false), (by first | rfl | (simp; done) | (simp [*]; done)), H', ⟨by have := HJ10.out; first | omega | exact Nat.le_refl _⟩, by repeat (first | exact Drawn0.refl _ | apply Drawn0.step)⟩
              · rw [if_neg c17] at H
                have c17b0 : (a0 == a3) = false := beq_eq_false_iff_ne.mpr c17
                have c17b1 : (a0 != a3) = true := bne_iff_ne.mpr c17
                have H' := Aside0.mk H
                clear H
                go_wp2
                go_meet
                case rel => exact ⟨_, (false), (by first | rfl | (simp; done) | (simp [*]; done)), H', ⟨by have := HJ10.out; first | omega | exact Nat.le_refl _⟩, by repeat (first | exact Drawn0.refl _ | apply Drawn0.step)⟩
          case rest =>
            clear HC15
            try clear c1
            try clear p2
            try clear c5
            try clear c8
            try clear c10
            try clear c12
            try clear c12b0
            try clear c12b1
            try clear c13
            try clear c15
            try clear c16
            try clear c16b0
            try clear c17
            try clear c17b0
            try clear c17b1
            try clear c18
            try clear c18b0
            try clear c19
            try clear c19b0
            try clear c19b1
            try clear p2
            obtain ⟨kq, x17_14, rfl, HA, HJ14, ⟨mc14, rfl⟩⟩ := hcut
            cases kq with
            | zero => exact absurd HA.out (by simp [voklaw1_CivilRises.j1])
            | succ kj14 =>
              have H := HA.out
              clear HA
              simp only [voklaw1_CivilRises.j1] at H
              replace H := Option.bind_eq_some_iff.mp H
              obtain ⟨⟨t150, t151⟩, A200, H⟩ := H
              replace H : ((civil_Days.f kj14 a0 12 31).bind fun bt152 => ((civil_Leap.f a0).bind fun t154 => (if t154 = true then ((voklaw1_first.f kj14).bind fun t155 => (if t155 = true then (if ((decide (t145 > t147)) == x17_14) = true then (if a0 = a3 then (if a1 = a4 then (if ((t145 == t147) == (a2 == a5)) = true then (some ((wrap64 ((wrap64 (bt152.1 - t150)) + 1)) == 366)) else (some false)) else (if ((t145 == t147) == false) = true then (some ((wrap64 ((wrap64 (bt152.1 - t150)) + 1)) == 366)) else (some false))) else (if ((t145 == t147) == false) = true then (some ((wrap64 ((wrap64 (bt152.1 - t150)) + 1)) == 366)) else (some false))) else (some false)) else (some false))) else ((voklaw1_first.f kj14).bind fun t156 => (if t156 = true then (if ((decide (t145 > t147)) == x17_14) = true then (if a0 = a3 then (if a1 = a4 then (if ((t145 == t147) == (a2 == a5)) = true then (some ((wrap64 ((wrap64 (bt152.1 - t150)) + 1)) == 365)) else (some false)) else (if ((t145 == t147) == false) = true then (some ((wrap64 ((wrap64 (bt152.1 - t150)) + 1)) == 365)) else (some false))) else (if ((t145 == t147) == false) = true then (some ((wrap64 ((wrap64 (bt152.1 - t150)) + 1)) == 365)) else (some false))) else (some false)) else (some false)))))) = some r := H
              have A20 := Aside0.mk A200
              clear A200
              replace H := Option.bind_eq_some_iff.mp H
              obtain ⟨⟨t152, t153⟩, A210, H⟩ := H
              replace H : ((civil_Leap.f a0).bind fun t154 => (if t154 = true then ((voklaw1_first.f kj14).bind fun t155 => (if t155 = true then (if ((decide (t145 > t147)) == x17_14) = true then (if a0 = a3 then (if a1 = a4 then (if ((t145 == t147) == (a2 == a5)) = true then (some ((wrap64 ((wrap64 (t152 - t150)) + 1)) == 366)) else (some false)) else (if ((t145 == t147) == false) = true then (some ((wrap64 ((wrap64 (t152 - t150)) + 1)) == 366)) else (some false))) else (if ((t145 == t147) == false) = true then (some ((wrap64 ((wrap64 (t152 - t150)) + 1)) == 366)) else (some false))) else (some false)) else (some false))) else ((voklaw1_first.f kj14).bind fun t156 => (if t156 = true then (if ((decide (t145 > t147)) == x17_14) = true then (if a0 = a3 then (if a1 = a4 then (if ((t145 == t147) == (a2 == a5)) = true then (some ((wrap64 ((wrap64 (t152 - t150)) + 1)) == 365)) else (some false)) else (if ((t145 == t147) == false) = true then (some ((wrap64 ((wrap64 (t152 - t150)) + 1)) == 365)) else (some false))) else (if ((t145 == t147) == false) = true then (some ((wrap64 ((wrap64 (t152 - t150)) + 1)) == 365)) else (some false))) else (some false)) else (some false))))) = some r := H
              have A21 := Aside0.mk A210
              clear A210
              replace H := Option.bind_eq_some_iff.mp H
              obtain ⟨t154, A220, H⟩ := H
              replace H : (if t154 = true then ((voklaw1_first.f kj14).bind fun t155 => (if t155 = true then (if ((decide (t145 > t147)) == x17_14) = true then (if a0 = a3 then (if a1 = a4 then (if ((t145 == t147) == (a2 == a5)) = true then (some ((wrap64 ((wrap64 (t152 - t150)) + 1)) == 366)) else (some false)) else (if ((t145 == t147) == false) = true then (some ((wrap64 ((wrap64 (t152 - t150)) + 1)) == 366)) else (some false))) else (if ((t145 == t147) == false) = true then (some ((wrap64 ((wrap64 (t152 - t150)) + 1)) == 366)) else (some false))) else (some false)) else (some false))) else ((voklaw1_first.f kj14).bind fun t156 => (if t156 = true then (if ((decide (t145 > t147)) == x17_14) = true then (if a0 = a3 then (if a1 = a4 then (if ((t145 == t147) == (a2 == a5)) = true then (some ((wrap64 ((wrap64 (t152 - t150)) + 1)) == 365)) else (some false)) else (if ((t145 == t147) == false) = true then (some ((wrap64 ((wrap64 (t152 - t150)) + 1)) == 365)) else (some false))) else (if ((t145 == t147) == false) = true then (some ((wrap64 ((wrap64 (t152 - t150)) + 1)) == 365)) else (some false))) else (some false)) else (some false)))) = some r := H
              have A22 := Aside0.mk A220
              clear A220
              by_cases c23 : t154 = true
              · subst c23
                have H1 : ((voklaw1_first.f kj14).bind fun t155 => (if t155 = true then (if ((decide (t145 > t147)) == x17_14) = true then (if a0 = a3 then (if a1 = a4 then (if ((t145 == t147) == (a2 == a5)) = true then (some ((wrap64 ((wrap64 (t152 - t150)) + 1)) == 366)) else (some false)) else (if ((t145 == t147) == false) = true then (some ((wrap64 ((wrap64 (t152 - t150)) + 1)) == 366)) else (some false))) else (if ((t145 == t147) == false) = true then (some ((wrap64 ((wrap64 (t152 - t150)) + 1)) == 366)) else (some false))) else (some false)) else (some false))) = some r := by rw [if_pos rfl] at H; exact H
                clear H
                have H := H1
                clear H1
                replace H := Option.bind_eq_some_iff.mp H
                obtain ⟨t155, A240, H⟩ := H
                replace H : (if t155 = true then (if ((decide (t145 > t147)) == x17_14) = true then (if a0 = a3 then (if a1 = a4 then (if ((t145 == t147) == (a2 == a5)) = true then (some ((wrap64 ((wrap64 (t152 - t150)) + 1)) == 366)) else (some false)) else (if ((t145 == t147) == false) = true then (some ((wrap64 ((wrap64 (t152 - t150)) + 1)) == 366)) else (some false))) else (if ((t145 == t147) == false) = true then (some ((wrap64 ((wrap64 (t152 - t150)) + 1)) == 366)) else (some false))) else (some false)) else (some false)) = some r := H
                have A24 := Aside0.mk A240
                clear A240
                by_cases c25 : t155 = true
                · subst c25
                  have H1 : (if ((decide (t145 > t147)) == x17_14) = true then (if a0 = a3 then (if a1 = a4 then (if ((t145 == t147) == (a2 == a5)) = true then (some ((wrap64 ((wrap64 (t152 - t150)) + 1)) == 366)) else (some false)) else (if ((t145 == t147) == false) = true then (some ((wrap64 ((wrap64 (t152 - t150)) + 1)) == 366)) else (some false))) else (if ((t145 == t147) == false) = true then (some ((wrap64 ((wrap64 (t152 - t150)) + 1)) == 366)) else (some false))) else (some false)) = some r := by rw [if_pos rfl] at H; exact H
                  clear H
                  have H := H1
                  clear H1
                  by_cases c26 : ((decide (t145 > t147)) == x17_14) = true
                  · rw [if_pos c26] at H
                    have c26b0 : ((decide (t145 > t147)) == x17_14) = true := c26
                    (try (have c26b1 : decide ((decide (t145 > t147)) = x17_14) = true := by simpa using c26))
                    (try (have c26b2 : ((decide (t145 > t147)) == x17_14) = true := by simpa using c26))
                    clear c26
                    by_cases c27 : a0 = a3
                    · rw [if_pos c27] at H
                      have c27b0 : (a0 == a3) = true := beq_iff_eq.mpr c27
                      have c27b1 : (a0 != a3) = false := bne_eq_false_iff_eq.mpr c27
                      clear c27
                      by_cases c28 : a1 = a4
                      · rw [if_pos c28] at H
                        have c28b0 : (a1 == a4) = true := beq_iff_eq.mpr c28
                        have c28b1 : (a1 != a4) = false := bne_eq_false_iff_eq.mpr c28
                        clear c28
                        by_cases c29 : ((t145 == t147) == (a2 == a5)) = true
                        · rw [if_pos c29] at H
                          have c29b0 : ((t145 == t147) == (a2 == a5)) = true := c29
                          (try (have c29b1 : decide ((t145 == t147) = (a2 == a5)) = true := by simpa using c29))
                          (try (have c29b2 : ((t145 == t147) == (a2 == a5)) = true := by simpa using c29))
                          clear c29
                          obtain rfl := Option.some.inj H
                          go_wp2_with (first | ((with_reducible refine gate_callee (f := 16) rfl ?_); refine goesL_ (some 71) rfl rfl Try.func16 (by kernel_rfl) rfl #[.int .i64 a0, .int .i64 1, .int .i64 1] rfl (by (try simp only [List.map_toArray, List.map_cons, List.map_nil]); first | done | rfl | (simp only [List.length_drop, List.length_take]; rfl)) ?_; (with_reducible refine (civil_Days.calls kj14 a0 1 1 t150 t151 _ A20.out).mono ?_); rintro e w' ⟨rfl, ⟨nd, rfl⟩⟩; refine ⟨_, rfl, ?_⟩) | ((with_reducible refine gate_callee (f := 16) rfl ?_); refine goesL_ (some 76) rfl rfl Try.func16 (by kernel_rfl) rfl #[.int .i64 a0, .int .i64 12, .int .i64 31] rfl (by (try simp only [List.map_toArray, List.map_cons, List.map_nil]); first | done | rfl | (simp only [List.length_drop, List.length_take]; rfl)) ?_; (with_reducible refine (civil_Days.calls kj14 a0 12 31 t152 t153 _ A21.out).mono ?_); rintro e w' ⟨rfl, ⟨nd, rfl⟩⟩; refine ⟨_, rfl, ?_⟩) | ((with_reducible refine gate_callee (f := 18) rfl ?_); refine goesL_ (some 80) rfl rfl Try.func18 (by kernel_rfl) rfl #[.int .i64 a0] rfl (by (try simp only [List.map_toArray, List.map_cons, List.map_nil]); first | done | rfl | (simp only [List.length_drop, List.length_take]; rfl)) ?_; (with_reducible refine (civil_Leap.calls a0 true _ A22.out).mono ?_); rintro e w' ⟨rfl, ⟨nd, rfl⟩⟩; refine ⟨_, rfl, ?_⟩) | ((with_reducible refine gate_callee (f := 15) rfl ?_); refine goesL_ (some 81) rfl rfl Try.func15 (by kernel_rfl) rfl #[] rfl (by (try simp only [List.map_toArray, List.map_cons, List.map_nil]); first | done | rfl | (simp only [List.length_drop, List.length_take]; rfl)) ?_; (with_reducible refine (voklaw1_first.calls kj14  true _ A24.out).mono ?_); rintro e w' ⟨rfl, ⟨nd, rfl⟩⟩; refine ⟨_, rfl, ?_⟩))
                          go_ret
                          exact ⟨by first | rfl | (simp; done) | (simp [*]; done), by repeat (first | exact Drawn0.refl _ | apply Drawn0.step)⟩
                        · rw [if_neg c29] at H
                          have c29b0 : ((t145 == t147) == (a2 == a5)) = false := by simpa using c29
                          (try (have c29b1 : decide ((t145 == t147) = (a2 == a5)) = false := by simpa using c29))
                          (try (have c29b2 : ((t145 == t147) == (a2 == a5)) = false := by simpa using c29))
                          (try (have c29b3 : ¬ ((t145 == t147) = (a2 == a5)) := by simpa using c29))
                          clear c29
                          obtain rfl := Option.some.inj H
                          go_wp2_with (first | ((with_reducible refine gate_callee (f := 16) rfl ?_); refine goesL_ (some 71) rfl rfl Try.func16 (by kernel_rfl) rfl #[.int .i64 a0, .int .i64 1, .int .i64 1] rfl (by (try simp only [List.map_toArray, List.map_cons, List.map_nil]); first | done | rfl | (simp only [List.length_drop, List.length_take]; rfl)) ?_; (with_reducible refine (civil_Days.calls kj14 a0 1 1 t150 t151 _ A20.out).mono ?_); rintro e w' ⟨rfl, ⟨nd, rfl⟩⟩; refine ⟨_, rfl, ?_⟩) | ((with_reducible refine gate_callee (f := 16) rfl ?_); refine goesL_ (some 76) rfl rfl Try.func16 (by kernel_rfl) rfl #[.int .i64 a0, .int .i64 12, .int .i64 31] rfl (by (try simp only [List.map_toArray, List.map_cons, List.map_nil]); first | done | rfl | (simp only [List.length_drop, List.length_take]; rfl)) ?_; (with_reducible refine (civil_Days.calls kj14 a0 12 31 t152 t153 _ A21.out).mono ?_); rintro e w' ⟨rfl, ⟨nd, rfl⟩⟩; refine ⟨_, rfl, ?_⟩) | ((with_reducible refine gate_callee (f := 18) rfl ?_); refine goesL_ (some 80) rfl rfl Try.func18 (by kernel_rfl) rfl #[.int .i64 a0] rfl (by (try simp only [List.map_toArray, List.map_cons, List.map_nil]); first | done | rfl | (simp only [List.length_drop, List.length_take]; rfl)) ?_; (with_reducible refine (civil_Leap.calls a0 true _ A22.out).mono ?_); rintro e w' ⟨rfl, ⟨nd, rfl⟩⟩; refine ⟨_, rfl, ?_⟩) | ((with_reducible refine gate_callee (f := 15) rfl ?_); refine goesL_ (some 81) rfl rfl Try.func15 (by kernel_rfl) rfl #[] rfl (by (try simp only [List.map_toArray, List.map_cons, List.map_nil]); first | done | rfl | (simp only [List.length_drop, List.length_take]; rfl)) ?_; (with_reducible refine (voklaw1_first.calls kj14  true _ A24.out).mono ?_); rintro e w' ⟨rfl, ⟨nd, rfl⟩⟩; refine ⟨_, rfl, ?_⟩))
                          go_ret
                          exact ⟨by first | rfl | (simp; done) | (simp [*]; done), by repeat (first | exact Drawn0.refl _ | apply Drawn0.step)⟩
                      · rw [if_neg c28] at H
                        have c28b0 : (a1 == a4) = false := beq_eq_false_iff_ne.mpr c28
                        have c28b1 : (a1 != a4) = true := bne_iff_ne.mpr c28
                        by_cases c30 : ((t145 == t147) == false) = true
                        · rw [if_pos c30] at H
                          have c30b0 : ((t145 == t147) == false) = true := c30
                          (try (have c30b1 : decide ((t145 == t147) = false) = true := by simpa using c30))
                          (try (have c30b2 : ((t145 == t147) == false) = true := by simpa using c30))
                          clear c30
                          obtain rfl := Option.some.inj H
                          go_wp2_with (first | ((with_reducible refine gate_callee (f := 16) rfl ?_); refine goesL_ (some 71) rfl rfl Try.func16 (by kernel_rfl) rfl #[.int .i64 a0, .int .i64 1, .int .i64 1] rfl (by (try simp only [List.map_toArray, List.map_cons, List.map_nil]); first | done | rfl | (simp only [List.length_drop, List.length_take]; rfl)) ?_; (with_reducible refine (civil_Days.calls kj14 a0 1 1 t150 t151 _ A20.out).mono ?_); rintro e w' ⟨rfl, ⟨nd, rfl⟩⟩; refine ⟨_, rfl, ?_⟩) | ((with_reducible refine gate_callee (f := 16) rfl ?_); refine goesL_ (some 76) rfl rfl Try.func16 (by kernel_rfl) rfl #[.int .i64 a0, .int .i64 12, .int .i64 31] rfl (by (try simp only [List.map_toArray, List.map_cons, List.map_nil]); first | done | rfl | (simp only [List.length_drop, List.length_take]; rfl)) ?_; (with_reducible refine (civil_Days.calls kj14 a0 12 31 t152 t153 _ A21.out).mono ?_); rintro e w' ⟨rfl, ⟨nd, rfl⟩⟩; refine ⟨_, rfl, ?_⟩) | ((with_reducible refine gate_callee (f := 18) rfl ?_); refine goesL_ (some 80) rfl rfl Try.func18 (by kernel_rfl) rfl #[.int .i64 a0] rfl (by (try simp only [List.map_toArray, List.map_cons, List.map_nil]); first | done | rfl | (simp only [List.length_drop, List.length_take]; rfl)) ?_; (with_reducible refine (civil_Leap.calls a0 true _ A22.out).mono ?_); rintro e w' ⟨rfl, ⟨nd, rfl⟩⟩; refine ⟨_, rfl, ?_⟩) | ((with_reducible refine gate_callee (f := 15) rfl ?_); refine goesL_ (some 81) rfl rfl Try.func15 (by kernel_rfl) rfl #[] rfl (by (try simp only [List.map_toArray, List.map_cons, List.map_nil]); first | done | rfl | (simp only [List.length_drop, List.length_take]; rfl)) ?_; (with_reducible refine (voklaw1_first.calls kj14  true _ A24.out).mono ?_); rintro e w' ⟨rfl, ⟨nd, rfl⟩⟩; refine ⟨_, rfl, ?_⟩))
                          go_ret
                          exact ⟨by first | rfl | (simp; done) | (simp [*]; done), by repeat (first | exact Drawn0.refl _ | apply Drawn0.step)⟩
                        · rw [if_neg c30] at H
                          have c30b0 : ((t145 == t147) == false) = false := by simpa using c30
                          (try (have c30b1 : decide ((t145 == t147) = false) = false := by simpa using c30))
                          (try (have c30b2 : ((t145 == t147) == false) = false := by simpa using c30))
                          (try (have c30b3 : ¬ ((t145 == t147) = false) := by simpa using c30))
                          clear c30
                          obtain rfl := Option.some.inj H
                          go_wp2_with (first | ((with_reducible refine gate_callee (f := 16) rfl ?_); refine goesL_ (some 71) rfl rfl Try.func16 (by kernel_rfl) rfl #[.int .i64 a0, .int .i64 1, .int .i64 1] rfl (by (try simp only [List.map_toArray, List.map_cons, List.map_nil]); first | done | rfl | (simp only [List.length_drop, List.length_take]; rfl)) ?_; (with_reducible refine (civil_Days.calls kj14 a0 1 1 t150 t151 _ A20.out).mono ?_); rintro e w' ⟨rfl, ⟨nd, rfl⟩⟩; refine ⟨_, rfl, ?_⟩) | ((with_reducible refine gate_callee (f := 16) rfl ?_); refine goesL_ (some 76) rfl rfl Try.func16 (by kernel_rfl) rfl #[.int .i64 a0, .int .i64 12, .int .i64 31] rfl (by (try simp only [List.map_toArray, List.map_cons, List.map_nil]); first | done | rfl | (simp only [List.length_drop, List.length_take]; rfl)) ?_; (with_reducible refine (civil_Days.calls kj14 a0 12 31 t152 t153 _ A21.out).mono ?_); rintro e w' ⟨rfl, ⟨nd, rfl⟩⟩; refine ⟨_, rfl, ?_⟩) | ((with_reducible refine gate_callee (f := 18) rfl ?_); refine goesL_ (some 80) rfl rfl Try.func18 (by kernel_rfl) rfl #[.int .i64 a0] rfl (by (try simp only [List.map_toArray, List.map_cons, List.map_nil]); first | done | rfl | (simp only [List.length_drop, List.length_take]; rfl)) ?_; (with_reducible refine (civil_Leap.calls a0 true _ A22.out).mono ?_); rintro e w' ⟨rfl, ⟨nd, rfl⟩⟩; refine ⟨_, rfl, ?_⟩) | ((with_reducible refine gate_callee (f := 15) rfl ?_); refine goesL_ (some 81) rfl rfl Try.func15 (by kernel_rfl) rfl #[] rfl (by (try simp only [List.map_toArray, List.map_cons, List.map_nil]); first | done | rfl | (simp only [List.length_drop, List.length_take]; rfl)) ?_; (with_reducible refine (voklaw1_first.calls kj14  true _ A24.out).mono ?_); rintro e w' ⟨rfl, ⟨nd, rfl⟩⟩; refine ⟨_, rfl, ?_⟩))
                          go_ret
                          exact ⟨by first | rfl | (simp; done) | (simp [*]; done), by repeat (first | exact Drawn0.refl _ | apply Drawn0.step)⟩
                    · rw [if_neg c27] at H
                      have c27b0 : (a0 == a3) = false := beq_eq_false_iff_ne.mpr c27
                      have c27b1 : (a0 != a3) = true := bne_iff_ne.mpr c27
                      by_cases c31 : ((t145 == t147) == false) = true
                      · rw [if_pos c31] at H
                        have c31b0 : ((t145 == t147) == false) = true := c31
                        (try (have c31b1 : decide ((t145 == t147) = false) = true := by simpa using c31))
                        (try (have c31b2 : ((t145 == t147) == false) = true := by simpa using c31))
                        clear c31
                        obtain rfl := Option.some.inj H
                        go_wp2_with (first | ((with_reducible refine gate_callee (f := 16) rfl ?_); refine goesL_ (some 71) rfl rfl Try.func16 (by kernel_rfl) rfl #[.int .i64 a0, .int .i64 1, .int .i64 1] rfl (by (try simp only [List.map_toArray, List.map_cons, List.map_nil]); first | done | rfl | (simp only [List.length_drop, List.length_take]; rfl)) ?_; (with_reducible refine (civil_Days.calls kj14 a0 1 1 t150 t151 _ A20.out).mono ?_); rintro e w' ⟨rfl, ⟨nd, rfl⟩⟩; refine ⟨_, rfl, ?_⟩) | ((with_reducible refine gate_callee (f := 16) rfl ?_); refine goesL_ (some 76) rfl rfl Try.func16 (by kernel_rfl) rfl #[.int .i64 a0, .int .i64 12, .int .i64 31] rfl (by (try simp only [List.map_toArray, List.map_cons, List.map_nil]); first | done | rfl | (simp only [List.length_drop, List.length_take]; rfl)) ?_; (with_reducible refine (civil_Days.calls kj14 a0 12 31 t152 t153 _ A21.out).mono ?_); rintro e w' ⟨rfl, ⟨nd, rfl⟩⟩; refine ⟨_, rfl, ?_⟩) | ((with_reducible refine gate_callee (f := 18) rfl ?_); refine goesL_ (some 80) rfl rfl Try.func18 (by kernel_rfl) rfl #[.int .i64 a0] rfl (by (try simp only [List.map_toArray, List.map_cons, List.map_nil]); first | done | rfl | (simp only [List.length_drop, List.length_take]; rfl)) ?_; (with_reducible refine (civil_Leap.calls a0 true _ A22.out).mono ?_); rintro e w' ⟨rfl, ⟨nd, rfl⟩⟩; refine ⟨_, rfl, ?_⟩) | ((with_reducible refine gate_callee (f := 15) rfl ?_); refine goesL_ (some 81) rfl rfl Try.func15 (by kernel_rfl) rfl #[] rfl (by (try simp only [List.map_toArray, List.map_cons, List.map_nil]); first | done | rfl | (simp only [List.length_drop, List.length_take]; rfl)) ?_; (with_reducible refine (voklaw1_first.calls kj14  true _ A24.out).mono ?_); rintro e w' ⟨rfl, ⟨nd, rfl⟩⟩; refine ⟨_, rfl, ?_⟩))
                        go_ret
                        exact ⟨by first | rfl | (simp; done) | (simp [*]; done), by repeat (first | exact Drawn0.refl _ | apply Drawn0.step)⟩
                      · rw [if_neg c31] at H
                        have c31b0 : ((t145 == t147) == false) = false := by simpa using c31
                        (try (have c31b1 : decide ((t145 == t147) = false) = false := by simpa using c31))
                        (try (have c31b2 : ((t145 == t147) == false) = false := by simpa using c31))
                        (try (have c31b3 : ¬ ((t145 == t147) = false) := by simpa using c31))
                        clear c31
                        obtain rfl := Option.some.inj H
                        go_wp2_with (first | ((with_reducible refine gate_callee (f := 16) rfl ?_); refine goesL_ (some 71) rfl rfl Try.func16 (by kernel_rfl) rfl #[.int .i64 a0, .int .i64 1, .int .i64 1] rfl (by (try simp only [List.map_toArray, List.map_cons, List.map_nil]); first | done | rfl | (simp only [List.length_drop, List.length_take]; rfl)) ?_; (with_reducible refine (civil_Days.calls kj14 a0 1 1 t150 t151 _ A20.out).mono ?_); rintro e w' ⟨rfl, ⟨nd, rfl⟩⟩; refine ⟨_, rfl, ?_⟩) | ((with_reducible refine gate_callee (f := 16) rfl ?_); refine goesL_ (some 76) rfl rfl Try.func16 (by kernel_rfl) rfl #[.int .i64 a0, .int .i64 12, .int .i64 31] rfl (by (try simp only [List.map_toArray, List.map_cons, List.map_nil]); first | done | rfl | (simp only [List.length_drop, List.length_take]; rfl)) ?_; (with_reducible refine (civil_Days.calls kj14 a0 12 31 t152 t153 _ A21.out).mono ?_); rintro e w' ⟨rfl, ⟨nd, rfl⟩⟩; refine ⟨_, rfl, ?_⟩) | ((with_reducible refine gate_callee (f := 18) rfl ?_); refine goesL_ (some 80) rfl rfl Try.func18 (by kernel_rfl) rfl #[.int .i64 a0] rfl (by (try simp only [List.map_toArray, List.map_cons, List.map_nil]); first | done | rfl | (simp only [List.length_drop, List.length_take]; rfl)) ?_; (with_reducible refine (civil_Leap.calls a0 true _ A22.out).mono ?_); rintro e w' ⟨rfl, ⟨nd, rfl⟩⟩; refine ⟨_, rfl, ?_⟩) | ((with_reducible refine gate_callee (f := 15) rfl ?_); refine goesL_ (some 81) rfl rfl Try.func15 (by kernel_rfl) rfl #[] rfl (by (try simp only [List.map_toArray, List.map_cons, List.map_nil]); first | done | rfl | (simp only [List.length_drop, List.length_take]; rfl)) ?_; (with_reducible refine (voklaw1_first.calls kj14  true _ A24.out).mono ?_); rintro e w' ⟨rfl, ⟨nd, rfl⟩⟩; refine ⟨_, rfl, ?_⟩))
                        go_ret
                        exact ⟨by first | rfl | (simp; done) | (simp [*]; done), by repeat (first | exact Drawn0.refl _ | apply Drawn0.step)⟩
                  · rw [if_neg c26] at H
                    have c26b0 : ((decide (t145 > t147)) == x17_14) = false := by simpa using c26
                    (try (have c26b1 : decide ((decide (t145 > t147)) = x17_14) = false := by simpa using c26))
                    (try (have c26b2 : ((decide (t145 > t147)) == x17_14) = false := by simpa using c26))
                    (try (have c26b3 : ¬ ((decide (t145 > t147)) = x17_14) := by simpa using c26))
                    clear c26
                    obtain rfl := Option.some.inj H
                    go_wp2_with (first | ((with_reducible refine gate_callee (f := 16) rfl ?_); refine goesL_ (some 71) rfl rfl Try.func16 (by kernel_rfl) rfl #[.int .i64 a0, .int .i64 1, .int .i64 1] rfl (by (try simp only [List.map_toArray, List.map_cons, List.map_nil]); first | done | rfl | (simp only [List.length_drop, List.length_take]; rfl)) ?_; (with_reducible refine (civil_Days.calls kj14 a0 1 1 t150 t151 _ A20.out).mono ?_); rintro e w' ⟨rfl, ⟨nd, rfl⟩⟩; refine ⟨_, rfl, ?_⟩) | ((with_reducible refine gate_callee (f := 16) rfl ?_); refine goesL_ (some 76) rfl rfl Try.func16 (by kernel_rfl) rfl #[.int .i64 a0, .int .i64 12, .int .i64 31] rfl (by (try simp only [List.map_toArray, List.map_cons, List.map_nil]); first | done | rfl | (simp only [List.length_drop, List.length_take]; rfl)) ?_; (with_reducible refine (civil_Days.calls kj14 a0 12 31 t152 t153 _ A21.out).mono ?_); rintro e w' ⟨rfl, ⟨nd, rfl⟩⟩; refine ⟨_, rfl, ?_⟩) | ((with_reducible refine gate_callee (f := 18) rfl ?_); refine goesL_ (some 80) rfl rfl Try.func18 (by kernel_rfl) rfl #[.int .i64 a0] rfl (by (try simp only [List.map_toArray, List.map_cons, List.map_nil]); first | done | rfl | (simp only [List.length_drop, List.length_take]; rfl)) ?_; (with_reducible refine (civil_Leap.calls a0 true _ A22.out).mono ?_); rintro e w' ⟨rfl, ⟨nd, rfl⟩⟩; refine ⟨_, rfl, ?_⟩) | ((with_reducible refine gate_callee (f := 15) rfl ?_); refine goesL_ (some 81) rfl rfl Try.func15 (by kernel_rfl) rfl #[] rfl (by (try simp only [List.map_toArray, List.map_cons, List.map_nil]); first | done | rfl | (simp only [List.length_drop, List.length_take]; rfl)) ?_; (with_reducible refine (voklaw1_first.calls kj14  true _ A24.out).mono ?_); rintro e w' ⟨rfl, ⟨nd, rfl⟩⟩; refine ⟨_, rfl, ?_⟩))
                    go_ret
                    exact ⟨by first | rfl | (simp; done) | (simp [*]; done), by repeat (first | exact Drawn0.refl _ | apply Drawn0.step)⟩
                · replace c25 := Bool.eq_false_iff.mpr c25
                  subst c25
                  have H1 : (some false) = some r := by rw [if_neg (show ¬ (false = true) by decide)] at H; exact H
                  clear H
                  have H := H1
                  clear H1
                  obtain rfl := Option.some.inj H
                  go_wp2_with (first | ((with_reducible refine gate_callee (f := 16) rfl ?_); refine goesL_ (some 71) rfl rfl Try.func16 (by kernel_rfl) rfl #[.int .i64 a0, .int .i64 1, .int .i64 1] rfl (by (try simp only [List.map_toArray, List.map_cons, List.map_nil]); first | done | rfl | (simp only [List.length_drop, List.length_take]; rfl)) ?_; (with_reducible refine (civil_Days.calls kj14 a0 1 1 t150 t151 _ A20.out).mono ?_); rintro e w' ⟨rfl, ⟨nd, rfl⟩⟩; refine ⟨_, rfl, ?_⟩) | ((with_reducible refine gate_callee (f := 16) rfl ?_); refine goesL_ (some 76) rfl rfl Try.func16 (by kernel_rfl) rfl #[.int .i64 a0, .int .i64 12, .int .i64 31] rfl (by (try simp only [List.map_toArray, List.map_cons, List.map_nil]); first | done | rfl | (simp only [List.length_drop, List.length_take]; rfl)) ?_; (with_reducible refine (civil_Days.calls kj14 a0 12 31 t152 t153 _ A21.out).mono ?_); rintro e w' ⟨rfl, ⟨nd, rfl⟩⟩; refine ⟨_, rfl, ?_⟩) | ((with_reducible refine gate_callee (f := 18) rfl ?_); refine goesL_ (some 80) rfl rfl Try.func18 (by kernel_rfl) rfl #[.int .i64 a0] rfl (by (try simp only [List.map_toArray, List.map_cons, List.map_nil]); first | done | rfl | (simp only [List.length_drop, List.length_take]; rfl)) ?_; (with_reducible refine (civil_Leap.calls a0 true _ A22.out).mono ?_); rintro e w' ⟨rfl, ⟨nd, rfl⟩⟩; refine ⟨_, rfl, ?_⟩) | ((with_reducible refine gate_callee (f := 15) rfl ?_); refine goesL_ (some 81) rfl rfl Try.func15 (by kernel_rfl) rfl #[] rfl (by (try simp only [List.map_toArray, List.map_cons, List.map_nil]); first | done | rfl | (simp only [List.length_drop, List.length_take]; rfl)) ?_; (with_reducible refine (voklaw1_first.calls kj14  false _ A24.out).mono ?_); rintro e w' ⟨rfl, ⟨nd, rfl⟩⟩; refine ⟨_, rfl, ?_⟩))
                  go_ret
                  exact ⟨by first | rfl | (simp; done) | (simp [*]; done), by repeat (first | exact Drawn0.refl _ | apply Drawn0.step)⟩
              · replace c23 := Bool.eq_false_iff.mpr c23
                subst c23
                have H1 : ((voklaw1_first.f kj14).bind fun t156 => (if t156 = true then (if ((decide (t145 > t147)) == x17_14) = true then (if a0 = a3 then (if a1 = a4 then (if ((t145 == t147) == (a2 == a5)) = true then (some ((wrap64 ((wrap64 (t152 - t150)) + 1)) == 365)) else (some false)) else (if ((t145 == t147) == false) = true then (some ((wrap64 ((wrap64 (t152 - t150)) + 1)) == 365)) else (some false))) else (if ((t145 == t147) == false) = true then (some ((wrap64 ((wrap64 (t152 - t150)) + 1)) == 365)) else (some false))) else (some false)) else (some false))) = some r := by rw [if_neg (show ¬ (false = true) by decide)] at H; exact H
                clear H
                have H := H1
                clear H1
                replace H := Option.bind_eq_some_iff.mp H
                obtain ⟨t156, A320, H⟩ := H
                replace H : (if t156 = true then (if ((decide (t145 > t147)) == x17_14) = true then (if a0 = a3 then (if a1 = a4 then (if ((t145 == t147) == (a2 == a5)) = true then (some ((wrap64 ((wrap64 (t152 - t150)) + 1)) == 365)) else (some false)) else (if ((t145 == t147) == false) = true then (some ((wrap64 ((wrap64 (t152 - t150)) + 1)) == 365)) else (some false))) else (if ((t145 == t147) == false) = true then (some ((wrap64 ((wrap64 (t152 - t150)) + 1)) == 365)) else (some false))) else (some false)) else (some false)) = some r := H
                have A32 := Aside0.mk A320
                clear A320
                by_cases c33 : t156 = true
                · subst c33
                  have H1 : (if ((decide (t145 > t147)) == x17_14) = true then (if a0 = a3 then (if a1 = a4 then (if ((t145 == t147) == (a2 == a5)) = true then (some ((wrap64 ((wrap64 (t152 - t150)) + 1)) == 365)) else (some false)) else (if ((t145 == t147) == false) = true then (some ((wrap64 ((wrap64 (t152 - t150)) + 1)) == 365)) else (some false))) else (if ((t145 == t147) == false) = true then (some ((wrap64 ((wrap64 (t152 - t150)) + 1)) == 365)) else (some false))) else (some false)) = some r := by rw [if_pos rfl] at H; exact H
                  clear H
                  have H := H1
                  clear H1
                  by_cases c34 : ((decide (t145 > t147)) == x17_14) = true
                  · rw [if_pos c34] at H
                    have c34b0 : ((decide (t145 > t147)) == x17_14) = true := c34
                    (try (have c34b1 : decide ((decide (t145 > t147)) = x17_14) = true := by simpa using c34))
                    (try (have c34b2 : ((decide (t145 > t147)) == x17_14) = true := by simpa using c34))
                    clear c34
                    by_cases c35 : a0 = a3
                    · rw [if_pos c35] at H
                      have c35b0 : (a0 == a3) = true := beq_iff_eq.mpr c35
                      have c35b1 : (a0 != a3) = false := bne_eq_false_iff_eq.mpr c35
                      clear c35
                      by_cases c36 : a1 = a4
                      · rw [if_pos c36] at H
                        have c36b0 : (a1 == a4) = true := beq_iff_eq.mpr c36
                        have c36b1 : (a1 != a4) = false := bne_eq_false_iff_eq.mpr c36
                        clear c36
                        by_cases c37 : ((t145 == t147) == (a2 == a5)) = true
                        · rw [if_pos c37] at H
                          have c37b0 : ((t145 == t147) == (a2 == a5)) = true := c37
                          (try (have c37b1 : decide ((t145 == t147) = (a2 == a5)) = true := by simpa using c37))
                          (try (have c37b2 : ((t145 == t147) == (a2 == a5)) = true := by simpa using c37))
                          clear c37
                          obtain rfl := Option.some.inj H
                          go_wp2_with (first | ((with_reducible refine gate_callee (f := 16) rfl ?_); refine goesL_ (some 71) rfl rfl Try.func16 (by kernel_rfl) rfl #[.int .i64 a0, .int .i64 1, .int .i64 1] rfl (by (try simp only [List.map_toArray, List.map_cons, List.map_nil]); first | done | rfl | (simp only [List.length_drop, List.length_take]; rfl)) ?_; (with_reducible refine (civil_Days.calls kj14 a0 1 1 t150 t151 _ A20.out).mono ?_); rintro e w' ⟨rfl, ⟨nd, rfl⟩⟩; refine ⟨_, rfl, ?_⟩) | ((with_reducible refine gate_callee (f := 16) rfl ?_); refine goesL_ (some 76) rfl rfl Try.func16 (by kernel_rfl) rfl #[.int .i64 a0, .int .i64 12, .int .i64 31] rfl (by (try simp only [List.map_toArray, List.map_cons, List.map_nil]); first | done | rfl | (simp only [List.length_drop, List.length_take]; rfl)) ?_; (with_reducible refine (civil_Days.calls kj14 a0 12 31 t152 t153 _ A21.out).mono ?_); rintro e w' ⟨rfl, ⟨nd, rfl⟩⟩; refine ⟨_, rfl, ?_⟩) | ((with_reducible refine gate_callee (f := 18) rfl ?_); refine goesL_ (some 80) rfl rfl Try.func18 (by kernel_rfl) rfl #[.int .i64 a0] rfl (by (try simp only [List.map_toArray, List.map_cons, List.map_nil]); first | done | rfl | (simp only [List.length_drop, List.length_take]; rfl)) ?_; (with_reducible refine (civil_Leap.calls a0 false _ A22.out).mono ?_); rintro e w' ⟨rfl, ⟨nd, rfl⟩⟩; refine ⟨_, rfl, ?_⟩) | ((with_reducible refine gate_callee (f := 15) rfl ?_); refine goesL_ (some 81) rfl rfl Try.func15 (by kernel_rfl) rfl #[] rfl (by (try simp only [List.map_toArray, List.map_cons, List.map_nil]); first | done | rfl | (simp only [List.length_drop, List.length_take]; rfl)) ?_; (with_reducible refine (voklaw1_first.calls kj14  true _ A32.out).mono ?_); rintro e w' ⟨rfl, ⟨nd, rfl⟩⟩; refine ⟨_, rfl, ?_⟩))
                          go_ret
                          exact ⟨by first | rfl | (simp; done) | (simp [*]; done), by repeat (first | exact Drawn0.refl _ | apply Drawn0.step)⟩
                        · rw [if_neg c37] at H
                          have c37b0 : ((t145 == t147) == (a2 == a5)) = false := by simpa using c37
                          (try (have c37b1 : decide ((t145 == t147) = (a2 == a5)) = false := by simpa using c37))
                          (try (have c37b2 : ((t145 == t147) == (a2 == a5)) = false := by simpa using c37))
                          (try (have c37b3 : ¬ ((t145 == t147) = (a2 == a5)) := by simpa using c37))
                          clear c37
                          obtain rfl := Option.some.inj H
                          go_wp2_with (first | ((with_reducible refine gate_callee (f := 16) rfl ?_); refine goesL_ (some 71) rfl rfl Try.func16 (by kernel_rfl) rfl #[.int .i64 a0, .int .i64 1, .int .i64 1] rfl (by (try simp only [List.map_toArray, List.map_cons, List.map_nil]); first | done | rfl | (simp only [List.length_drop, List.length_take]; rfl)) ?_; (with_reducible refine (civil_Days.calls kj14 a0 1 1 t150 t151 _ A20.out).mono ?_); rintro e w' ⟨rfl, ⟨nd, rfl⟩⟩; refine ⟨_, rfl, ?_⟩) | ((with_reducible refine gate_callee (f := 16) rfl ?_); refine goesL_ (some 76) rfl rfl Try.func16 (by kernel_rfl) rfl #[.int .i64 a0, .int .i64 12, .int .i64 31] rfl (by (try simp only [List.map_toArray, List.map_cons, List.map_nil]); first | done | rfl | (simp only [List.length_drop, List.length_take]; rfl)) ?_; (with_reducible refine (civil_Days.calls kj14 a0 12 31 t152 t153 _ A21.out).mono ?_); rintro e w' ⟨rfl, ⟨nd, rfl⟩⟩; refine ⟨_, rfl, ?_⟩) | ((with_reducible refine gate_callee (f := 18) rfl ?_); refine goesL_ (some 80) rfl rfl Try.func18 (by kernel_rfl) rfl #[.int .i64 a0] rfl (by (try simp only [List.map_toArray, List.map_cons, List.map_nil]); first | done | rfl | (simp only [List.length_drop, List.length_take]; rfl)) ?_; (with_reducible refine (civil_Leap.calls a0 false _ A22.out).mono ?_); rintro e w' ⟨rfl, ⟨nd, rfl⟩⟩; refine ⟨_, rfl, ?_⟩) | ((with_reducible refine gate_callee (f := 15) rfl ?_); refine goesL_ (some 81) rfl rfl Try.func15 (by kernel_rfl) rfl #[] rfl (by (try simp only [List.map_toArray, List.map_cons, List.map_nil]); first | done | rfl | (simp only [List.length_drop, List.length_take]; rfl)) ?_; (with_reducible refine (voklaw1_first.calls kj14  true _ A32.out).mono ?_); rintro e w' ⟨rfl, ⟨nd, rfl⟩⟩; refine ⟨_, rfl, ?_⟩))
                          go_ret
                          exact ⟨by first | rfl | (simp; done) | (simp [*]; done), by repeat (first | exact Drawn0.refl _ | apply Drawn0.step)⟩
                      · rw [if_neg c36] at H
                        have c36b0 : (a1 == a4) = false := beq_eq_false_iff_ne.mpr c36
                        have c36b1 : (a1 != a4) = true := bne_iff_ne.mpr c36
                        by_cases c38 : ((t145 == t147) == false) = true
                        · rw [if_pos c38] at H
                          have c38b0 : ((t145 == t147) == false) = true := c38
                          (try (have c38b1 : decide ((t145 == t147) = false) = true := by simpa using c38))
                          (try (have c38b2 : ((t145 == t147) == false) = true := by simpa using c38))
                          clear c38
                          obtain rfl := Option.some.inj H
                          go_wp2_with (first | ((with_reducible refine gate_callee (f := 16) rfl ?_); refine goesL_ (some 71) rfl rfl Try.func16 (by kernel_rfl) rfl #[.int .i64 a0, .int .i64 1, .int .i64 1] rfl (by (try simp only [List.map_toArray, List.map_cons, List.map_nil]); first | done | rfl | (simp only [List.length_drop, List.length_take]; rfl)) ?_; (with_reducible refine (civil_Days.calls kj14 a0 1 1 t150 t151 _ A20.out).mono ?_); rintro e w' ⟨rfl, ⟨nd, rfl⟩⟩; refine ⟨_, rfl, ?_⟩) | ((with_reducible refine gate_callee (f := 16) rfl ?_); refine goesL_ (some 76) rfl rfl Try.func16 (by kernel_rfl) rfl #[.int .i64 a0, .int .i64 12, .int .i64 31] rfl (by (try simp only [List.map_toArray, List.map_cons, List.map_nil]); first | done | rfl | (simp only [List.length_drop, List.length_take]; rfl)) ?_; (with_reducible refine (civil_Days.calls kj14 a0 12 31 t152 t153 _ A21.out).mono ?_); rintro e w' ⟨rfl, ⟨nd, rfl⟩⟩; refine ⟨_, rfl, ?_⟩) | ((with_reducible refine gate_callee (f := 18) rfl ?_); refine goesL_ (some 80) rfl rfl Try.func18 (by kernel_rfl) rfl #[.int .i64 a0] rfl (by (try simp only [List.map_toArray, List.map_cons, List.map_nil]); first | done | rfl | (simp only [List.length_drop, List.length_take]; rfl)) ?_; (with_reducible refine (civil_Leap.calls a0 false _ A22.out).mono ?_); rintro e w' ⟨rfl, ⟨nd, rfl⟩⟩; refine ⟨_, rfl, ?_⟩) | ((with_reducible refine gate_callee (f := 15) rfl ?_); refine goesL_ (some 81) rfl rfl Try.func15 (by kernel_rfl) rfl #[] rfl (by (try simp only [List.map_toArray, List.map_cons, List.map_nil]); first | done | rfl | (simp only [List.length_drop, List.length_take]; rfl)) ?_; (with_reducible refine (voklaw1_first.calls kj14  true _ A32.out).mono ?_); rintro e w' ⟨rfl, ⟨nd, rfl⟩⟩; refine ⟨_, rfl, ?_⟩))
                          go_ret
                          exact ⟨by first | rfl | (simp; done) | (simp [*]; done), by repeat (first | exact Drawn0.refl _ | apply Drawn0.step)⟩
                        · rw [if_neg c38] at H
                          have c38b0 : ((t145 == t147) == false) = false := by simpa using c38
                          (try (have c38b1 : decide ((t145 == t147) = false) = false := by simpa using c38))
                          (try (have c38b2 : ((t145 == t147) == false) = false := by simpa using c38))
                          (try (have c38b3 : ¬ ((t145 == t147) = false) := by simpa using c38))
                          clear c38
                          obtain rfl := Option.some.inj H
                          go_wp2_with (first | ((with_reducible refine gate_callee (f := 16) rfl ?_); refine goesL_ (some 71) rfl rfl Try.func16 (by kernel_rfl) rfl #[.int .i64 a0, .int .i64 1, .int .i64 1] rfl (by (try simp only [List.map_toArray, List.map_cons, List.map_nil]); first | done | rfl | (simp only [List.length_drop, List.length_take]; rfl)) ?_; (with_reducible refine (civil_Days.calls kj14 a0 1 1 t150 t151 _ A20.out).mono ?_); rintro e w' ⟨rfl, ⟨nd, rfl⟩⟩; refine ⟨_, rfl, ?_⟩) | ((with_reducible refine gate_callee (f := 16) rfl ?_); refine goesL_ (some 76) rfl rfl Try.func16 (by kernel_rfl) rfl #[.int .i64 a0, .int .i64 12, .int .i64 31] rfl (by (try simp only [List.map_toArray, List.map_cons, List.map_nil]); first | done | rfl | (simp only [List.length_drop, List.length_take]; rfl)) ?_; (with_reducible refine (civil_Days.calls kj14 a0 12 31 t152 t153 _ A21.out).mono ?_); rintro e w' ⟨rfl, ⟨nd, rfl⟩⟩; refine ⟨_, rfl, ?_⟩) | ((with_reducible refine gate_callee (f := 18) rfl ?_); refine goesL_ (some 80) rfl rfl Try.func18 (by kernel_rfl) rfl #[.int .i64 a0] rfl (by (try simp only [List.map_toArray, List.map_cons, List.map_nil]); first | done | rfl | (simp only [List.length_drop, List.length_take]; rfl)) ?_; (with_reducible refine (civil_Leap.calls a0 false _ A22.out).mono ?_); rintro e w' ⟨rfl, ⟨nd, rfl⟩⟩; refine ⟨_, rfl, ?_⟩) | ((with_reducible refine gate_callee (f := 15) rfl ?_); refine goesL_ (some 81) rfl rfl Try.func15 (by kernel_rfl) rfl #[] rfl (by (try simp only [List.map_toArray, List.map_cons, List.map_nil]); first | done | rfl | (simp only [List.length_drop, List.length_take]; rfl)) ?_; (with_reducible refine (voklaw1_first.calls kj14  true _ A32.out).mono ?_); rintro e w' ⟨rfl, ⟨nd, rfl⟩⟩; refine ⟨_, rfl, ?_⟩))
                          go_ret
                          exact ⟨by first | rfl | (simp; done) | (simp [*]; done), by repeat (first | exact Drawn0.refl _ | apply Drawn0.step)⟩
                    · rw [if_neg c35] at H
                      have c35b0 : (a0 == a3) = false := beq_eq_false_iff_ne.mpr c35
                      have c35b1 : (a0 != a3) = true := bne_iff_ne.mpr c35
                      by_cases c39 : ((t145 == t147) == false) = true
                      · rw [if_pos c39] at H
                        have c39b0 : ((t145 == t147) == false) = true := c39
                        (try (have c39b1 : decide ((t145 == t147) = false) = true := by simpa using c39))
                        (try (have c39b2 : ((t145 == t147) == false) = true := by simpa using c39))
                        clear c39
                        obtain rfl := Option.some.inj H
                        go_wp2_with (first | ((with_reducible refine gate_callee (f := 16) rfl ?_); refine goesL_ (some 71) rfl rfl Try.func16 (by kernel_rfl) rfl #[.int .i64 a0, .int .i64 1, .int .i64 1] rfl (by (try simp only [List.map_toArray, List.map_cons, List.map_nil]); first | done | rfl | (simp only [List.length_drop, List.length_take]; rfl)) ?_; (with_reducible refine (civil_Days.calls kj14 a0 1 1 t150 t151 _ A20.out).mono ?_); rintro e w' ⟨rfl, ⟨nd, rfl⟩⟩; refine ⟨_, rfl, ?_⟩) | ((with_reducible refine gate_callee (f := 16) rfl ?_); refine goesL_ (some 76) rfl rfl Try.func16 (by kernel_rfl) rfl #[.int .i64 a0, .int .i64 12, .int .i64 31] rfl (by (try simp only [List.map_toArray, List.map_cons, List.map_nil]); first | done | rfl | (simp only [List.length_drop, List.length_take]; rfl)) ?_; (with_reducible refine (civil_Days.calls kj14 a0 12 31 t152 t153 _ A21.out).mono ?_); rintro e w' ⟨rfl, ⟨nd, rfl⟩⟩; refine ⟨_, rfl, ?_⟩) | ((with_reducible refine gate_callee (f := 18) rfl ?_); refine goesL_ (some 80) rfl rfl Try.func18 (by kernel_rfl) rfl #[.int .i64 a0] rfl (by (try simp only [List.map_toArray, List.map_cons, List.map_nil]); first | done | rfl | (simp only [List.length_drop, List.length_take]; rfl)) ?_; (with_reducible refine (civil_Leap.calls a0 false _ A22.out).mono ?_); rintro e w' ⟨rfl, ⟨nd, rfl⟩⟩; refine ⟨_, rfl, ?_⟩) | ((with_reducible refine gate_callee (f := 15) rfl ?_); refine goesL_ (some 81) rfl rfl Try.func15 (by kernel_rfl) rfl #[] rfl (by (try simp only [List.map_toArray, List.map_cons, List.map_nil]); first | done | rfl | (simp only [List.length_drop, List.length_take]; rfl)) ?_; (with_reducible refine (voklaw1_first.calls kj14  true _ A32.out).mono ?_); rintro e w' ⟨rfl, ⟨nd, rfl⟩⟩; refine ⟨_, rfl, ?_⟩))
                        go_ret
                        exact ⟨by first | rfl | (simp; done) | (simp [*]; done), by repeat (first | exact Drawn0.refl _ | apply Drawn0.step)⟩
                      · rw [if_neg c39] at H
                        have c39b0 : ((t145 == t147) == false) = false := by simpa using c39
                        (try (have c39b1 : decide ((t145 == t147) = false) = false := by simpa using c39))
                        (try (have c39b2 : ((t145 == t147) == false) = false := by simpa using c39))
                        (try (have c39b3 : ¬ ((t145 == t147) = false) := by simpa using c39))
                        clear c39
                        obtain rfl := Option.some.inj H
                        go_wp2_with (first | ((with_reducible refine gate_callee (f := 16) rfl ?_); refine goesL_ (some 71) rfl rfl Try.func16 (by kernel_rfl) rfl #[.int .i64 a0, .int .i64 1, .int .i64 1] rfl (by (try simp only [List.map_toArray, List.map_cons, List.map_nil]); first | done | rfl | (simp only [List.length_drop, List.length_take]; rfl)) ?_; (with_reducible refine (civil_Days.calls kj14 a0 1 1 t150 t151 _ A20.out).mono ?_); rintro e w' ⟨rfl, ⟨nd, rfl⟩⟩; refine ⟨_, rfl, ?_⟩) | ((with_reducible refine gate_callee (f := 16) rfl ?_); refine goesL_ (some 76) rfl rfl Try.func16 (by kernel_rfl) rfl #[.int .i64 a0, .int .i64 12, .int .i64 31] rfl (by (try simp only [List.map_toArray, List.map_cons, List.map_nil]); first | done | rfl | (simp only [List.length_drop, List.length_take]; rfl)) ?_; (with_reducible refine (civil_Days.calls kj14 a0 12 31 t152 t153 _ A21.out).mono ?_); rintro e w' ⟨rfl, ⟨nd, rfl⟩⟩; refine ⟨_, rfl, ?_⟩) | ((with_reducible refine gate_callee (f := 18) rfl ?_); refine goesL_ (some 80) rfl rfl Try.func18 (by kernel_rfl) rfl #[.int .i64 a0] rfl (by (try simp only [List.map_toArray, List.map_cons, List.map_nil]); first | done | rfl | (simp only [List.length_drop, List.length_take]; rfl)) ?_; (with_reducible refine (civil_Leap.calls a0 false _ A22.out).mono ?_); rintro e w' ⟨rfl, ⟨nd, rfl⟩⟩; refine ⟨_, rfl, ?_⟩) | ((with_reducible refine gate_callee (f := 15) rfl ?_); refine goesL_ (some 81) rfl rfl Try.func15 (by kernel_rfl) rfl #[] rfl (by (try simp only [List.map_toArray, List.map_cons, List.map_nil]); first | done | rfl | (simp only [List.length_drop, List.length_take]; rfl)) ?_; (with_reducible refine (voklaw1_first.calls kj14  true _ A32.out).mono ?_); rintro e w' ⟨rfl, ⟨nd, rfl⟩⟩; refine ⟨_, rfl, ?_⟩))
                        go_ret
                        exact ⟨by first | rfl | (simp; done) | (simp [*]; done), by repeat (first | exact Drawn0.refl _ | apply Drawn0.step)⟩
                  · rw [if_neg c34] at H
                    have c34b0 : ((decide (t145 > t147)) == x17_14) = false := by simpa using c34
                    (try (have c34b1 : decide ((decide (t145 > t147)) = x17_14) = false := by simpa using c34))
                    (try (have c34b2 : ((decide (t145 > t147)) == x17_14) = false := by simpa using c34))
                    (try (have c34b3 : ¬ ((decide (t145 > t147)) = x17_14) := by simpa using c34))
                    clear c34
                    obtain rfl := Option.some.inj H
                    go_wp2_with (first | ((with_reducible refine gate_callee (f := 16) rfl ?_); refine goesL_ (some 71) rfl rfl Try.func16 (by kernel_rfl) rfl #[.int .i64 a0, .int .i64 1, .int .i64 1] rfl (by (try simp only [List.map_toArray, List.map_cons, List.map_nil]); first | done | rfl | (simp only [List.length_drop, List.length_take]; rfl)) ?_; (with_reducible refine (civil_Days.calls kj14 a0 1 1 t150 t151 _ A20.out).mono ?_); rintro e w' ⟨rfl, ⟨nd, rfl⟩⟩; refine ⟨_, rfl, ?_⟩) | ((with_reducible refine gate_callee (f := 16) rfl ?_); refine goesL_ (some 76) rfl rfl Try.func16 (by kernel_rfl) rfl #[.int .i64 a0, .int .i64 12, .int .i64 31] rfl (by (try simp only [List.map_toArray, List.map_cons, List.map_nil]); first | done | rfl | (simp only [List.length_drop, List.length_take]; rfl)) ?_; (with_reducible refine (civil_Days.calls kj14 a0 12 31 t152 t153 _ A21.out).mono ?_); rintro e w' ⟨rfl, ⟨nd, rfl⟩⟩; refine ⟨_, rfl, ?_⟩) | ((with_reducible refine gate_callee (f := 18) rfl ?_); refine goesL_ (some 80) rfl rfl Try.func18 (by kernel_rfl) rfl #[.int .i64 a0] rfl (by (try simp only [List.map_toArray, List.map_cons, List.map_nil]); first | done | rfl | (simp only [List.length_drop, List.length_take]; rfl)) ?_; (with_reducible refine (civil_Leap.calls a0 false _ A22.out).mono ?_); rintro e w' ⟨rfl, ⟨nd, rfl⟩⟩; refine ⟨_, rfl, ?_⟩) | ((with_reducible refine gate_callee (f := 15) rfl ?_); refine goesL_ (some 81) rfl rfl Try.func15 (by kernel_rfl) rfl #[] rfl (by (try simp only [List.map_toArray, List.map_cons, List.map_nil]); first | done | rfl | (simp only [List.length_drop, List.length_take]; rfl)) ?_; (with_reducible refine (voklaw1_first.calls kj14  true _ A32.out).mono ?_); rintro e w' ⟨rfl, ⟨nd, rfl⟩⟩; refine ⟨_, rfl, ?_⟩))
                    go_ret
                    exact ⟨by first | rfl | (simp; done) | (simp [*]; done), by repeat (first | exact Drawn0.refl _ | apply Drawn0.step)⟩
                · replace c33 := Bool.eq_false_iff.mpr c33
                  subst c33
                  have H1 : (some false) = some r := by rw [if_neg (show ¬ (false = true) by decide)] at H; exact H
                  clear H
                  have H := H1
                  clear H1
                  obtain rfl := Option.some.inj H
                  go_wp2_with (first | ((with_reducible refine gate_callee (f := 16) rfl ?_); refine goesL_ (some 71) rfl rfl Try.func16 (by kernel_rfl) rfl #[.int .i64 a0, .int .i64 1, .int .i64 1] rfl (by (try simp only [List.map_toArray, List.map_cons, List.map_nil]); first | done | rfl | (simp only [List.length_drop, List.length_take]; rfl)) ?_; (with_reducible refine (civil_Days.calls kj14 a0 1 1 t150 t151 _ A20.out).mono ?_); rintro e w' ⟨rfl, ⟨nd, rfl⟩⟩; refine ⟨_, rfl, ?_⟩) | ((with_reducible refine gate_callee (f := 16) rfl ?_); refine goesL_ (some 76) rfl rfl Try.func16 (by kernel_rfl) rfl #[.int .i64 a0, .int .i64 12, .int .i64 31] rfl (by (try simp only [List.map_toArray, List.map_cons, List.map_nil]); first | done | rfl | (simp only [List.length_drop, List.length_take]; rfl)) ?_; (with_reducible refine (civil_Days.calls kj14 a0 12 31 t152 t153 _ A21.out).mono ?_); rintro e w' ⟨rfl, ⟨nd, rfl⟩⟩; refine ⟨_, rfl, ?_⟩) | ((with_reducible refine gate_callee (f := 18) rfl ?_); refine goesL_ (some 80) rfl rfl Try.func18 (by kernel_rfl) rfl #[.int .i64 a0] rfl (by (try simp only [List.map_toArray, List.map_cons, List.map_nil]); first | done | rfl | (simp only [List.length_drop, List.length_take]; rfl)) ?_; (with_reducible refine (civil_Leap.calls a0 false _ A22.out).mono ?_); rintro e w' ⟨rfl, ⟨nd, rfl⟩⟩; refine ⟨_, rfl, ?_⟩) | ((with_reducible refine gate_callee (f := 15) rfl ?_); refine goesL_ (some 81) rfl rfl Try.func15 (by kernel_rfl) rfl #[] rfl (by (try simp only [List.map_toArray, List.map_cons, List.map_nil]); first | done | rfl | (simp only [List.length_drop, List.length_take]; rfl)) ?_; (with_reducible refine (voklaw1_first.calls kj14  false _ A32.out).mono ?_); rintro e w' ⟨rfl, ⟨nd, rfl⟩⟩; refine ⟨_, rfl, ?_⟩))
                  go_ret
                  exact ⟨by first | rfl | (simp; done) | (simp [*]; done), by repeat (first | exact Drawn0.refl _ | apply Drawn0.step)⟩
  · replace c8 := Bool.eq_false_iff.mpr c8
    subst c8
    have H1 : (some false) = some r := by rw [if_neg (show ¬ (false = true) by decide)] at H; exact H
    clear H
    have H := H1
    clear H1
    obtain rfl := Option.some.inj H
    go_enter Try.func5, Try.ntmps5
    go_wp2_with (first | ((with_reducible refine gate_callee (f := 15) rfl ?_); refine goesL_ (some 23) rfl rfl Try.func15 (by kernel_rfl) rfl #[] rfl (by (try simp only [List.map_toArray, List.map_cons, List.map_nil]); first | done | rfl | (simp only [List.length_drop, List.length_take]; rfl)) ?_; (with_reducible refine (voklaw1_first.calls k  false _ A7.out).mono ?_); rintro e w' ⟨rfl, ⟨nd, rfl⟩⟩; refine ⟨_, rfl, ?_⟩))
    go_ret
    exact ⟨by first | rfl | (simp; done) | (simp [*]; done), by repeat (first | exact Drawn0.refl _ | apply Drawn0.step)⟩

/-- THE ONE PURE STATEMENT of voklaw1_CivilRises: yours. -/
def voklaw1_CivilRises.Pure : Prop := ∀ (a0 : Int) (a1 : Int) (a2 : Int) (a3 : Int) (a4 : Int) (a5 : Int), (Lit.int .i64 a0).wf = true → (Lit.int .i64 a1).wf = true → (Lit.int .i64 a2).wf = true → (Lit.int .i64 a3).wf = true → (Lit.int .i64 a4).wf = true → (Lit.int .i64 a5).wf = true → ∃ k, voklaw1_CivilRises.f k a0 a1 a2 a3 a4 a5 = some true
theorem voklaw1_CivilRises.walk (P : voklaw1_CivilRises.Pure) (a0 : Int) (a1 : Int) (a2 : Int) (a3 : Int) (a4 : Int) (a5 : Int) (w : World) (w0 : (Lit.int .i64 a0).wf = true) (w1 : (Lit.int .i64 a1).wf = true) (w2 : (Lit.int .i64 a2).wf = true) (w3 : (Lit.int .i64 a3).wf = true) (w4 : (Lit.int .i64 a4).wf = true) (w5 : (Lit.int .i64 a5).wf = true) :
    Calls Try.prog 5 #[.int .i64 a0, .int .i64 a1, .int .i64 a2, .int .i64 a3, .int .i64 a4, .int .i64 a5] w fun e w' => e = .returned (.bool true) ∧ Below w.heap.size w w' := by
  obtain ⟨k, h⟩ := P a0 a1 a2 a3 a4 a5 w0 w1 w2 w3 w4 w5
  refine (voklaw1_CivilRises.calls k a0 a1 a2 a3 a4 a5 true w h).mono ?_
  rintro e w' ⟨rfl, hd⟩
  exact ⟨rfl, hd.below⟩

end Go.Proofs.Ytpgikdohlhbgoaa.PCivilRises
