-- PRINTED BY print.sh 35421559b90ae4d0a3588c463048766b98c2df88dd9212a6774a882060cdf62d: not written by this session
import Derived.Test.YtpgikdohlhbgoaaPCivilCyclesx0
import Derived.Test.YtpgikdohlhbgoaaPCivilCyclesx1
import Derived.Test.YtpgikdohlhbgoaaPCivilCyclesx2
namespace Go.Proofs.Ytpgikdohlhbgoaa.PCivilCycles
open Go.RowKit Go.Proofs.YtpgikdohlhbgoaaW.PrintWords Go.Proofs.YtpgikdohlhbgoaaW.PrintLast Go.Proofs.YtpgikdohlhbgoaaW.PrintMore
attribute [local go_sem] max2_int min2_int max_two min_two max_three min_three max_four min_four   -- for this text's walks alone
set_option linter.unusedVariables false
set_option linter.unusedSimpArgs false

/-! ### voklaw1_CivilCycles: function 7 -/
def voklaw1_CivilCycles.j0 : Nat → Int → Int → Int → Bool → Option (Bool)
  | 0, _, _, _, _ => none
  | k + 1, x0, x7, x9, x33 => if x33 = true then ((voklaw1_first.f k).bind fun t149 => (some t149)) else ((voklaw1_first.f k).bind fun t150 => (if t150 = true then (if (wrap64 (x9 - x7)) = 146097 then ((civil_Weekday.f x7).bind fun t151 => ((civil_Weekday.f x9).bind fun t152 => (if t151 = t152 then ((civil_Leap.f x0).bind fun t153 => ((civil_Leap.f (wrap64 (x0 + 400))).bind fun t154 => (some (t153 == t154)))) else (some false)))) else (some false)) else (some false)))
def voklaw1_CivilCycles.f (k : Nat) (a0 : Int) (a1 : Int) (a2 : Int) : Option (Bool) := (voklaw1_first.f k).bind fun t144 => (if t144 = true then ((civil_Days.f k a0 a1 a2).bind fun bt145 => ((civil_Days.f k (wrap64 (a0 + 400)) a1 a2).bind fun bt147 => (if bt145.2 = 0 then (voklaw1_CivilCycles.j0 k a0 bt145.1 bt147.1 (bt147.2 != 0)) else (voklaw1_CivilCycles.j0 k a0 bt145.1 bt147.1 true)))) else (some false))
theorem voklaw1_CivilCycles.mono_l : ∀ k, (∀ y0 y1 y2 y3, LeO (voklaw1_CivilCycles.j0 k y0 y1 y2 y3) (voklaw1_CivilCycles.j0 (k + 1) y0 y1 y2 y3))
  | 0 => fun _ _ _ _ r h => by simp [voklaw1_CivilCycles.j0] at h
  | k + 1 => by
    have ih0 := voklaw1_CivilCycles.mono_l k
    · intro y0 y1 y2 y3
      unfold voklaw1_CivilCycles.j0
      repeat' first
      | (with_reducible exact ih0 _ _ _ _)
      | (with_reducible exact civil_Days.mono _ _ _ _)
      | (with_reducible exact voklaw1_first.mono _)
      | (with_reducible exact LeO.refl _)
      | (with_reducible exact LeO.none _)
      | (with_reducible refine LeO.ite ?_ ?_)
      | (with_reducible refine LeO.bind ?_ (fun _ => ?_))
      | exact ih0 _ _ _ _
      | exact civil_Days.mono _ _ _ _
      | exact voklaw1_first.mono _
      | exact LeO.none _
      | refine LeO.ite ?_ ?_
      | refine LeO.bind ?_ (fun _ => ?_)
theorem voklaw1_CivilCycles.mono : ∀ a0 a1 a2 k, LeO (voklaw1_CivilCycles.f k a0 a1 a2) (voklaw1_CivilCycles.f (k + 1) a0 a1 a2) := by
  intro a0 a1 a2 k
  have ih0 := voklaw1_CivilCycles.mono_l k
  unfold voklaw1_CivilCycles.f
  repeat' first
      | (with_reducible exact ih0 _ _ _ _)
      | (with_reducible exact civil_Days.mono _ _ _ _)
      | (with_reducible exact voklaw1_first.mono _)
      | (with_reducible exact LeO.refl _)
      | (with_reducible exact LeO.none _)
      | (with_reducible refine LeO.ite ?_ ?_)
      | (with_reducible refine LeO.bind ?_ (fun _ => ?_))
      | exact ih0 _ _ _ _
      | exact civil_Days.mono _ _ _ _
      | exact voklaw1_first.mono _
      | exact LeO.none _
      | refine LeO.ite ?_ ?_
      | refine LeO.bind ?_ (fun _ => ?_)
set_option maxHeartbeats 8000000 in
set_option maxRecDepth 100000 in
theorem voklaw1_CivilCycles.calls (k : Nat) (a0 : Int) (a1 : Int) (a2 : Int) (r : Bool) (w : World) (h : voklaw1_CivilCycles.f k a0 a1 a2 = some r) :
    Calls Try.prog 7 #[.int .i64 a0, .int .i64 a1, .int .i64 a2] w fun e w' => e = .returned (.bool r) ∧ Drawn0 w w' := by
  have H : ((voklaw1_first.f k).bind fun t144 => (if t144 = true then ((civil_Days.f k a0 a1 a2).bind fun bt145 => ((civil_Days.f k (wrap64 (a0 + 400)) a1 a2).bind fun bt147 => (if bt145.2 = 0 then (voklaw1_CivilCycles.j0 k a0 bt145.1 bt147.1 (bt147.2 != 0)) else (voklaw1_CivilCycles.j0 k a0 bt145.1 bt147.1 true)))) else (some false))) = some r := h
  clear h
  replace H := Option.bind_eq_some_iff.mp H
  obtain ⟨t144, A40, H⟩ := H
  replace H : (if t144 = true then ((civil_Days.f k a0 a1 a2).bind fun bt145 => ((civil_Days.f k (wrap64 (a0 + 400)) a1 a2).bind fun bt147 => (if bt145.2 = 0 then (voklaw1_CivilCycles.j0 k a0 bt145.1 bt147.1 (bt147.2 != 0)) else (voklaw1_CivilCycles.j0 k a0 bt145.1 bt147.1 true)))) else (some false)) = some r := H
  have A4 := Aside0.mk A40
  clear A40
  by_cases c5 : t144 = true
  · subst c5
    have H1 : ((civil_Days.f k a0 a1 a2).bind fun bt145 => ((civil_Days.f k (wrap64 (a0 + 400)) a1 a2).bind fun bt147 => (if bt145.2 = 0 then (voklaw1_CivilCycles.j0 k a0 bt145.1 bt147.1 (bt147.2 != 0)) else (voklaw1_CivilCycles.j0 k a0 bt145.1 bt147.1 true)))) = some r := by rw [if_pos rfl] at H; exact H
    clear H
    have H := H1
    clear H1
    replace H := Option.bind_eq_some_iff.mp H
    obtain ⟨⟨t145, t146⟩, A60, H⟩ := H
    replace H : ((civil_Days.f k (wrap64 (a0 + 400)) a1 a2).bind fun bt147 => (if t146 = 0 then (voklaw1_CivilCycles.j0 k a0 t145 bt147.1 (bt147.2 != 0)) else (voklaw1_CivilCycles.j0 k a0 t145 bt147.1 true))) = some r := H
    have A6 := Aside0.mk A60
    clear A60
    replace H := Option.bind_eq_some_iff.mp H
    obtain ⟨⟨t147, t148⟩, A70, H⟩ := H
    replace H : (if t146 = 0 then (voklaw1_CivilCycles.j0 k a0 t145 t147 (t148 != 0)) else (voklaw1_CivilCycles.j0 k a0 t145 t147 true)) = some r := H
    have A7 := Aside0.mk A70
    clear A70
    have HC8 := Aside0.mk H
    clear H
    go_enter Try.func7, Try.ntmps7
    go_upto_region 5 with (first | ((with_reducible refine gate_callee (f := 15) rfl ?_); refine goesL_ (some 11) rfl rfl Try.func15 (by kernel_rfl) rfl #[] rfl (by (try simp only [List.map_toArray, List.map_cons, List.map_nil]); first | done | rfl | (simp only [List.length_drop, List.length_take]; rfl)) ?_; (with_reducible refine (voklaw1_first.calls k  true _ A4.out).mono ?_); rintro e w' ⟨rfl, ⟨nd, rfl⟩⟩; refine ⟨_, rfl, ?_⟩) | ((with_reducible refine gate_callee (f := 16) rfl ?_); refine goesL_ (some 17) rfl rfl Try.func16 (by kernel_rfl) rfl #[.int .i64 a0, .int .i64 a1, .int .i64 a2] rfl (by (try simp only [List.map_toArray, List.map_cons, List.map_nil]); first | done | rfl | (simp only [List.length_drop, List.length_take]; rfl)) ?_; (with_reducible refine (civil_Days.calls k a0 a1 a2 t145 t146 _ A6.out).mono ?_); rintro e w' ⟨rfl, ⟨nd, rfl⟩⟩; refine ⟨_, rfl, ?_⟩) | ((with_reducible refine gate_callee (f := 16) rfl ?_); refine goesL_ (some 25) rfl rfl Try.func16 (by kernel_rfl) rfl #[.int .i64 (wrap64 (a0 + 400)), .int .i64 a1, .int .i64 a2] rfl (by (try simp only [List.map_toArray, List.map_cons, List.map_nil]); first | done | rfl | (simp only [List.length_drop, List.length_take]; rfl)) ?_; (with_reducible refine (civil_Days.calls k (wrap64 (a0 + 400)) a1 a2 t147 t148 _ A7.out).mono ?_); rintro e w' ⟨rfl, ⟨nd, rfl⟩⟩; refine ⟨_, rfl, ?_⟩))
    (try simp only [Act.put, List.setIfInBounds_toArray, List.set_cons_zero, List.set_cons_succ])
    go_cut [33] (fun v33 wc => ∃ (kq : Nat) (x33_7 : Bool), v33 = .bool x33_7 ∧ Aside0 (voklaw1_CivilCycles.j0 kq a0 t145 t147 x33_7 = some r) ∧ Aside0 (kq ≤ k) ∧ Drawn0 w wc)
    case first =>
      have H := HC8.out
      clear HC8
      by_cases c9 : t146 = 0
      · rw [if_pos c9] at H
        have c9b0 : (t146 == 0) = true := beq_iff_eq.mpr c9
        have c9b1 : (t146 != 0) = false := bne_eq_false_iff_eq.mpr c9
        clear c9
        (first | rw [c9b0] | (simp only [i64_w, i32_w]; rw [c9b0]) | skip)
        have H' := Aside0.mk H
        clear H
        go_wp2
        go_meet
        case rel => exact ⟨_, ((t148 != 0)), (by first | rfl | (simp; done) | (simp [*]; done)), H', ⟨by first | omega | exact Nat.le_refl _⟩, by repeat (first | exact Drawn0.refl _ | apply Drawn0.step)⟩
      · rw [if_neg c9] at H
        have c9b0 : (t146 == 0) = false := beq_eq_false_iff_ne.mpr c9
        have c9b1 : (t146 != 0) = true := bne_iff_ne.mpr c9
        (first | rw [c9b0] | (simp only [i64_w, i32_w]; rw [c9b0]) | skip)
        have H' := Aside0.mk H
        clear H
        go_wp2
        go_meet
        case rel => exact ⟨_, (true), (by first | rfl | (simp; done) | (simp [*]; done)), H', ⟨by first | omega | exact Nat.le_refl _⟩, by repeat (first | exact Drawn0.refl _ | apply Drawn0.step)⟩
    case rest =>
      clear HC8
      try clear c1
      try clear p2
      try clear c5
      try clear p6
      try clear c7
      try clear c9
      try clear c9b0
      try clear c9b1
      obtain ⟨kq, x33_7, rfl, HA, HJ7, ⟨mc7, rfl⟩⟩ := hcut
      cases kq with
      | zero => exact absurd HA.out (by simp [voklaw1_CivilCycles.j0])
      | succ kj7 =>
        have H := HA.out
        clear HA
        simp only [voklaw1_CivilCycles.j0] at H
        by_cases c10 : x33_7 = true
        · subst c10
          have H1 : ((voklaw1_first.f kj7).bind fun t149 => (some t149)) = some r := by rw [if_pos rfl] at H; exact H
          clear H
          have H := H1
          clear H1
          replace H := Option.bind_eq_some_iff.mp H
          obtain ⟨t149, A110, H⟩ := H
          replace H : (some t149) = some r := H
          have A11 := Aside0.mk A110
          clear A110
          obtain rfl := Option.some.inj H
          go_wp2_with (first | ((with_reducible refine gate_callee (f := 15) rfl ?_); refine goesL_ (some 34) rfl rfl Try.func15 (by kernel_rfl) rfl #[] rfl (by (try simp only [List.map_toArray, List.map_cons, List.map_nil]); first | done | rfl | (simp only [List.length_drop, List.length_take]; rfl)) ?_; (with_reducible refine (voklaw1_first.calls kj7  t149 _ A11.out).mono ?_); rintro e w' ⟨rfl, ⟨nd, rfl⟩⟩; refine ⟨_, rfl, ?_⟩))
          go_ret
          exact ⟨by first | rfl | (simp; done) | (simp [*]; done), by repeat (first | exact Drawn0.refl _ | apply Drawn0.step)⟩
        · replace c10 := Bool.eq_false_iff.mpr c10
          subst c10
          have H1 : ((voklaw1_first.f kj7).bind fun t150 => (if t150 = true then (if (wrap64 (t147 - t145)) = 146097 then ((civil_Weekday.f t145).bind fun t151 => ((civil_Weekday.f t147).bind fun t152 => (if t151 = t152 then ((civil_Leap.f a0).bind fun t153 => ((civil_Leap.f (wrap64 (a0 + 400))).bind fun t154 => (some (t153 == t154)))) else (some false)))) else (some false)) else (some false))) = some r := by rw [if_neg (show ¬ (false = true) by decide)] at H; exact H
          clear H
          have H := H1
          clear H1
          replace H := Option.bind_eq_some_iff.mp H
          obtain ⟨t150, A120, H⟩ := H
          replace H : (if t150 = true then (if (wrap64 (t147 - t145)) = 146097 then ((civil_Weekday.f t145).bind fun t151 => ((civil_Weekday.f t147).bind fun t152 => (if t151 = t152 then ((civil_Leap.f a0).bind fun t153 => ((civil_Leap.f (wrap64 (a0 + 400))).bind fun t154 => (some (t153 == t154)))) else (some false)))) else (some false)) else (some false)) = some r := H
          have A12 := Aside0.mk A120
          clear A120
          by_cases c13 : t150 = true
          · subst c13
            have H1 : (if (wrap64 (t147 - t145)) = 146097 then ((civil_Weekday.f t145).bind fun t151 => ((civil_Weekday.f t147).bind fun t152 => (if t151 = t152 then ((civil_Leap.f a0).bind fun t153 => ((civil_Leap.f (wrap64 (a0 + 400))).bind fun t154 => (some (t153 == t154)))) else (some false)))) else (some false)) = some r := by rw [if_pos rfl] at H; exact H
            clear H
            have H := H1
            clear H1
            by_cases c14 : (wrap64 (t147 - t145)) = 146097
            · rw [if_pos c14] at H
              have c14b0 : ((wrap64 (t147 - t145)) == 146097) = true := beq_iff_eq.mpr c14
              have c14b1 : ((wrap64 (t147 - t145)) != 146097) = false := bne_eq_false_iff_eq.mpr c14
              clear c14
              replace H := Option.bind_eq_some_iff.mp H
              obtain ⟨t151, A150, H⟩ := H
              replace H : ((civil_Weekday.f t147).bind fun t152 => (if t151 = t152 then ((civil_Leap.f a0).bind fun t153 => ((civil_Leap.f (wrap64 (a0 + 400))).bind fun t154 => (some (t153 == t154)))) else (some false))) = some r := H
              have A15 := Aside0.mk A150
              clear A150
              replace H := Option.bind_eq_some_iff.mp H
              obtain ⟨t152, A160, H⟩ := H
              replace H : (if t151 = t152 then ((civil_Leap.f a0).bind fun t153 => ((civil_Leap.f (wrap64 (a0 + 400))).bind fun t154 => (some (t153 == t154)))) else (some false)) = some r := H
              have A16 := Aside0.mk A160
              clear A160
              by_cases c17 : t151 = t152
              · rw [if_pos c17] at H
                have c17b0 : (t151 == t152) = true := beq_iff_eq.mpr c17
                have c17b1 : (t151 != t152) = false := bne_eq_false_iff_eq.mpr c17
                clear c17
                replace H := Option.bind_eq_some_iff.mp H
                obtain ⟨t153, A180, H⟩ := H
                replace H : ((civil_Leap.f (wrap64 (a0 + 400))).bind fun t154 => (some (t153 == t154))) = some r := H
                have A18 := Aside0.mk A180
                clear A180
                replace H := Option.bind_eq_some_iff.mp H
                obtain ⟨t154, A190, H⟩ := H
                replace H : (some (t153 == t154)) = some r := H
                have A19 := Aside0.mk A190
                clear A190
                obtain rfl := Option.some.inj H
                go_wp2_with (first | ((with_reducible refine gate_callee (f := 15) rfl ?_); refine goesL_ (some 35) rfl rfl Try.func15 (by kernel_rfl) rfl #[] rfl (by (try simp only [List.map_toArray, List.map_cons, List.map_nil]); first | done | rfl | (simp only [List.length_drop, List.length_take]; rfl)) ?_; (with_reducible refine (voklaw1_first.calls kj7  true _ A12.out).mono ?_); rintro e w' ⟨rfl, ⟨nd, rfl⟩⟩; refine ⟨_, rfl, ?_⟩) | (go_at_call 26; (with_reducible refine (civil_Weekday.calls t145 t151 _ A15.out).mono ?_); rintro e w' ⟨rfl, ⟨nd, rfl⟩⟩) | (go_at_call 26; (with_reducible refine (civil_Weekday.calls t147 t152 _ A16.out).mono ?_); rintro e w' ⟨rfl, ⟨nd, rfl⟩⟩) | (go_at_call 18; (with_reducible refine (civil_Leap.calls a0 t153 _ A18.out).mono ?_); rintro e w' ⟨rfl, ⟨nd, rfl⟩⟩) | (go_at_call 18; (with_reducible refine (civil_Leap.calls (wrap64 (a0 + 400)) t154 _ A19.out).mono ?_); rintro e w' ⟨rfl, ⟨nd, rfl⟩⟩))
                go_ret
                exact ⟨by first | rfl | (simp; done) | (simp [*]; done), by repeat (first | exact Drawn0.refl _ | apply Drawn0.step)⟩
              · rw [if_neg c17] at H
                have c17b0 : (t151 == t152) = false := beq_eq_false_iff_ne.mpr c17
                have c17b1 : (t151 != t152) = true := bne_iff_ne.mpr c17
                obtain rfl := Option.some.inj H
                go_wp2_with (first | ((with_reducible refine gate_callee (f := 15) rfl ?_); refine goesL_ (some 35) rfl rfl Try.func15 (by kernel_rfl) rfl #[] rfl (by (try simp only [List.map_toArray, List.map_cons, List.map_nil]); first | done | rfl | (simp only [List.length_drop, List.length_take]; rfl)) ?_; (with_reducible refine (voklaw1_first.calls kj7  true _ A12.out).mono ?_); rintro e w' ⟨rfl, ⟨nd, rfl⟩⟩; refine ⟨_, rfl, ?_⟩) | (go_at_call 26; (with_reducible refine (civil_Weekday.calls t145 t151 _ A15.out).mono ?_); rintro e w' ⟨rfl, ⟨nd, rfl⟩⟩) | (go_at_call 26; (with_reducible refine (civil_Weekday.calls t147 t152 _ A16.out).mono ?_); rintro e w' ⟨rfl, ⟨nd, rfl⟩⟩))
                go_ret
                exact ⟨by first | rfl | (simp; done) | (simp [*]; done), by repeat (first | exact Drawn0.refl _ | apply Drawn0.step)⟩
            · rw [if_neg c14] at H
              have c14b0 : ((wrap64 (t147 - t145)) == 146097) = false := beq_eq_false_iff_ne.mpr c14
              have c14b1 : ((wrap64 (t147 - t145)) != 146097) = true := bne_iff_ne.mpr c14
              obtain rfl := Option.some.inj H
              go_wp2_with (first | ((with_reducible refine gate_callee (f := 15) rfl ?_); refine goesL_ (some 35) rfl rfl Try.func15 (by kernel_rfl) rfl #[] rfl (by (try simp only [List.map_toArray, List.map_cons, List.map_nil]); first | done | rfl | (simp only [List.length_drop, List.length_take]; rfl)) ?_; (with_reducible refine (voklaw1_first.calls kj7  true _ A12.out).mono ?_); rintro e w' ⟨rfl, ⟨nd, rfl⟩⟩; refine ⟨_, rfl, ?_⟩))
              go_ret
              exact ⟨by first | rfl | (simp; done) | (simp [*]; done), by repeat (first | exact Drawn0.refl _ | apply Drawn0.step)⟩
          · replace c13 := Bool.eq_false_iff.mpr c13
            subst c13
            have H1 : (some false) = some r := by rw [if_neg (show ¬ (false = true) by decide)] at H; exact H
            clear H
            have H := H1
            clear H1
            obtain rfl := Option.some.inj H
            go_wp2_with (first | ((with_reducible refine gate_callee (f := 15) rfl ?_); refine goesL_ (some 35) rfl rfl Try.func15 (by kernel_rfl) rfl #[] rfl (by (try simp only [List.map_toArray, List.map_cons, List.map_nil]); first | done | rfl | (simp only [List.length_drop, List.length_take]; rfl)) ?_; (with_reducible refine (voklaw1_first.calls kj7  false _ A12.out).mono ?_); rintro e w' ⟨rfl, ⟨nd, rfl⟩⟩; refine ⟨_, rfl, ?_⟩))
            go_ret
            exact ⟨by first | rfl | (simp; done) | (simp [*]; done), by repeat (first | exact Drawn0.refl _ | apply Drawn0.step)⟩
  · replace c5 := Bool.eq_false_iff.mpr c5
    subst c5
    have H1 : (some false) = some r := by rw [if_neg (show ¬ (false = true) by decide)] at H; exact H
    clear H
    have H := H1
    clear H1
    obtain rfl := Option.some.inj H
    go_enter Try.func7, Try.ntmps7
    go_wp2_with (first | ((with_reducible refine gate_callee (f := 15) rfl ?_); refine goesL_ (some 11) rfl rfl Try.func15 (by kernel_rfl) rfl #[] rfl (by (try simp only [List.map_toArray, List.map_cons, List.map_nil]); first | done | rfl | (simp only [List.length_drop, List.length_take]; rfl)) ?_; (with_reducible refine (voklaw1_first.calls k  false _ A4.out).mono ?_); rintro e w' ⟨rfl, ⟨nd, rfl⟩⟩; refine ⟨_, rfl, ?_⟩))
    go_ret
    exact ⟨by first | rfl | (simp; done) | (simp [*]; done), by repeat (first | exact Drawn0.refl _ | apply Drawn0.step)⟩

/-- THE ONE PURE STATEMENT of voklaw1_CivilCycles: yours. -/
def voklaw1_CivilCycles.Pure : Prop := ∀ (a0 : Int) (a1 : Int) (a2 : Int), (Lit.int .i64 a0).wf = true → (Lit.int .i64 a1).wf = true → (Lit.int .i64 a2).wf = true → ∃ k, voklaw1_CivilCycles.f k a0 a1 a2 = some true
theorem voklaw1_CivilCycles.walk (P : voklaw1_CivilCycles.Pure) (a0 : Int) (a1 : Int) (a2 : Int) (w : World) (w0 : (Lit.int .i64 a0).wf = true) (w1 : (Lit.int .i64 a1).wf = true) (w2 : (Lit.int .i64 a2).wf = true) :
    Calls Try.prog 7 #[.int .i64 a0, .int .i64 a1, .int .i64 a2] w fun e w' => e = .returned (.bool true) ∧ Below w.heap.size w w' := by
  obtain ⟨k, h⟩ := P a0 a1 a2 w0 w1 w2
  refine (voklaw1_CivilCycles.calls k a0 a1 a2 true w h).mono ?_
  rintro e w' ⟨rfl, hd⟩
  exact ⟨rfl, hd.below⟩

end Go.Proofs.Ytpgikdohlhbgoaa.PCivilCycles
