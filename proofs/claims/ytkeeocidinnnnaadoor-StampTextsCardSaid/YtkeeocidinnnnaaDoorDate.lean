/- civil.Date, Nth; stamp.Make, Day, May: walked. -/
import Derived.Test.YtkeeocidinnnnaaDoorCal
namespace Go.Proofs.YtkeeocidinnnnaaDoor
open Go.RowKit
set_option linter.unusedVariables false
theorem results_four {fn : Func} {t u v x : Tmp} (h : fn.results = #[.tmp t, .tmp u, .tmp v, .tmp x]) (tmps : Array Value) (P : Program) (w : World) :
    (results fn tmps).run P w = .ok (.tuple #[tmps.getD t undef, tmps.getD u undef, tmps.getD v undef, tmps.getD x undef]) w := by
  simp [results, h]
theorem fst_bd (y : Int) (h1 : -300 ≤ y) (h2 : y ≤ 20000) : -1000000 ≤ Civ.fst y ∧ Civ.fst y ≤ 8000000 := by unfold Civ.fst; omega
theorem day_any (n : Int) (w : World) : Calls Tryd.prog 44 #[.int .i64 n] w fun e w' => e = .returned (.bool (decide (-719162 ≤ n ∧ n ≤ 2932896))) ∧ w = w' := by
  by_cases h1 : -719162 ≤ n
  · by_cases h2 : n ≤ 2932896
    · rw [decide_eq_true ⟨h1, h2⟩]
      go_enter Tryd.func44, Tryd.ntmps44
      go_wp2_with fail
      go_ret
      exact ⟨rfl, rfl⟩
    · rw [decide_eq_false (fun h => h2 h.2)]
      have e : decide (n ≤ 2932896) = false := by simpa using h2
      go_enter Tryd.func44, Tryd.ntmps44
      go_wp2_with fail
      go_ret
      exact ⟨rfl, rfl⟩
  · rw [decide_eq_false (fun h => h1 h.1)]
    go_enter Tryd.func44, Tryd.ntmps44
    go_wp2_with fail
    go_ret
    exact ⟨rfl, rfl⟩
set_option maxRecDepth 100000 in
set_option maxHeartbeats 4000000 in
theorem date_any (n : Int) (h1 : -719162 ≤ n) (h2 : n ≤ 2932896) (w : World) :
    Calls Tryd.prog 32 #[.int .i64 n] w fun e w' => ∃ a b c, Civ.valid a b c ∧ Civ.num a b c = n ∧ e = .returned (.tuple #[.int .i64 a, .int .i64 b, .int .i64 c, .int .i64 0]) ∧ w = w' := by
  have hD := day_any n
  rw [decide_eq_true ⟨h1, h2⟩] at hD
  have e1 : Civ.fst 1 = -719162 := by decide
  have e2 : Civ.fst 10000 = 2932897 := by decide
  have E1 := Lib.hid e1
  have E2 := Lib.hid e2
  clear e1 e2
  go_enter Tryd.func32, Tryd.ntmps32
  go_wp2_with fail
  refine (hD _).mono ?_
  rintro e w1 ⟨rfl, rfl⟩
  go_wp2_with fail
  go_loopw [7] (fun yv wr => ∃ y : Int, yv = .int .i64 y ∧ 1 ≤ y ∧ y ≤ 10000 ∧ wr = w) (fun yv _ => (10000 - intOf yv).toNat)
  case atStart => exact ⟨_, rfl, by omega, by omega, rfl⟩
  case round =>
    obtain ⟨y, rfl, hy1, hy2, rfl⟩ := hrel
    have hN := fst_any (y + 1) (by omega) (by omega)
    have hb := fst_bd (y + 1) (by omega) (by omega)
    by_cases hc : y < 9999 ∧ Civ.fst (y + 1) ≤ n
    · obtain ⟨hc1, hc2⟩ := hc
      generalize hfe : Civ.fst (y + 1) = f at *
      clear hfe
      go_wp2_with fail
      refine (hN _).mono ?_
      rintro e w1 ⟨rfl, rfl⟩
      go_wp2_with fail
      go_roundw
      case rel => exact ⟨y + 1, rfl, by omega, by omega, trivial⟩
      case measure => simp [intOf]; omega
    · have hex : n < Civ.fst (y + 1) := by
        by_cases h : y < 9999
        · omega
        · have := Civ.fst_mono (show (10000 : Int) ≤ y + 1 by omega)
          have := E2.out
          omega
      have HEX := Lib.hid hex
      clear hex
      by_cases hc1 : y < 9999
      · have hc2 : n < Civ.fst (y + 1) := HEX.out
        generalize hfe : Civ.fst (y + 1) = f at hN hb hc2
        clear hfe hc
        go_wp2_with fail
        refine (hN _).mono ?_
        rintro e w1 ⟨rfl, rfl⟩
        go_wp2_with fail
        clear hN hb hc2
        go_loopw [7] (fun yv wz => ∃ y : Int, yv = .int .i64 y ∧ 0 ≤ y ∧ y ≤ 10000 ∧ n < Civ.fst (y + 1) ∧ wz = wr) (fun yv _ => (intOf yv).toNat)
        case atStart => exact ⟨y, rfl, by omega, by omega, HEX.out, rfl⟩
        case round =>
          clear HEX hy1 hy2
          obtain ⟨y, rfl, hy1, hy2, hex, rfl⟩ := hrel
          have hN := fst_any y (by omega) (by omega)
          have hb := fst_bd y (by omega) (by omega)
          by_cases hgt : n < Civ.fst y
          · have hy3 : 1 ≤ y := by
              by_cases h : y < 1
              · have := Civ.fst_mono (show y + 1 ≤ 1 by omega)
                have := E1.out
                omega
              · omega
            have HG := Lib.hid hgt
            clear hex
            generalize hfe : Civ.fst y = f at hN hb hgt
            have HFE := Lib.hid hfe
            clear hfe
            go_wp2_with fail
            refine (hN _).mono ?_
            rintro e w1 ⟨rfl, rfl⟩
            go_wp2_with fail
            go_roundw
            case rel => exact ⟨y - 1, rfl, by omega, by omega, by rw [show y - 1 + 1 = y by omega]; exact HG.out, trivial⟩
            case measure => simp [intOf]; omega
          · have hs := Civ.fst_succ y
            have h13 := Civ.cum13 y
            have c1 : Civ.cum y 1 = 0 := by simp [Civ.cum]
            have hlp := Civ.lp01 y
            have hy9 : y ≤ 9999 := by
              by_cases h : 9999 < y
              · have := Civ.fst_mono (show (10000 : Int) ≤ y by omega)
                have := E2.out
                omega
              · omega
            have hy3 : 1 ≤ y := by
              by_cases h : y < 1
              · have := Civ.fst_mono (show y + 1 ≤ 1 by omega)
                have := E1.out
                omega
              · omega
            generalize hfe : Civ.fst y = f at hN hb hgt hs
            have HS := Lib.hid (show n - f < Civ.cum y 13 - Civ.cum y 1 by omega)
            have HFE := Lib.hid hfe
            clear hfe hs h13 c1 hlp hex
            go_wp2_with fail
            refine (hN _).mono ?_
            rintro e w1 ⟨rfl, rfl⟩
            go_wp2_with fail
            refine (hN _).mono ?_
            rintro e w1 ⟨rfl, rfl⟩
            go_wp2_with fail
            go_loopw [8, 9] (fun lv mv wz => ∃ left m : Int, lv = .int .i64 left ∧ mv = .int .i64 m ∧ 1 ≤ m ∧ m ≤ 12 ∧ 0 ≤ left ∧ left < Civ.cum y 13 - Civ.cum y m ∧ Civ.cum y m + left = n - f ∧ wz = wr) (fun _ mv _ => (13 - intOf mv).toNat)
            case atStart => exact ⟨n - f, 1, rfl, rfl, by omega, by omega, by omega, HS.out, by simp [Civ.cum], rfl⟩
            case round =>
              clear HS hN
              obtain ⟨left, m, rfl, rfl, hm1, hm2, hl0, hl1, hl2, rfl⟩ := hrel
              have hL := length_any y m
              have hl := Civ.len_pos y m hm1 hm2
              have hc := Civ.cum_succ y m hm1 hm2
              have hbc := Civ.cum_bd y m hm1 (by omega)
              have hlp := Civ.lp01 y
              have h13 := Civ.cum13 y
              by_cases hge : Civ.len y m ≤ left
              · have hm : m + 1 ≤ 12 := by
                  rcases Int.lt_or_eq_of_le hm2 with h | h
                  · omega
                  · subst h; rw [show (12 : Int) + 1 = 13 from rfl] at hc; omega
                have HA := Lib.hid (show left - Civ.len y m < Civ.cum y 13 - Civ.cum y (m + 1) by omega)
                have HB := Lib.hid (show Civ.cum y (m + 1) + (left - Civ.len y m) = n - f by omega)
                have hlb : left ≤ 400 := by omega
                clear hc hbc h13 hl1 hl2
                generalize Civ.len y m = ln at *
                go_wp2_with fail
                refine (hL _).mono ?_
                rintro e w1 ⟨rfl, rfl⟩
                go_wp2_with fail
                refine (hL _).mono ?_
                rintro e w1 ⟨rfl, rfl⟩
                go_wp2_with fail
                go_roundw
                case rel => exact ⟨left - ln, m + 1, rfl, rfl, by omega, hm, by omega, HA.out, HB.out, trivial⟩
                case measure => simp [intOf]; omega
              · have hlb : left ≤ 400 := by omega
                have HV := Lib.hid (show Civ.valid y m (left + 1) ∧ Civ.num y m (left + 1) = n from ⟨⟨hy3, hy9, by omega, by omega⟩, by unfold Civ.num; have := HFE.out; omega⟩)
                clear hc hbc h13 hl1 hl2 hl
                generalize Civ.len y m = ln at *
                go_wp2_with fail
                refine (hL _).mono ?_
                rintro e w1 ⟨rfl, rfl⟩
                go_wp2_with fail
                (try simp only [Exit.inBlock, Exit.then]); refine bodyPost_ret (results_four rfl _ _ _) rfl ?_
                exact ⟨y, m, left + 1, HV.out.1, HV.out.2, rfl, rfl⟩
      · clear hN hb hc
        go_wp2_with fail
        go_loopw [7] (fun yv wz => ∃ y : Int, yv = .int .i64 y ∧ 0 ≤ y ∧ y ≤ 10000 ∧ n < Civ.fst (y + 1) ∧ wz = wr) (fun yv _ => (intOf yv).toNat)
        case atStart => exact ⟨y, rfl, by omega, by omega, HEX.out, rfl⟩
        case round =>
          clear HEX hy1 hy2
          obtain ⟨y, rfl, hy1, hy2, hex, rfl⟩ := hrel
          have hN := fst_any y (by omega) (by omega)
          have hb := fst_bd y (by omega) (by omega)
          by_cases hgt : n < Civ.fst y
          · have hy3 : 1 ≤ y := by
              by_cases h : y < 1
              · have := Civ.fst_mono (show y + 1 ≤ 1 by omega)
                have := E1.out
                omega
              · omega
            have HG := Lib.hid hgt
            clear hex
            generalize hfe : Civ.fst y = f at hN hb hgt
            have HFE := Lib.hid hfe
            clear hfe
            go_wp2_with fail
            refine (hN _).mono ?_
            rintro e w1 ⟨rfl, rfl⟩
            go_wp2_with fail
            go_roundw
            case rel => exact ⟨y - 1, rfl, by omega, by omega, by rw [show y - 1 + 1 = y by omega]; exact HG.out, trivial⟩
            case measure => simp [intOf]; omega
          · have hs := Civ.fst_succ y
            have h13 := Civ.cum13 y
            have c1 : Civ.cum y 1 = 0 := by simp [Civ.cum]
            have hlp := Civ.lp01 y
            have hy9 : y ≤ 9999 := by
              by_cases h : 9999 < y
              · have := Civ.fst_mono (show (10000 : Int) ≤ y by omega)
                have := E2.out
                omega
              · omega
            have hy3 : 1 ≤ y := by
              by_cases h : y < 1
              · have := Civ.fst_mono (show y + 1 ≤ 1 by omega)
                have := E1.out
                omega
              · omega
            generalize hfe : Civ.fst y = f at hN hb hgt hs
            have HS := Lib.hid (show n - f < Civ.cum y 13 - Civ.cum y 1 by omega)
            have HFE := Lib.hid hfe
            clear hfe hs h13 c1 hlp hex
            go_wp2_with fail
            refine (hN _).mono ?_
            rintro e w1 ⟨rfl, rfl⟩
            go_wp2_with fail
            refine (hN _).mono ?_
            rintro e w1 ⟨rfl, rfl⟩
            go_wp2_with fail
            go_loopw [8, 9] (fun lv mv wz => ∃ left m : Int, lv = .int .i64 left ∧ mv = .int .i64 m ∧ 1 ≤ m ∧ m ≤ 12 ∧ 0 ≤ left ∧ left < Civ.cum y 13 - Civ.cum y m ∧ Civ.cum y m + left = n - f ∧ wz = wr) (fun _ mv _ => (13 - intOf mv).toNat)
            case atStart => exact ⟨n - f, 1, rfl, rfl, by omega, by omega, by omega, HS.out, by simp [Civ.cum], rfl⟩
            case round =>
              clear HS hN
              obtain ⟨left, m, rfl, rfl, hm1, hm2, hl0, hl1, hl2, rfl⟩ := hrel
              have hL := length_any y m
              have hl := Civ.len_pos y m hm1 hm2
              have hc := Civ.cum_succ y m hm1 hm2
              have hbc := Civ.cum_bd y m hm1 (by omega)
              have hlp := Civ.lp01 y
              have h13 := Civ.cum13 y
              by_cases hge : Civ.len y m ≤ left
              · have hm : m + 1 ≤ 12 := by
                  rcases Int.lt_or_eq_of_le hm2 with h | h
                  · omega
                  · subst h; rw [show (12 : Int) + 1 = 13 from rfl] at hc; omega
                have HA := Lib.hid (show left - Civ.len y m < Civ.cum y 13 - Civ.cum y (m + 1) by omega)
                have HB := Lib.hid (show Civ.cum y (m + 1) + (left - Civ.len y m) = n - f by omega)
                have hlb : left ≤ 400 := by omega
                clear hc hbc h13 hl1 hl2
                generalize Civ.len y m = ln at *
                go_wp2_with fail
                refine (hL _).mono ?_
                rintro e w1 ⟨rfl, rfl⟩
                go_wp2_with fail
                refine (hL _).mono ?_
                rintro e w1 ⟨rfl, rfl⟩
                go_wp2_with fail
                go_roundw
                case rel => exact ⟨left - ln, m + 1, rfl, rfl, by omega, hm, by omega, HA.out, HB.out, trivial⟩
                case measure => simp [intOf]; omega
              · have hlb : left ≤ 400 := by omega
                have HV := Lib.hid (show Civ.valid y m (left + 1) ∧ Civ.num y m (left + 1) = n from ⟨⟨hy3, hy9, by omega, by omega⟩, by unfold Civ.num; have := HFE.out; omega⟩)
                clear hc hbc h13 hl1 hl2 hl
                generalize Civ.len y m = ln at *
                go_wp2_with fail
                refine (hL _).mono ?_
                rintro e w1 ⟨rfl, rfl⟩
                go_wp2_with fail
                (try simp only [Exit.inBlock, Exit.then]); refine bodyPost_ret (results_four rfl _ _ _) rfl ?_
                exact ⟨y, m, left + 1, HV.out.1, HV.out.2, rfl, rfl⟩
/-- stamp.Make of a date alone. -/
theorem make_yes (y m d : Int) (h : Civ.valid y m d) (w : World) : Calls Tryd.prog 24 #[.int .i64 y, .int .i64 m, .int .i64 d, .int .i64 0, .int .i64 0, .int .i64 0] w fun e w' => e = .returned (.tuple #[.int .i64 (Civ.num y m d * 86400), .int .i64 0]) ∧ w = w' := by
  have hD := days_yes y m d h
  have hb := Civ.num_bd h
  clear h
  generalize Civ.num y m d = nn at *
  obtain ⟨b1, b2⟩ := hb
  go_enter Tryd.func24, Tryd.ntmps24
  go_wp2_with fail
  refine (hD _).mono ?_
  rintro e w1 ⟨rfl, rfl⟩
  go_wp2_with fail
  go_ret2
  exact ⟨rfl, rfl⟩
theorem make_no (y m d : Int) (h : ¬ Civ.valid y m d) (w : World) : Calls Tryd.prog 24 #[.int .i64 y, .int .i64 m, .int .i64 d, .int .i64 0, .int .i64 0, .int .i64 0] w fun e w' => e = .returned (.tuple #[.int .i64 0, .int .i64 1]) ∧ w = w' := by
  have hD := days_no y m d h
  clear h
  go_enter Tryd.func24, Tryd.ntmps24
  go_wp2_with fail
  refine (hD _).mono ?_
  rintro e w1 ⟨rfl, rfl⟩
  go_wp2_with fail
  go_ret2
  exact ⟨rfl, rfl⟩
def MayT (t : Int) : Prop := -62135596800 ≤ t ∧ t ≤ 253402300799
instance (t : Int) : Decidable (MayT t) := by unfold MayT; infer_instance
theorem may_any (t : Int) (w : World) : Calls Tryd.prog 23 #[.int .i64 t] w fun e w' => e = .returned (.bool (decide (MayT t))) ∧ w = w' := by
  by_cases h1 : -62135596800 ≤ t
  · by_cases h2 : t ≤ 253402300799
    · rw [decide_eq_true (show MayT t from ⟨h1, h2⟩)]
      go_enter Tryd.func23, Tryd.ntmps23
      go_wp2_with fail
      go_ret
      exact ⟨rfl, rfl⟩
    · rw [decide_eq_false (fun h : MayT t => h2 h.2)]
      have e : decide (t ≤ 253402300799) = false := by simpa using h2
      go_enter Tryd.func23, Tryd.ntmps23
      go_wp2_with fail
      go_ret
      exact ⟨rfl, rfl⟩
  · rw [decide_eq_false (fun h : MayT t => h1 h.1)]
    go_enter Tryd.func23, Tryd.ntmps23
    go_wp2_with fail
    go_ret
    exact ⟨rfl, rfl⟩
theorem tday_any (t : Int) (h : MayT t) (w : World) : Calls Tryd.prog 26 #[.int .i64 t] w fun e w' => e = .returned (.tuple #[.int .i64 (t / 86400), .int .i64 (t % 86400)]) ∧ w = w' := by
  obtain ⟨h1, h2⟩ := h
  have hb := Int.lt_tmod_of_pos t (b := 86400) (by omega)
  have hb2 := Int.tmod_lt_of_pos t (b := 86400) (by omega)
  have hd := Int.tmod_add_mul_tdiv t 86400
  generalize ht : Int.tmod t 86400 = r at *
  generalize hq : Int.tdiv t 86400 = q at *
  have hqb1 : -1000000 ≤ q := by omega
  have hqb2 : q ≤ 4000000 := by omega
  by_cases hr : r < 0
  · have e1 : t / 86400 = q - 1 := by omega
    have e2 : t % 86400 = r + 86400 := by omega
    rw [e1, e2]
    clear e1 e2 hd
    go_enter Tryd.func26, Tryd.ntmps26
    go_wp2_with fail
    go_ret2
    exact ⟨rfl, rfl⟩
  · have e1 : t / 86400 = q := by omega
    have e2 : t % 86400 = r := by omega
    rw [e1, e2]
    clear e1 e2 hd
    go_enter Tryd.func26, Tryd.ntmps26
    go_wp2_with fail
    go_ret2
    exact ⟨rfl, rfl⟩
end Go.Proofs.YtkeeocidinnnnaaDoor
