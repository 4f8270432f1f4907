/- CivilTurns: a week later is the same weekday and the next week, or week 1. No condition. -/
import Derived.Deep.RegionHeld3
import Derived.Deep.DrawnRows
import Derived.WalkKit
import Derived.Lib.Hide
import Derived.Test.YtpgikdohlhbgoaaPCivilTurnsx2
import Derived.Test.YtpgikdohlhbgoaaCiv
set_option linter.unusedVariables false
namespace Go.Proofs.Ytpgikdohlhbgoaa.Pure
open Go.RowKit Go.Proofs.Ytpgikdohlhbgoaa.PCivilTurns Go.Proofs.YtpgikdohlhbgoaaW.PrintWords Go.Proofs.YtpgikdohlhbgoaaW.PrintLast

theorem w64 {n : Int} (h : -9223372036854775808 ≤ n) (h' : n ≤ 9223372036854775807) : wrap64 n = n := by unfold wrap64; omega
theorem Ev.eq {α : Type} {g : Nat → Option α} {r s : α} (h : Ev g r) (e : r = s) : Ev g s := e ▸ h
theorem Ev.of_eq {α : Type} {g : Nat → Option α} {r : α} (h : ∀ k, g k = some r) : Ev g r := ⟨0, fun k _ => h k⟩
theorem Ev.pos {α : Type} {g g' : Nat → Option α} {r : α} {c : Prop} [Decidable c] (hc : c) (h : Ev g r) : Ev (fun k => if c then g k else g' k) r := Ev.congr (fun _ => if_pos hc) h
theorem Ev.neg {α : Type} {g g' : Nat → Option α} {r : α} {c : Prop} [Decidable c] (hc : ¬ c) (h : Ev g' r) : Ev (fun k => if c then g k else g' k) r := Ev.congr (fun _ => if_neg hc) h
theorem tmod0 (y m : Int) : Int.tmod y m = 0 ↔ y % m = 0 := by rw [← Int.dvd_iff_tmod_eq_zero, ← Int.dvd_iff_emod_eq_zero]
theorem leap_f (y : Int) : civil_Leap.f y = some (Civ.leap y) := by
  unfold civil_Leap.f Civ.leap
  simp only [tmod0]
  by_cases h4 : y % 4 = 0
  · by_cases h1 : y % 100 = 0
    · simp [h4, h1, Bool.beq_eq_decide_eq, tmod0]
    · simp [h4, h1]
  · simp [h4]
theorem length_f (y m : Int) (k : Nat) : civil_Length.f (k + 1) y m = some (Civ.len y m) := by
  unfold civil_Length.f
  simp only [civil_Length.j0, leap_f, Option.bind_some]
  unfold Civ.len Civ.lp
  by_cases h4 : m = 4
  · subst h4; rfl
  by_cases h6 : m = 6
  · subst h6; rfl
  by_cases h9 : m = 9
  · subst h9; rfl
  by_cases h11 : m = 11
  · subst h11; rfl
  rw [if_neg h4, if_neg h6, if_neg h9]
  have e11 : (m == 11) = false := by simp [h11]
  rw [e11, if_neg (by simp), if_neg (c := m = 4 ∨ m = 6 ∨ m = 9 ∨ m = 11) (by omega)]
  by_cases h2 : m = 2
  · rw [if_pos h2, if_pos h2]; split <;> rfl
  rw [if_neg h2, if_neg h2]
  by_cases hm : m = 1 ∨ m = 3 ∨ m = 5 ∨ m = 7 ∨ m = 8 ∨ m = 10 ∨ m = 12
  · rw [if_pos hm]; rcases hm with h | h | h | h | h | h | h <;> subst h <;> rfl
  · rw [if_neg hm, if_neg (by omega), if_neg (by omega), if_neg (by omega), if_neg (by omega), if_neg (by omega), if_neg (by omega), if_neg (by omega)]
instance (y m d : Int) : Decidable (Civ.valid y m d) := by unfold Civ.valid; infer_instance
theorem valid_f (y m d : Int) (k : Nat) : civil_Valid.f (k + 1) y m d = some (decide (Civ.valid y m d)) := by
  unfold civil_Valid.f civil_year.f Civ.valid
  simp only [length_f]
  by_cases h1 : y ≥ 1
  · by_cases h2 : y ≤ 9999
    · by_cases h3 : d ≥ 1
      · simp [h1, h2, h3]
      · have : ¬ (1 ≤ d) := by omega
        simp [h1, h2, this]
    · have : ¬ (y ≤ 9999) := h2
      simp [h1, this]
  · have : ¬ (1 ≤ y) := by omega
    simp [this]
theorem number_f (y m d : Int) (h1 : -300 ≤ y) (h2 : y ≤ 20000) (h3 : 1 ≤ m) (h4 : m ≤ 12) (h5 : -1000 ≤ d) (h6 : d ≤ 1000) : civil_number.f y m d = some (Civ.num y m d) := by
  rw [← Civ.prog_num y m d h3 h4]
  unfold civil_number.f Civ.prog
  have e4 : Int.tdiv (y - 1 + 400) 4 = (y - 1 + 400) / 4 := Int.tdiv_eq_ediv_of_nonneg (by omega)
  have e1 : Int.tdiv (y - 1 + 400) 100 = (y - 1 + 400) / 100 := Int.tdiv_eq_ediv_of_nonneg (by omega)
  have e0 : Int.tdiv (y - 1 + 400) 400 = (y - 1 + 400) / 400 := Int.tdiv_eq_ediv_of_nonneg (by omega)
  have f4 : Int.tdiv (y + 400) 4 = (y + 400) / 4 := Int.tdiv_eq_ediv_of_nonneg (by omega)
  have f1 : Int.tdiv (y + 400) 100 = (y + 400) / 100 := Int.tdiv_eq_ediv_of_nonneg (by omega)
  have f0 : Int.tdiv (y + 400) 400 = (y + 400) / 400 := Int.tdiv_eq_ediv_of_nonneg (by omega)
  by_cases hm : m < 3
  · rw [if_pos hm]
    simp only [if_pos hm]
    have g5 : Int.tdiv (153 * (m + 12 - 3) + 2) 5 = (153 * (m + 12 - 3) + 2) / 5 := Int.tdiv_eq_ediv_of_nonneg (by omega)
    rw [w64 (n := y - 1) (by omega) (by omega), w64 (n := y - 1 + 400) (by omega) (by omega), e4, e1, e0, w64 (n := m + 12) (by omega) (by omega), w64 (n := m + 12 - 3) (by omega) (by omega), w64 (n := 153 * (m + 12 - 3)) (by omega) (by omega), w64 (n := 153 * (m + 12 - 3) + 2) (by omega) (by omega), g5]
    simp (disch := omega) only [w64]
  · rw [if_neg hm]
    simp only [if_neg hm]
    have g5 : Int.tdiv (153 * (m - 3) + 2) 5 = (153 * (m - 3) + 2) / 5 := Int.tdiv_eq_ediv_of_nonneg (by omega)
    rw [w64 (n := y + 400) (by omega) (by omega), f4, f1, f0, w64 (n := m - 3) (by omega) (by omega), w64 (n := 153 * (m - 3)) (by omega) (by omega), w64 (n := 153 * (m - 3) + 2) (by omega) (by omega), g5]
    simp (disch := omega) only [w64]
theorem number_1 (y : Int) (h1 : -300 ≤ y) (h2 : y ≤ 20000) : civil_number.f y 1 1 = some (Civ.fst y) := by
  rw [number_f y 1 1 h1 h2 (by omega) (by omega) (by omega) (by omega)]
  have : Civ.num y 1 1 = Civ.fst y := by simp [Civ.num, Civ.cum]
  rw [this]
theorem days_f (y m d : Int) (k : Nat) : civil_Days.f (k + 1) y m d = some (if Civ.valid y m d then (Civ.num y m d, 0) else (0, 1)) := by
  unfold civil_Days.f
  rw [valid_f]
  by_cases h : Civ.valid y m d
  · have hm := Civ.valid_m h
    have hl := Civ.len_pos y m hm.1 hm.2
    have h' := h
    obtain ⟨p, q, r, s⟩ := h'
    simp only [Option.bind_some, decide_eq_true h, if_true, number_f y m d (by omega) (by omega) hm.1 hm.2 (by omega) (by omega), if_pos h]
  · simp only [Option.bind_some, decide_eq_false h, if_neg h]; rfl
theorem weekday_f (n : Int) : civil_Weekday.f n = some (Civ.wd n) := by
  unfold civil_Weekday.f Civ.wd
  have h := Int.tmod_eq_emod_of_nonneg (a := n) (b := 7)
  have hb : -7 < Int.tmod n 7 ∧ Int.tmod n 7 < 7 := by
    have := Int.tmod_lt_of_pos n (b := 7) (by omega)
    have := Int.lt_tmod_of_pos n (b := 7) (by omega)
    omega
  have hm : (Int.tmod n 7) % 7 = n % 7 := by
    rw [Int.tmod_def]; omega
  simp (disch := omega) only [w64]
  rw [Int.tmod_eq_emod_of_nonneg (by omega)]
  congr 1; omega
theorem ev_len (y m : Int) : Ev (fun k => civil_Length.f k y m) (Civ.len y m) := ⟨1, fun k hk => by obtain ⟨j, rfl⟩ : ∃ j, k = j + 1 := ⟨k - 1, by omega⟩; exact length_f y m j⟩
theorem ev_days (y m d : Int) : Ev (fun k => civil_Days.f k y m d) (if Civ.valid y m d then (Civ.num y m d, 0) else (0, 1)) := ⟨1, fun k hk => by obtain ⟨j, rfl⟩ : ∃ j, k = j + 1 := ⟨k - 1, by omega⟩; exact days_f y m d j⟩
theorem ev_l2 (y : Int) (t : Nat) : ∀ left m : Int, (13 - m).toNat = t → 1 ≤ m → m ≤ 12 → 0 ≤ left → left < Civ.cum y 13 - Civ.cum y m →
    ∃ a b, 1 ≤ a ∧ a ≤ 12 ∧ 1 ≤ b ∧ b ≤ Civ.len y a ∧ Civ.cum y a + b = Civ.cum y m + left + 1 ∧ Ev (fun k => civil_Date.l2 k y left m) (y, a, b, 0) := by
  induction t with
  | zero => intro left m ht h1 h2; omega
  | succ t ih =>
    intro left m ht h1 h2 h3 h4
    have hl := Civ.len_pos y m h1 h2
    have hc := Civ.cum_succ y m h1 h2
    have hb := Civ.cum_bd y m h1 (by omega)
    have h13 := Civ.cum13 y
    have hlp := Civ.lp01 y
    by_cases hge : left ≥ Civ.len y m
    · have hm : m + 1 ≤ 12 := by
        rcases Int.lt_or_eq_of_le h2 with h | h
        · omega
        · subst h; rw [show (12 : Int) + 1 = 13 from rfl] at hc; omega
      obtain ⟨a, b, p1, p2, p3, p4, p5, p6⟩ := ih (left - Civ.len y m) (m + 1) (by omega) (by omega) hm (by omega) (by omega)
      refine ⟨a, b, p1, p2, p3, p4, by omega, ?_⟩
      refine Ev.step (fun k => by simp only [civil_Date.l2]; rfl) (Ev.bind (ev_len y m) (Ev.pos hge (Ev.bind (ev_len y m) ?_)))
      rw [w64 (n := left - Civ.len y m) (by omega) (by omega), w64 (n := m + 1) (by omega) (by omega)]
      exact p6
    · refine ⟨m, left + 1, h1, h2, by omega, by omega, by omega, ?_⟩
      refine Ev.step (fun k => by simp only [civil_Date.l2]; rfl) (Ev.bind (ev_len y m) (Ev.neg hge ?_))
      rw [w64 (n := left + 1) (by omega) (by omega)]
      exact Ev.now _
theorem fst_bd (y : Int) (h1 : -300 ≤ y) (h2 : y ≤ 20000) : -1000000 ≤ Civ.fst y ∧ Civ.fst y ≤ 8000000 := by unfold Civ.fst; omega
theorem ev_l1 (n : Int) (hn : -719162 ≤ n) (t : Nat) : ∀ y : Int, y.toNat = t → 0 ≤ y → y ≤ 10000 → n < Civ.fst (y + 1) → n ≤ 2932896 →
    ∃ a b c, Civ.valid a b c ∧ Civ.num a b c = n ∧ Ev (fun k => civil_Date.l1 k n y) (a, b, c, 0) := by
  induction t with
  | zero =>
    intro y ht h1 h2 h3
    have : y = 0 := by omega
    subst this
    have e : Civ.fst (0 + 1) = -719162 := by decide
    omega
  | succ t ih =>
    intro y ht h1 h2 h3 h4
    have hb := fst_bd y (by omega) (by omega)
    by_cases hgt : Civ.fst y > n
    · obtain ⟨a, b, c, p1, p2, p3⟩ := ih (y - 1) (by omega) (by omega) (by omega) (by rw [show y - 1 + 1 = y by omega]; exact hgt) h4
      refine ⟨a, b, c, p1, p2, ?_⟩
      refine Ev.step (fun k => by simp only [civil_Date.l1]; rfl) (Ev.bind (Ev.of_eq fun _ => number_1 y (by omega) (by omega)) (Ev.pos hgt ?_))
      rw [w64 (n := y - 1) (by omega) (by omega)]
      exact p3
    · have hs := Civ.fst_succ y
      have h13 := Civ.cum13 y
      have c1 : Civ.cum y 1 = 0 := by simp [Civ.cum]
      obtain ⟨a, b, p1, p2, p3, p4, p5, p6⟩ := ev_l2 y _ (n - Civ.fst y) 1 rfl (by omega) (by omega) (by omega) (by omega)
      have hy9 : y ≤ 9999 := by
        by_cases h : 9999 < y
        · have h1 : Civ.fst 10000 ≤ Civ.fst y := Civ.fst_mono (by omega)
          have e2 : Civ.fst 10000 = 2932897 := by decide
          omega
        · omega
      refine ⟨y, a, b, ⟨by omega, hy9, p3, p4⟩, by unfold Civ.num; omega, ?_⟩
      refine Ev.step (fun k => by simp only [civil_Date.l1]; rfl) (Ev.bind (Ev.of_eq fun _ => number_1 y (by omega) (by omega)) (Ev.neg hgt (Ev.bind (Ev.of_eq fun _ => number_1 y (by omega) (by omega)) ?_)))
      rw [w64 (n := n - Civ.fst y) (by omega) (by omega)]
      exact p6
theorem j1_f (k : Nat) (n y : Int) : civil_Date.j1 (k + 1) n y = civil_Date.l1 k n y := by simp only [civil_Date.j1]
theorem ev_l0 (n : Int) (hn : -719162 ≤ n) (hn' : n ≤ 2932896) (t : Nat) : ∀ y : Int, (10000 - y).toNat = t → 1 ≤ y → y ≤ 10000 →
    ∃ a b c, Civ.valid a b c ∧ Civ.num a b c = n ∧ Ev (fun k => civil_Date.l0 k n y) (a, b, c, 0) := by
  have e2 : Civ.fst 10000 = 2932897 := by decide
  induction t with
  | zero =>
    intro y ht h1 h2
    have : y = 10000 := by omega
    subst this
    have e3 : Civ.fst (10000 + 1) = 2933263 := by decide
    obtain ⟨a, b, c, p1, p2, p3⟩ := ev_l1 n hn _ 10000 rfl (by omega) (by omega) (by omega) hn'
    exact ⟨a, b, c, p1, p2, Ev.step (fun k => by simp only [civil_Date.l0]; rfl) (Ev.neg (by omega) (Ev.step (fun k => j1_f k n _) p3))⟩
  | succ t ih =>
    intro y ht h1 h2
    by_cases h9 : y < 9999
    · by_cases hle : Civ.fst (y + 1) ≤ n
      · obtain ⟨a, b, c, p1, p2, p3⟩ := ih (y + 1) (by omega) (by omega) (by omega)
        refine ⟨a, b, c, p1, p2, ?_⟩
        refine Ev.step (fun k => by simp only [civil_Date.l0]; rfl) (Ev.pos h9 ?_)
        rw [w64 (n := y + 1) (by omega) (by omega)]
        exact Ev.bind (Ev.of_eq fun _ => number_1 (y + 1) (by omega) (by omega)) (Ev.pos hle p3)
      · obtain ⟨a, b, c, p1, p2, p3⟩ := ev_l1 n hn _ y rfl (by omega) (by omega) (by omega) hn'
        refine ⟨a, b, c, p1, p2, ?_⟩
        refine Ev.step (fun k => by simp only [civil_Date.l0]; rfl) (Ev.pos h9 ?_)
        rw [w64 (n := y + 1) (by omega) (by omega)]
        exact Ev.bind (Ev.of_eq fun _ => number_1 (y + 1) (by omega) (by omega)) (Ev.neg hle (Ev.step (fun k => j1_f k n _) p3))
    · have : Civ.fst 10000 ≤ Civ.fst (y + 1) := Civ.fst_mono (by omega)
      obtain ⟨a, b, c, p1, p2, p3⟩ := ev_l1 n hn _ y rfl (by omega) (by omega) (by omega) hn'
      exact ⟨a, b, c, p1, p2, Ev.step (fun k => by simp only [civil_Date.l0]; rfl) (Ev.neg (by omega) (Ev.step (fun k => j1_f k n _) p3))⟩
theorem day_f (n : Int) : civil_day.f n = some (decide (-719162 ≤ n ∧ n ≤ 2932896)) := by
  unfold civil_day.f
  by_cases h : n ≥ -719162
  · rw [if_pos h]; congr 1; rw [decide_eq_decide]; omega
  · rw [if_neg h]; congr 1; symm; rw [decide_eq_false_iff_not]; omega
/-- a day's date -/
theorem ev_date {n : Int} (h1 : -719162 ≤ n) (h2 : n ≤ 2932896) : ∃ a b c, Civ.valid a b c ∧ Civ.num a b c = n ∧ Ev (fun k => civil_Date.f k n) (a, b, c, 0) := by
  have hd : Int.tdiv ((n - -719162) * 400) 146097 = (n + 719162) * 400 / 146097 := by rw [Int.tdiv_eq_ediv_of_nonneg (by omega)]; congr 1
  obtain ⟨a, b, c, p1, p2, p3⟩ := ev_l0 n h1 h2 _ ((n + 719162) * 400 / 146097 + 1) rfl (by omega) (by omega)
  refine ⟨a, b, c, p1, p2, ?_⟩
  unfold civil_Date.f
  refine Ev.bind (Ev.of_eq fun _ => day_f n) (Ev.pos (by simp; omega) ?_)
  rw [w64 (n := n - -719162) (by omega) (by omega), w64 (n := (n - -719162) * 400) (by omega) (by omega), hd, w64 (n := (n + 719162) * 400 / 146097) (by omega) (by omega), w64 (n := (n + 719162) * 400 / 146097 + 1) (by omega) (by omega)]
  exact p3
theorem ev_dateOut {n : Int} (h : ¬ (-719162 ≤ n ∧ n ≤ 2932896)) : Ev (fun k => civil_Date.f k n) (0, 0, 0, 1) := by
  unfold civil_Date.f
  exact Ev.bind (Ev.of_eq fun _ => day_f n) (Ev.neg (by simp; omega) (Ev.now _))
theorem valid_bd {y m d : Int} (h : Civ.valid y m d) : 1 ≤ y ∧ y ≤ 9999 ∧ 1 ≤ m ∧ m ≤ 12 ∧ 1 ≤ d ∧ d ≤ 31 := by
  have hm := Civ.valid_m h
  have hl := Civ.len_pos y m hm.1 hm.2
  obtain ⟨p, q, r, s⟩ := h
  omega
/-- where week 1 of a year begins -/
theorem first_f (y k : Int) (h1 : -300 ≤ y) (h2 : y ≤ 20000) (h3 : 0 ≤ k) (h4 : k ≤ 6) : civil_first.f y k = some (Civ.one y k) := by
  unfold civil_first.f
  have hb := fst_bd y h1 h2
  have hw := Civ.wd_bd (Civ.fst y)
  rw [number_1 y h1 h2]
  simp only [Option.bind_some, weekday_f]
  rw [w64 (n := Civ.wd (Civ.fst y) - k) (by omega) (by omega), w64 (n := Civ.wd (Civ.fst y) - k + 7) (by omega) (by omega), Int.tmod_eq_emod_of_nonneg (by omega), ← Civ.one_prog y k h3 h4]
  simp (disch := omega) only [w64]
  split <;> rfl
theorem one_bd (y k : Int) (h1 : -300 ≤ y) (h2 : y ≤ 20000) (h3 : 0 ≤ k) (h4 : k ≤ 6) : -1000003 ≤ Civ.one y k ∧ Civ.one y k ≤ 8000003 := by
  have := fst_bd y h1 h2
  have := Civ.one_near y k h3 h4
  omega
theorem wday_f (k : Int) : civil_wday.f k = some (decide (0 ≤ k ∧ k ≤ 6)) := by
  unfold civil_wday.f
  by_cases h : k ≥ 0
  · rw [if_pos h]; congr 1; rw [decide_eq_decide]; omega
  · rw [if_neg h]; congr 1; symm; rw [decide_eq_false_iff_not]; omega
theorem year_f (y : Int) : civil_year.f y = some (decide (1 ≤ y ∧ y ≤ 9999)) := by
  unfold civil_year.f
  by_cases h : y ≥ 1
  · rw [if_pos h]; congr 1; rw [decide_eq_decide]; omega
  · rw [if_neg h]; congr 1; symm; rw [decide_eq_false_iff_not]; omega
theorem month_f (y : Int) : civil_month.f y = some (decide (1 ≤ y ∧ y ≤ 12)) := by
  unfold civil_month.f
  by_cases h : y ≥ 1
  · rw [if_pos h]; congr 1; rw [decide_eq_decide]; omega
  · rw [if_neg h]; congr 1; symm; rw [decide_eq_false_iff_not]; omega
/-- a day's week -/
theorem ev_week {n k : Int} (h1 : -719162 ≤ n) (h2 : n ≤ 2932896) (h3 : 0 ≤ k) (h4 : k ≤ 6) : ∃ y w, Civ.inWeek n k y w ∧ 0 ≤ y ∧ y ≤ 10000 ∧ Ev (fun j => civil_Week.f j n k) (y, w, 0) := by
  obtain ⟨y, m, d, hv, hn, hd⟩ := ev_date h1 h2
  have hin := Civ.num_in hv
  rw [hn] at hin
  have hbd := valid_bd hv
  have b0 := one_bd y k (by omega) (by omega) h3 h4
  have b1 := one_bd (y + 1) k (by omega) (by omega) h3 h4
  have b2 := one_bd (y - 1) k (by omega) (by omega) h3 h4
  have hno := Civ.one_succ y k h3 h4
  have hW := Civ.inWeek_of h3 h4 hin.1 hin.2
  have top : ∀ {r}, Ev (fun j => civil_Week.j0 j n k y false) r → Ev (fun j => civil_Week.f j n k) r := fun h => by
    unfold civil_Week.f
    refine Ev.bind hd (Ev.pos rfl (Ev.bind (Ev.of_eq fun _ => wday_f k) ?_))
    rw [decide_eq_true (show 0 ≤ k ∧ k ≤ 6 from ⟨h3, h4⟩)]
    exact h
  have f0 := first_f y k (by omega) (by omega) h3 h4
  have f1 := first_f (y + 1) k (by omega) (by omega) h3 h4
  have f2 := first_f (y - 1) k (by omega) (by omega) h3 h4
  by_cases e : n < Civ.one y k
  · have hI := hW (y - 1) (by rw [if_pos e])
    have hI' := hI
    obtain ⟨q1, q2, _⟩ := hI'
    refine ⟨y - 1, _, hI, by omega, by omega, top ?_⟩
    refine Ev.step (fun j => by simp only [civil_Week.j0]; rfl) (Ev.neg (by simp) (Ev.bind (Ev.of_eq fun _ => f0) (Ev.pos e ?_)))
    rw [w64 (n := y - 1) (by omega) (by omega)]
    refine Ev.bind (Ev.of_eq fun _ => f2) ?_
    rw [w64 (n := n - Civ.one (y - 1) k) (by omega) (by omega), Int.tdiv_eq_ediv_of_nonneg (by omega)]
    simp (disch := omega) only [w64]
    exact Ev.now _
  · by_cases e' : n ≥ Civ.one (y + 1) k
    · have hI := hW (y + 1) (by rw [if_neg e, if_pos e'])
      refine ⟨y + 1, _, hI, by omega, by omega, top ?_⟩
      refine Ev.step (fun j => by simp only [civil_Week.j0]; rfl) (Ev.neg (by simp) (Ev.bind (Ev.of_eq fun _ => f0) (Ev.neg e ?_)))
      rw [w64 (n := y + 1) (by omega) (by omega)]
      refine Ev.bind (Ev.of_eq fun _ => f1) (Ev.pos e' (Ev.bind (Ev.of_eq fun _ => f1) ?_))
      rw [w64 (n := n - Civ.one (y + 1) k) (by omega) (by omega), Int.tdiv_eq_ediv_of_nonneg (by omega)]
      simp (disch := omega) only [w64]
      exact Ev.now _
    · have hI := hW y (by rw [if_neg e, if_neg e'])
      refine ⟨y, _, hI, by omega, by omega, top ?_⟩
      refine Ev.step (fun j => by simp only [civil_Week.j0]; rfl) (Ev.neg (by simp) (Ev.bind (Ev.of_eq fun _ => f0) (Ev.neg e ?_)))
      rw [w64 (n := y + 1) (by omega) (by omega)]
      refine Ev.bind (Ev.of_eq fun _ => f1) (Ev.neg e' (Ev.bind (Ev.of_eq fun _ => f0) ?_))
      rw [w64 (n := n - Civ.one y k) (by omega) (by omega), Int.tdiv_eq_ediv_of_nonneg (by omega)]
      simp (disch := omega) only [w64]
      exact Ev.now _
theorem ev_weekOut {n k : Int} (h : ¬ (-719162 ≤ n ∧ n ≤ 2932896 ∧ 0 ≤ k ∧ k ≤ 6)) : Ev (fun j => civil_Week.f j n k) (0, 0, 1) := by
  unfold civil_Week.f
  by_cases hn : -719162 ≤ n ∧ n ≤ 2932896
  · obtain ⟨y, m, d, hv, _, hd⟩ := ev_date hn.1 hn.2
    refine Ev.bind hd (Ev.pos rfl (Ev.bind (Ev.of_eq fun _ => wday_f k) ?_))
    rw [decide_eq_false (by omega)]
    refine Ev.step (fun j => by simp only [civil_Week.j0]; rfl) ?_
    exact Ev.pos rfl (Ev.now _)
  · refine Ev.bind (ev_dateOut hn) ?_
    refine Ev.neg (by simp) ?_
    refine Ev.step (fun j => by simp only [civil_Week.j0]; rfl) ?_
    exact Ev.pos (by simp) (Ev.now _)
theorem ev_weeks (y k : Int) : Ev (fun j => civil_Weeks.f j y k) (if 1 ≤ y ∧ y ≤ 9999 ∧ 0 ≤ k ∧ k ≤ 6 then ((Civ.one (y + 1) k - Civ.one y k) / 7, 0) else (0, 1)) := by
  unfold civil_Weeks.f
  refine Ev.bind (Ev.of_eq fun _ => year_f y) ?_
  by_cases hy : 1 ≤ y ∧ y ≤ 9999
  · refine Ev.pos (decide_eq_true hy) (Ev.bind (Ev.of_eq fun _ => wday_f k) ?_)
    by_cases hk : 0 ≤ k ∧ k ≤ 6
    · rw [decide_eq_true hk, if_pos ⟨hy.1, hy.2, hk.1, hk.2⟩]
      refine Ev.step (fun j => by simp only [civil_Weeks.j0]; rfl) ?_
      refine Ev.neg (by simp) ?_
      have b0 := one_bd y k (by omega) (by omega) hk.1 hk.2
      have b1 := one_bd (y + 1) k (by omega) (by omega) hk.1 hk.2
      have b2 := Civ.one_succ y k hk.1 hk.2
      rw [w64 (n := y + 1) (by omega) (by omega)]
      refine Ev.bind (Ev.of_eq fun _ => first_f (y + 1) k (by omega) (by omega) hk.1 hk.2) (Ev.bind (Ev.of_eq fun _ => first_f y k (by omega) (by omega) hk.1 hk.2) ?_)
      rw [w64 (n := Civ.one (y + 1) k - Civ.one y k) (by omega) (by omega), Int.tdiv_eq_ediv_of_nonneg (by omega)]
      simp (disch := omega) only [w64]
      exact Ev.now _
    · rw [decide_eq_false hk, if_neg (by omega)]
      refine Ev.step (fun j => by simp only [civil_Weeks.j0]; rfl) ?_
      exact Ev.pos (by simp) (Ev.now _)
  · rw [if_neg (by omega)]
    refine Ev.neg (by rw [decide_eq_false hy]; simp) ?_
    refine Ev.step (fun j => by simp only [civil_Weeks.j0]; rfl) ?_
    exact Ev.pos (by simp) (Ev.now _)
/-- the first day of a month that is of a weekday -/
def day0 (y m w : Int) : Int := 1 + (w - Civ.wd (Civ.num y m 1) + 7) % 7
theorem day0_bd (y m w : Int) : 1 ≤ day0 y m w ∧ day0 y m w ≤ 7 := by unfold day0; omega
def nthOf (y m n w : Int) : Int := if n = 5 then (if day0 y m w + 28 ≤ Civ.len y m then day0 y m w + 28 else day0 y m w + 21) else day0 y m w + 7 * (n - 1)
theorem ev_nthl (y m n d : Int) (h1 : 1 ≤ m) (h2 : m ≤ 12) (hd : 1 ≤ d) (hd' : d ≤ 35) : Ev (fun k => civil_Nth.l0 k y m n d) (if n = 5 ∧ d > Civ.len y m then d - 7 else d, 0) := by
  have hl := Civ.len_pos y m h1 h2
  have one : ∀ d, ¬ (n = 5 ∧ d > Civ.len y m) → Ev (fun k => civil_Nth.l0 k y m n d) (d, 0) := by
    intro d h
    refine Ev.step (fun k => by simp only [civil_Nth.l0]; rfl) ?_
    by_cases hn : n = 5
    · refine Ev.pos hn (Ev.bind (ev_len y m) (Ev.neg (by omega) (Ev.now _)))
    · exact Ev.neg hn (Ev.now _)
  by_cases h : n = 5 ∧ d > Civ.len y m
  · rw [if_pos h]
    refine Ev.step (fun k => by simp only [civil_Nth.l0]; rfl) ?_
    refine Ev.pos h.1 (Ev.bind (ev_len y m) (Ev.pos h.2 ?_))
    rw [w64 (n := d - 7) (by omega) (by omega)]
    exact one _ (by omega)
  · rw [if_neg h]; exact one _ h
def nthOk (y m n w : Int) : Prop := 1 ≤ y ∧ y ≤ 9999 ∧ 1 ≤ m ∧ m ≤ 12 ∧ 1 ≤ n ∧ n ≤ 5 ∧ 0 ≤ w ∧ w ≤ 6
instance (y m n w : Int) : Decidable (nthOk y m n w) := by unfold nthOk; infer_instance
theorem ev_nth (y m n w : Int) : Ev (fun k => civil_Nth.f k y m n w) (if nthOk y m n w then (nthOf y m n w, 0) else (0, 1)) := by
  have bad : Ev (fun k => civil_Nth.j0 k y m n w true) (0, 1) := by
    refine Ev.step (fun k => by simp only [civil_Nth.j0]; rfl) ?_
    exact Ev.pos (by simp) (Ev.now _)
  unfold civil_Nth.f
  refine Ev.bind (Ev.of_eq fun _ => year_f y) ?_
  by_cases hy : 1 ≤ y ∧ y ≤ 9999
  · refine Ev.pos (decide_eq_true hy) (Ev.bind (Ev.of_eq fun _ => month_f m) ?_)
    by_cases hm : 1 ≤ m ∧ m ≤ 12
    · refine Ev.pos (decide_eq_true hm) ?_
      by_cases h1 : n < 1
      · rw [if_neg (show ¬ nthOk y m n w by unfold nthOk; omega)]; exact Ev.pos h1 bad
      refine Ev.neg h1 ?_
      by_cases h5 : n > 5
      · rw [if_neg (show ¬ nthOk y m n w by unfold nthOk; omega)]; exact Ev.pos h5 bad
      refine Ev.neg h5 (Ev.bind (Ev.of_eq fun _ => wday_f w) ?_)
      by_cases hw : 0 ≤ w ∧ w ≤ 6
      · rw [decide_eq_true hw, if_pos (show nthOk y m n w by unfold nthOk; omega)]
        refine Ev.step (fun k => by simp only [civil_Nth.j0]; rfl) ?_
        refine Ev.neg (by simp) ?_
        have hnum := number_f y m 1 (by omega) (by omega) hm.1 hm.2 (by omega) (by omega)
        have hwd := Civ.wd_bd (Civ.num y m 1)
        have hl := Civ.len_pos y m hm.1 hm.2
        refine Ev.bind (Ev.of_eq fun _ => hnum) (Ev.bind (Ev.of_eq fun _ => weekday_f _) ?_)
        rw [w64 (n := w - Civ.wd (Civ.num y m 1)) (by omega) (by omega), w64 (n := w - Civ.wd (Civ.num y m 1) + 7) (by omega) (by omega), Int.tmod_eq_emod_of_nonneg (by omega)]
        simp (disch := omega) only [w64]
        have hd0 := day0_bd y m w
        have h := ev_nthl y m n (day0 y m w + 7 * (n - 1)) hm.1 hm.2 (by omega) (by omega)
        refine Ev.eq h ?_
        unfold nthOf
        congr 1
        repeat' split
        all_goals omega
      · rw [decide_eq_false hw, if_neg (show ¬ nthOk y m n w by unfold nthOk; omega)]; exact bad
    · rw [if_neg (show ¬ nthOk y m n w by unfold nthOk; omega)]; exact Ev.neg (by rw [decide_eq_false hm]; simp) bad
  · rw [if_neg (show ¬ nthOk y m n w by unfold nthOk; omega)]; exact Ev.neg (by rw [decide_eq_false hy]; simp) bad
theorem ev_first : Ev (fun k => voklaw1_first.f k) true := by
  have v1 : Civ.valid 2000 3 1 := by unfold Civ.valid; decide
  have v2 : Civ.valid 1 1 1 := by unfold Civ.valid; decide
  have v3 : Civ.valid 9999 12 31 := by unfold Civ.valid; decide
  have v4 : Civ.valid 2021 1 3 := by unfold Civ.valid; decide
  have d1 := ev_days 2000 3 1
  have d2 := ev_days 1 1 1
  have d3 := ev_days 9999 12 31
  have d4 := ev_days 2021 1 3
  rw [if_pos v1, show Civ.num 2000 3 1 = 11017 by decide] at d1
  rw [if_pos v2, show Civ.num 1 1 1 = -719162 by decide] at d2
  rw [if_pos v3, show Civ.num 9999 12 31 = 2932896 by decide] at d3
  rw [if_pos v4, show Civ.num 2021 1 3 = 18630 by decide] at d4
  obtain ⟨y, w, hw, _, _, hv⟩ := ev_week (n := 18630) (k := 0) (by omega) (by omega) (by omega) (by omega)
  have hw' : Civ.inWeek 18630 0 2020 53 := by unfold Civ.inWeek; decide
  obtain ⟨rfl, rfl⟩ := Civ.inWeek_uniq (by omega) (by omega) hw hw'
  have hn := ev_nth 2026 3 5 6
  rw [if_pos (show nthOk 2026 3 5 6 by unfold nthOk; omega), show nthOf 2026 3 5 6 = 29 by decide] at hn
  unfold voklaw1_first.f
  refine Ev.bind d1 (Ev.bind d2 (Ev.bind d3 (Ev.bind d4 (Ev.bind hv (Ev.bind hn ?_)))))
  refine Ev.pos rfl (Ev.pos rfl (Ev.pos rfl (Ev.pos rfl (Ev.pos rfl (Ev.pos rfl (Ev.pos rfl (Ev.pos rfl (Ev.pos rfl (Ev.pos rfl (Ev.pos rfl (Ev.pos rfl (Ev.bind (Ev.of_eq fun _ => weekday_f 0) ?_))))))))))))
  exact Ev.eq (Ev.now _) (by decide)
theorem q_of {w w' : World} (h : Drawn0 w w') : w.grownBy w' none := by
  obtain ⟨⟨n, rfl⟩⟩ := h
  exact ⟨rfl, rfl, rfl, Nat.le_refl _, fun _ _ _ => rfl⟩
theorem q_trans {a b c : World} (h : a.grownBy b none) (k : b.grownBy c none) : a.grownBy c none :=
  ⟨k.os.trans h.os, k.tape.trans h.tape, k.output.trans h.output, Nat.le_trans h.size k.size, fun i hi hne => (k.block i (Nat.lt_of_lt_of_le hi h.size) hne).trans (h.block i hi hne)⟩
theorem q_drew (w : World) : w.grownBy w.drew none := ⟨rfl, rfl, rfl, Nat.le_refl _, fun _ _ _ => rfl⟩
theorem q_below {a b : World} (h : a.grownBy b none) : Below a.heap.size a b := ⟨h.os, h.tape, h.output, h.size, fun i hi => h.block i hi (by simp)⟩
theorem c_first (w : World) : Calls Try.prog 15 #[] w fun e w' => e = .returned (.bool true) ∧ w.grownBy w' none := by
  obtain ⟨K, hK⟩ := ev_first
  exact (voklaw1_first.calls K true w (hK K (Nat.le_refl _))).mono fun e w' ⟨he, hw⟩ => ⟨he, q_of hw⟩
theorem c_wd (n : Int) (w : World) : Calls Try.prog 26 #[.int .i64 n] w fun e w' => e = .returned (.int .i64 (Civ.wd n)) ∧ w.grownBy w' none :=
  (civil_Weekday.calls n (Civ.wd n) w (weekday_f n)).mono fun e w' ⟨he, hw⟩ => ⟨he, q_of hw⟩
theorem c_week {n k : Int} (h1 : -719162 ≤ n) (h2 : n ≤ 2932896) (h3 : 0 ≤ k) (h4 : k ≤ 6) : ∃ y w, Civ.inWeek n k y w ∧ 0 ≤ y ∧ y ≤ 10000 ∧ ∀ W : World, Calls Try.prog 27 #[.int .i64 n, .int .i64 k] W fun e W' => e = .returned (.tuple #[.int .i64 y, .int .i64 w, .int .i64 0]) ∧ W.grownBy W' none := by
  obtain ⟨y, w, hw, a1, a2, ⟨K, hK⟩⟩ := ev_week h1 h2 h3 h4
  exact ⟨y, w, hw, a1, a2, fun W => (civil_Week.calls K n k y w 0 W (hK K (Nat.le_refl _))).mono fun e w' ⟨he, hw⟩ => ⟨he, q_of hw⟩⟩
theorem c_weekOut {n k : Int} (h : ¬ (-719162 ≤ n ∧ n ≤ 2932896 ∧ 0 ≤ k ∧ k ≤ 6)) (W : World) : Calls Try.prog 27 #[.int .i64 n, .int .i64 k] W fun e W' => e = .returned (.tuple #[.int .i64 0, .int .i64 0, .int .i64 1]) ∧ W.grownBy W' none := by
  obtain ⟨K, hK⟩ := ev_weekOut h
  exact (civil_Week.calls K n k 0 0 1 W (hK K (Nat.le_refl _))).mono fun e w' ⟨he, hw⟩ => ⟨he, q_of hw⟩
theorem c_weeks (y k : Int) (h : 1 ≤ y ∧ y ≤ 9999 ∧ 0 ≤ k ∧ k ≤ 6) (W : World) : Calls Try.prog 29 #[.int .i64 y, .int .i64 k] W fun e W' => e = .returned (.tuple #[.int .i64 ((Civ.one (y + 1) k - Civ.one y k) / 7), .int .i64 0]) ∧ W.grownBy W' none := by
  obtain ⟨K, hK⟩ := Ev.eq (ev_weeks y k) (if_pos h)
  exact (civil_Weeks.calls K y k _ 0 W (hK K (Nat.le_refl _))).mono fun e w' ⟨he, hw⟩ => ⟨he, q_of hw⟩
theorem c_weeksOut (y k : Int) (h : ¬ (1 ≤ y ∧ y ≤ 9999 ∧ 0 ≤ k ∧ k ≤ 6)) (W : World) : Calls Try.prog 29 #[.int .i64 y, .int .i64 k] W fun e W' => e = .returned (.tuple #[.int .i64 0, .int .i64 1]) ∧ W.grownBy W' none := by
  obtain ⟨K, hK⟩ := Ev.eq (ev_weeks y k) (if_neg h)
  exact (civil_Weeks.calls K y k 0 1 W (hK K (Nat.le_refl _))).mono fun e w' ⟨he, hw⟩ => ⟨he, q_of hw⟩
/-- Whatever Weeks says: its answer, and what it says of w. -/
theorem c_weeksAny (y k : Int) (h3 : 0 ≤ k) (h4 : k ≤ 6) : ∃ all h : Int, (h = 0 ∨ h = 1) ∧ (h = 0 → all = (Civ.one (y + 1) k - Civ.one y k) / 7) ∧ ∀ W : World, Calls Try.prog 29 #[.int .i64 y, .int .i64 k] W fun e W' => e = .returned (.tuple #[.int .i64 all, .int .i64 h]) ∧ W.grownBy W' none := by
  by_cases h : 1 ≤ y ∧ y ≤ 9999 ∧ 0 ≤ k ∧ k ≤ 6
  · exact ⟨_, 0, .inl rfl, fun _ => rfl, c_weeks y k h⟩
  · exact ⟨0, 1, .inr rfl, fun h => absurd h (by decide), c_weeksOut y k h⟩
attribute [local go_sem ↓] Go.wp_at_zero Go.wp_at_succ
set_option maxRecDepth 100000 in
set_option maxHeartbeats 4000000 in
theorem turns_walk (n k : Int) (w : World) (hn1 : -9223372036854775808 ≤ n) (hn2 : n ≤ 9223372036854775807) :
    Calls Try.prog 9 #[.int .i64 n, .int .i64 k] w fun e w' => e = .returned (.bool true) ∧ Below w.heap.size w w' := by
  by_cases h : -719162 ≤ n ∧ n ≤ 2932896 ∧ 0 ≤ k ∧ k ≤ 6
  · obtain ⟨h1, h2, h3, h4⟩ := h
    obtain ⟨y, x, hw, y1, y2, C1⟩ := c_week h1 h2 h3 h4
    by_cases hlast : 2932889 < n
    · go_enter Try.func9, Try.ntmps9
      go_wp2_with fail
      refine (c_first _).mono ?_
      rintro e w1 ⟨rfl, g1⟩
      go_wp2_with fail
      refine (C1 _).mono ?_
      rintro e w2 ⟨rfl, g2⟩
      go_wp2_with fail
      refine (c_first _).mono ?_
      rintro e w3 ⟨rfl, g3⟩
      go_wp2_with fail
      go_ret
      exact ⟨rfl, q_below (q_trans (q_trans g1 g2) g3)⟩
    · obtain ⟨a, b, hw', _, _, C2⟩ := c_week (n := n + 1) (k := k) (by omega) (by omega) h3 h4
      obtain ⟨c, d, hw'', _, _, C3⟩ := c_week (n := n + 7) (k := k) (by omega) (by omega) h3 h4
      obtain ⟨all, h, he, he1, C4⟩ := c_weeksAny y k h3 h4
      obtain ⟨t1, t2, t3, t4⟩ := Civ.turns h3 h4 hw hw' hw''
      have b0 := Civ.wd_bd n
      have b1 := Civ.wd_bd (n + 1)
      have e7 : Civ.wd (n + 7) = Civ.wd n := by unfold Civ.wd; omega
      have e1 : Civ.wd (n + 1) = (Civ.wd n + 1) % 7 := by unfold Civ.wd; omega
      go_enter Try.func9, Try.ntmps9
      go_wp2_with fail
      refine (c_first _).mono ?_
      rintro e w1 ⟨rfl, g1⟩
      go_wp2_with fail
      refine (C1 _).mono ?_
      rintro e w2 ⟨rfl, g2⟩
      go_wp2_with fail
      refine (C2 _).mono ?_
      rintro e w3 ⟨rfl, g3⟩
      go_wp2_with fail
      refine (C3 _).mono ?_
      rintro e w4 ⟨rfl, g4⟩
      have Q := q_trans (q_trans (q_trans g1 g2) g3) g4
      clear g1 g2 g3 g4
      go_wp2_with fail
      refine (c_wd _ _).mono ?_
      rintro e v0 ⟨rfl, g⟩
      replace Q := q_trans Q g
      clear g
      go_wp2_with fail
      refine (c_wd _ _).mono ?_
      rintro e v1 ⟨rfl, g⟩
      replace Q := q_trans Q g
      clear g
      go_wp2_with fail
      refine (c_wd _ _).mono ?_
      rintro e v2 ⟨rfl, g⟩
      replace Q := q_trans Q g
      clear g
      go_wp2_with fail
      refine (c_wd _ _).mono ?_
      rintro e v3 ⟨rfl, g⟩
      replace Q := q_trans Q g
      clear g
      go_wp2_with fail
      clear e7 e1
      have same : (Civ.wd (n + 1) ≠ k ∧ y = a ∧ x = b) ∨ (k = Civ.wd (n + 1) ∧ ¬ a = y) ∨ (k = Civ.wd (n + 1) ∧ y = a ∧ ¬ b = x) := by
        by_cases q : Civ.wd (n + 1) = k
        · have : ¬ (a = y ∧ b = x) := fun hh => (t1.2 hh) q
          by_cases q2 : a = y
          · exact .inr (.inr ⟨q.symm, q2.symm, fun hh => this ⟨q2, hh⟩⟩)
          · exact .inr (.inl ⟨q.symm, q2⟩)
        · exact .inl ⟨q, (t1.1 q).1.symm, (t1.1 q).2.symm⟩
      clear t1 hw hw' hw'' C1 C2 C3
      have last : (d = x + 1 ∧ y = c) ∨ (d = 1 ∧ c = y + 1 ∧ h = 1) ∨ (d = 1 ∧ c = y + 1 ∧ h = 0 ∧ x = all) := by
        rcases t4 with ⟨u1, u2⟩ | ⟨u1, u2, u3⟩
        · exact .inl ⟨u1, u2.symm⟩
        · rcases he with e0 | e1
          · exact .inr (.inr ⟨u1, u2, e0, by rw [he1 e0]; exact u3⟩)
          · exact .inr (.inl ⟨u1, u2, e1⟩)
      clear t4 he he1
      obtain ⟨q, hq⟩ : ∃ q, q = Civ.wd (n + 1) := ⟨_, rfl⟩
      rw [← hq] at same b1
      have HQ := Lib.hid hq
      clear hq
      rcases same with ⟨s1, rfl, rfl⟩ | ⟨rfl, s1⟩ | ⟨rfl, rfl, s1⟩
      case' inl => have s2 : (q != k) = true := by simpa using s1
      case' inr.inl => have s2 : (a == y) = false := by simpa using s1
      case' inr.inr => have s2 : (b == x) = false := by simpa using s1
      all_goals
        refine (c_wd _ _).mono ?_
        rintro e v5 ⟨rfl, g⟩
        rw [← HQ.out]
        replace Q := q_trans Q g
        clear g
        rcases last with ⟨rfl, rfl⟩ | ⟨rfl, rfl, rfl⟩ | ⟨rfl, rfl, rfl, rfl⟩
        all_goals
          go_wp2_with fail
          refine (C4 _).mono ?_
          rintro e v6 ⟨rfl, g⟩
          replace Q := q_trans Q g
          clear g
          go_wp2_with fail
          refine (c_first _).mono ?_
          rintro e v7 ⟨rfl, g⟩
          replace Q := q_trans Q g
          clear g
          go_wp2_with fail
          go_ret
          exact ⟨rfl, q_below Q⟩
  · go_enter Try.func9, Try.ntmps9
    go_wp2_with fail
    refine (c_first _).mono ?_
    rintro e w1 ⟨rfl, g1⟩
    go_wp2_with fail
    refine (c_weekOut h _).mono ?_
    rintro e w2 ⟨rfl, g2⟩
    go_wp2_with fail
    refine (c_first _).mono ?_
    rintro e w3 ⟨rfl, g3⟩
    go_wp2_with fail
    go_ret
    exact ⟨rfl, q_below (q_trans (q_trans g1 g2) g3)⟩

end Go.Proofs.Ytpgikdohlhbgoaa.Pure
