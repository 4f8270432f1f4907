/- Days and dates in plain Lean. -/
import Derived.RowKit
namespace Go.Proofs.YtkeeocidinnnnaaDoor
namespace Civ
def leap (y : Int) : Bool := decide (y % 4 = 0) && (decide (y % 100 ≠ 0) || decide (y % 400 = 0))
def lp (y : Int) : Int := if leap y then 1 else 0
def len (y m : Int) : Int :=
  if m = 4 ∨ m = 6 ∨ m = 9 ∨ m = 11 then 30 else if m = 2 then 28 + lp y
  else if m = 1 ∨ m = 3 ∨ m = 5 ∨ m = 7 ∨ m = 8 ∨ m = 10 ∨ m = 12 then 31 else 0
def fst (y : Int) : Int := 365*(y-1) + (y-1)/4 - (y-1)/100 + (y-1)/400 - 719162
/-- days of the year ahead of a month -/
def cum (y m : Int) : Int :=
  if m ≤ 1 then 0 else if m = 2 then 31 else 
  (if m = 3 then 59 else if m = 4 then 90 else if m = 5 then 120 else if m = 6 then 151 else if m = 7 then 181 else if m = 8 then 212
   else if m = 9 then 243 else if m = 10 then 273 else if m = 11 then 304 else if m = 12 then 334 else 365) + lp y
def num (y m d : Int) : Int := fst y + cum y m + d - 1
def valid (y m d : Int) : Prop := 1 ≤ y ∧ y ≤ 9999 ∧ 1 ≤ d ∧ d ≤ len y m
theorem leap_iff (y : Int) : leap y = true ↔ (y % 4 = 0 ∧ (y % 100 ≠ 0 ∨ y % 400 = 0)) := by simp [leap]
theorem lp_eq (y : Int) : lp y = y / 4 - (y-1)/4 - (y/100 - (y-1)/100) + (y/400 - (y-1)/400) := by
  unfold lp
  by_cases h : leap y = true
  · rw [if_pos h]; rw [leap_iff] at h; omega
  · rw [if_neg h]; rw [leap_iff] at h; omega
theorem lp01 (y : Int) : 0 ≤ lp y ∧ lp y ≤ 1 := by unfold lp; split <;> omega
theorem fst_succ (y : Int) : fst (y+1) = fst y + 365 + lp y := by
  rw [lp_eq]; unfold fst; rw [show y + 1 - 1 = y by omega]; omega
def prog (y m d : Int) : Int :=
  let y' := (if m < 3 then y - 1 else y) + 400
  let m' := if m < 3 then m + 12 else m
  365*y' + y'/4 - y'/100 + y'/400 + (153*(m'-3)+2)/5 + d - 719469 - 146097
theorem prog_num (y m d : Int) (h1 : 1 ≤ m) (h2 : m ≤ 12) : prog y m d = num y m d := by
  have hl := lp_eq y
  unfold prog num cum fst
  rcases (show m = 1 ∨ m = 2 ∨ m = 3 ∨ m = 4 ∨ m = 5 ∨ m = 6 ∨ m = 7 ∨ m = 8 ∨ m = 9 ∨ m = 10 ∨ m = 11 ∨ m = 12 by omega) with h | h | h | h | h | h | h | h | h | h | h | h <;> subst h <;> simp <;> omega
theorem cum_succ (y m : Int) (h1 : 1 ≤ m) (h2 : m ≤ 12) : cum y (m+1) = cum y m + len y m := by
  rcases (show m = 1 ∨ m = 2 ∨ m = 3 ∨ m = 4 ∨ m = 5 ∨ m = 6 ∨ m = 7 ∨ m = 8 ∨ m = 9 ∨ m = 10 ∨ m = 11 ∨ m = 12 by omega) with h | h | h | h | h | h | h | h | h | h | h | h <;> subst h <;> simp [cum, len] <;> omega
theorem len_pos (y m : Int) (h1 : 1 ≤ m) (h2 : m ≤ 12) : 28 ≤ len y m ∧ len y m ≤ 31 := by
  have := lp01 y
  rcases (show m = 1 ∨ m = 2 ∨ m = 3 ∨ m = 4 ∨ m = 5 ∨ m = 6 ∨ m = 7 ∨ m = 8 ∨ m = 9 ∨ m = 10 ∨ m = 11 ∨ m = 12 by omega) with h | h | h | h | h | h | h | h | h | h | h | h <;> subst h <;> simp [len] <;> omega
theorem len_out (y m : Int) (h : m < 1 ∨ 12 < m) : len y m = 0 := by
  unfold len; rw [if_neg (by omega), if_neg (by omega), if_neg (by omega)]
theorem valid_m {y m d : Int} (h : valid y m d) : 1 ≤ m ∧ m ≤ 12 := by
  obtain ⟨_, _, h3, h4⟩ := h
  by_cases hm : 1 ≤ m ∧ m ≤ 12
  · exact hm
  · rw [len_out y m (by omega)] at h4; omega
theorem fst_mono {a b : Int} (h : a ≤ b) : fst a ≤ fst b := by unfold fst; omega
theorem cum13 (y : Int) : cum y 13 = 365 + lp y := by simp [cum]
theorem cum_bd (y m : Int) (h1 : 1 ≤ m) (h2 : m ≤ 13) : 0 ≤ cum y m ∧ cum y m ≤ 365 + lp y := by
  have := lp01 y
  rcases (show m = 1 ∨ m = 2 ∨ m = 3 ∨ m = 4 ∨ m = 5 ∨ m = 6 ∨ m = 7 ∨ m = 8 ∨ m = 9 ∨ m = 10 ∨ m = 11 ∨ m = 12 ∨ m = 13 by omega) with h | h | h | h | h | h | h | h | h | h | h | h | h <;> subst h <;> simp [cum] <;> omega
theorem cum_mono {y a b : Int} (h1 : 1 ≤ a) (h : a < b) (h2 : b ≤ 13) : cum y a + len y a ≤ cum y b := by
  have := lp01 y
  rw [← cum_succ y a h1 (by omega)]
  unfold cum
  repeat' split
  all_goals omega
/-- a valid date lies within its year -/
theorem num_in {y m d : Int} (h : valid y m d) : fst y ≤ num y m d ∧ num y m d < fst (y+1) := by
  have hm := valid_m h
  have := cum_bd y m hm.1 (by omega)
  have hs := cum_succ y m hm.1 hm.2
  have hb := cum_bd y (m+1) (by omega) (by omega)
  obtain ⟨_, _, h3, h4⟩ := h
  rw [fst_succ]; unfold num; omega
theorem num_bd {y m d : Int} (h : valid y m d) : -719162 ≤ num y m d ∧ num y m d ≤ 2932896 := by
  have h1 := num_in h
  have h2 : fst 1 ≤ fst y := fst_mono h.1
  have h3 : fst (y+1) ≤ fst 10000 := fst_mono (by have := h.2.1; omega)
  have e1 : fst 1 = -719162 := by decide
  have e2 : fst 10000 = 2932897 := by decide
  omega
theorem num_inj {y m d a b c : Int} (h : valid y m d) (k : valid a b c) (e : num y m d = num a b c) : y = a ∧ m = b ∧ d = c := by
  have h1 := num_in h
  have k1 := num_in k
  have hy : y = a := by
    rcases Int.lt_trichotomy y a with hl | hl | hl
    · have : fst (y+1) ≤ fst a := fst_mono (by omega)
      omega
    · exact hl
    · have : fst (a+1) ≤ fst y := fst_mono (by omega)
      omega
  subst hy
  have hm := valid_m h
  have km := valid_m k
  have e' : cum y m + d = cum y b + c := by unfold num at e; omega
  have : m = b := by
    rcases Int.lt_trichotomy m b with hl | hl | hl
    · have := cum_mono (y := y) hm.1 hl (by omega)
      have := h.2.2.2; have := k.2.2.1; omega
    · exact hl
    · have := cum_mono (y := y) km.1 hl (by omega)
      have := k.2.2.2; have := h.2.2.1; omega
  subst this
  exact ⟨rfl, rfl, by omega⟩
theorem num_lt {y m d a b c : Int} (h : valid y m d) (k : valid a b c) : (num y m d > num a b c) ↔ (y > a ∨ y = a ∧ (m > b ∨ m = b ∧ d > c)) := by
  have h1 := num_in h
  have k1 := num_in k
  have hm := valid_m h
  have km := valid_m k
  rcases Int.lt_trichotomy y a with hl | hl | hl
  · have : fst (y+1) ≤ fst a := fst_mono (by omega)
    omega
  · subst hl
    have e : ∀ m d, num y m d = fst y + cum y m + d - 1 := fun _ _ => rfl
    rw [e, e]
    rcases Int.lt_trichotomy m b with hl | hl | hl
    · have := cum_mono (y := y) hm.1 hl (by omega)
      have := h.2.2.2; have := k.2.2.1; omega
    · subst hl; omega
    · have := cum_mono (y := y) km.1 hl (by omega)
      have := k.2.2.2; have := h.2.2.1; omega
  · have : fst (a+1) ≤ fst y := fst_mono (by omega)
    omega
/-- the weekday, 0 Monday -/
def wd (n : Int) : Int := (n + 3) % 7
theorem wd_bd (n : Int) : 0 ≤ wd n ∧ wd n < 7 := by unfold wd; omega
def one (y k : Int) : Int := fst y + 3 - (wd (fst y + 3) - k + 7) % 7
theorem one_near (y k : Int) (_h1 : 0 ≤ k) (_h2 : k ≤ 6) : fst y - 3 ≤ one y k ∧ one y k ≤ fst y + 3 ∧ (one y k + 3 - k) % 7 = 0 := by
  unfold one wd; omega
theorem fst_lt {a b : Int} (h : a < b) : fst a + 365 ≤ fst b := by
  have h1 := fst_succ a
  have h2 := lp01 a
  have h3 : fst (a+1) ≤ fst b := fst_mono (by omega)
  omega
theorem one_lt {a b k : Int} (h1 : 0 ≤ k) (h2 : k ≤ 6) (h : a < b) : one a k + 359 ≤ one b k := by
  have := one_near a k h1 h2
  have := one_near b k h1 h2
  have := fst_lt h
  omega
theorem one_succ (y k : Int) (h1 : 0 ≤ k) (h2 : k ≤ 6) : one (y+1) k = one y k + 364 ∨ one (y+1) k = one y k + 371 := by
  have := one_near y k h1 h2
  have := one_near (y+1) k h1 h2
  have := fst_succ y
  have := lp01 y
  omega
/-- day n lies in week w of year y -/
def inWeek (n k y w : Int) : Prop := one y k ≤ n ∧ n < one (y+1) k ∧ w = (n - one y k) / 7 + 1
theorem inWeek_uniq {n k y w a b : Int} (h1 : 0 ≤ k) (h2 : k ≤ 6) (h : inWeek n k y w) (g : inWeek n k a b) : y = a ∧ w = b := by
  obtain ⟨p, q, rfl⟩ := h
  obtain ⟨r, s, rfl⟩ := g
  have : y = a := by
    rcases Int.lt_trichotomy y a with hl | hl | hl
    · rcases Int.lt_or_eq_of_le (show y + 1 ≤ a by omega) with e | e
      · have := one_lt h1 h2 e; omega
      · subst e; omega
    · exact hl
    · rcases Int.lt_or_eq_of_le (show a + 1 ≤ y by omega) with e | e
      · have := one_lt h1 h2 e; omega
      · subst e; omega
  subst this
  exact ⟨rfl, rfl⟩
/-- the year of a day's week is its own one, or a neighbour -/
theorem inWeek_of {n k y : Int} (h1 : 0 ≤ k) (h2 : k ≤ 6) (hy : fst y ≤ n) (hy' : n < fst (y+1)) (Y : Int) (hY : Y = if n < one y k then y - 1 else if n ≥ one (y+1) k then y + 1 else y) :
    inWeek n k Y ((n - one Y k) / 7 + 1) := by
  have := one_near y k h1 h2
  have := one_near (y+1) k h1 h2
  have a := one_succ y k h1 h2
  have b := one_succ (y-1) k h1 h2
  have c := one_succ (y+1) k h1 h2
  rw [show y - 1 + 1 = y by omega] at b
  unfold inWeek
  by_cases e : n < one y k
  · rw [if_pos e] at hY; subst hY; rw [show y - 1 + 1 = y by omega]; exact ⟨by omega, by omega, rfl⟩
  · rw [if_neg e] at hY
    by_cases e' : n ≥ one (y+1) k
    · rw [if_pos e'] at hY; subst hY; exact ⟨by omega, by omega, rfl⟩
    · rw [if_neg e'] at hY; subst hY; exact ⟨by omega, by omega, rfl⟩
/-- how the program says it -/
theorem one_prog (y k : Int) (_h1 : 0 ≤ k) (_h2 : k ≤ 6) : (if (wd (fst y) - k + 7) % 7 ≤ 3 then fst y - (wd (fst y) - k + 7) % 7 else fst y - (wd (fst y) - k + 7) % 7 + 7) = one y k := by
  unfold one wd; split <;> omega
theorem turns {n k y w a b c d : Int} (h1 : 0 ≤ k) (h2 : k ≤ 6) (h : inWeek n k y w) (g : inWeek (n+1) k a b) (i : inWeek (n+7) k c d) :
    ((wd (n+1) ≠ k) ↔ (a = y ∧ b = w)) ∧ 1 ≤ w ∧ w ≤ 53 ∧ (d = w + 1 ∧ c = y ∨ d = 1 ∧ c = y + 1 ∧ w = (one (y+1) k - one y k) / 7) := by
  have s := one_succ y k h1 h2
  have s' := one_succ (y+1) k h1 h2
  have t := one_near y k h1 h2
  have t' := one_near (y+1) k h1 h2
  have key : inWeek (n+1) k (if n + 1 < one (y+1) k then y else y+1) (if n + 1 < one (y+1) k then (n + 1 - one y k) / 7 + 1 else 1) := by
    obtain ⟨p, q, r⟩ := h
    unfold inWeek
    by_cases e : n + 1 < one (y+1) k
    · rw [if_pos e, if_pos e]; omega
    · rw [if_neg e, if_neg e]; omega
  have key7 : inWeek (n+7) k (if n + 7 < one (y+1) k then y else y+1) (if n + 7 < one (y+1) k then (n + 7 - one y k) / 7 + 1 else 1) := by
    obtain ⟨p, q, r⟩ := h
    unfold inWeek
    by_cases e : n + 7 < one (y+1) k
    · rw [if_pos e, if_pos e]; omega
    · rw [if_neg e, if_neg e]; omega
  obtain ⟨ea, eb⟩ := inWeek_uniq h1 h2 g key
  obtain ⟨ec, ed⟩ := inWeek_uniq h1 h2 i key7
  obtain ⟨p, q, r⟩ := h
  clear g i key key7
  have ew : wd (n+1) = (n + 4) % 7 := by unfold wd; omega
  rw [ew]
  by_cases e : n + 1 < one (y+1) k <;> by_cases e' : n + 7 < one (y+1) k
  all_goals (first | rw [if_pos e] at ea eb | rw [if_neg e] at ea eb); (first | rw [if_pos e'] at ec ed | rw [if_neg e'] at ec ed); subst ea eb ec ed; omega
end Civ
end Go.Proofs.YtkeeocidinnnnaaDoor
