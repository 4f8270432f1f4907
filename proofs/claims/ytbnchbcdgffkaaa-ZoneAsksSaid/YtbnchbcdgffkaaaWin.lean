/- The plain laws of a zone: what the moment of a local time answers. -/
import Derived.Test.YtbnchbcdgffkaaaOff
namespace Go.Proofs.Ytbnchbcdgffkaaa
set_option linter.unusedVariables false
/-- The offset next to a local time. -/
def offAt (a : Int) (r : Option Sh) (y : Int) : Int :=
  match r with
  | some s => if s.at_ ≤ y then s.off else a
  | none => a
section
variable {bs : Int} {P : Sh → Prop}
theorem IsUtc.win (h : Sep P) {l a : Int} {r : Option Sh} (hu : IsUtc bs P l a r) {y : Int} (y1 : l - 64800 ≤ y) (y2 : y ≤ l + 64800) : IsOff bs P y (offAt a r y) := by
  obtain ⟨⟨q, hq, rfl⟩, ha⟩ := hu
  cases r with
  | none =>
    refine ⟨q, ?_, rfl⟩
    cases q with
    | none =>
      intro t ht
      have := hq t ht
      have := ha t ht
      omega
    | some s =>
      refine ⟨hq.1, by have := hq.2.1; omega, fun t ht _ => hq.2.2 t ht (ha t ht)⟩
  | some s =>
    by_cases k : s.at_ ≤ y
    · refine ⟨some s, ⟨ha.1, k, fun t ht hy => ?_⟩, by simp only [offAt, if_pos k, offOf]⟩
      have := ha.2.1
      rcases h.gap s t ha.1 ht with rfl | g | g <;> omega
    · refine ⟨q, ?_, by simp only [offAt, if_neg k]⟩
      cases q with
      | none =>
        intro t ht
        have := ha.2.2 t ht (hq t ht)
        omega
      | some x =>
        refine ⟨hq.1, by have := hq.2.1; omega, fun t ht hy => ?_⟩
        by_cases e : t.at_ ≤ l - 64800
        · exact hq.2.2 t ht e
        · have := ha.2.2 t ht (by omega)
          omega
theorem IsUtc.offs (h : Sep P) (hb : OffOk bs) {l a : Int} {r : Option Sh} (hu : IsUtc bs P l a r) : OffOk a ∧ ∀ s, r = some s → OffOk s.off :=
  ⟨hu.off.bd h hb, fun s e => by subst e; exact h.off s hu.aft.1⟩
/-- The offset at u is that of the window. -/
theorem IsUtc.is (h : Sep P) (hb : OffOk bs) {l a : Int} {r : Option Sh} (hu : IsUtc bs P l a r) {y : Int} (hy : IsOff bs P y (l - y)) : l - y = offAt a r y := by
  obtain ⟨b1, b2⟩ := hy.bd h hb
  exact hy.uniq h (hu.win h (by omega) (by omega))
theorem utcOf_bd (h : Sep P) (hb : OffOk bs) {l a : Int} {r : Option Sh} (hu : IsUtc bs P l a r) : l - 64800 ≤ utcOf l a r ∧ utcOf l a r ≤ l + 64800 := by
  obtain ⟨⟨a1, a2⟩, hs⟩ := hu.offs h hb
  cases r with
  | none => simp only [utcOf]; omega
  | some s =>
    obtain ⟨s1, s2⟩ := hs s rfl
    simp only [utcOf]
    split
    · omega
    · split <;> omega
/-- P3.5: there and back. -/
theorem back_law (h : Sep P) (hb : OffOk bs) {l u a : Int} {r : Option Sh} (hl : IsOff bs P u (l - u)) (hu : IsUtc bs P l a r) :
    utcOf l a r ≤ u ∧ u - utcOf l a r ≤ 129600 ∧ IsOff bs P (utcOf l a r) (l - utcOf l a r) := by
  have e := hu.is h hb hl
  obtain ⟨v1, v2⟩ := utcOf_bd h hb hu
  obtain ⟨b1, b2⟩ := hl.bd h hb
  have w := hu.win h v1 v2
  refine (fun (q : utcOf l a r ≤ u ∧ l - utcOf l a r = offAt a r (utcOf l a r)) => ⟨q.1, by omega, by rw [q.2]; exact w⟩) ?_
  clear w
  cases r with
  | none =>
    simp only [utcOf, offAt] at *
    omega
  | some s =>
    simp only [utcOf, offAt] at *
    repeat' split
    all_goals (repeat' split at e) <;> omega
/-- P3.5: a gap. -/
theorem gap_law (h : Sep P) (hb : OffOk bs) {l m a : Int} {r : Option Sh} (hu : IsUtc bs P l a r) (hm : IsOff bs P (utcOf l a r) (m - utcOf l a r)) (hne : m ≠ l) :
    ∃ s, r = some s ∧ IsBef P (utcOf l a r) (some s) ∧ IsOff bs P (s.at_ - 1) a ∧ l < m ∧ m - l = s.off - a ∧ s.at_ + a ≤ l ∧ l < s.at_ + s.off := by
  obtain ⟨v1, v2⟩ := utcOf_bd h hb hu
  obtain ⟨⟨a1, a2⟩, hs⟩ := hu.offs h hb
  have w := hm.uniq h (hu.win h v1 v2)
  cases r with
  | none =>
    simp only [utcOf, offAt] at *
    omega
  | some s =>
    have ha := hu.aft
    have k1 : ¬ (l - a < s.at_) := fun k => by
      simp only [utcOf, offAt, if_pos k] at w
      rw [if_neg (by omega)] at w
      omega
    have k2 : ¬ (s.at_ ≤ l - s.off) := fun k => by
      simp only [utcOf, offAt, if_neg k1, if_pos k] at w
      omega
    have e : utcOf l a (some s) = l - a := by simp only [utcOf, if_neg k1, if_neg k2]
    rw [e] at w v1 v2 ⊢
    rw [show offAt a (some s) (l - a) = s.off by simp only [offAt]; rw [if_pos (by omega)]] at w
    have := ha.2.1
    refine ⟨s, rfl, ⟨ha.1, by omega, fun t ht hy => ?_⟩, ?_, by omega, by omega, by omega, by omega⟩
    · rcases h.gap s t ha.1 ht with rfl | g | g <;> omega
    · have q := hu.win h (y := s.at_ - 1) (by omega) (by omega)
      rw [show offAt a (some s) (s.at_ - 1) = a by simp only [offAt]; rw [if_neg (by omega)]] at q
      exact q
/-- P3.2: the first of them. -/
theorem first_law (h : Sep P) (hb : OffOk bs) {l a back : Int} {r : Option Sh} (hu : IsUtc bs P l a r) (hm : IsOff bs P (utcOf l a r) (l - utcOf l a r)) (h1 : 1 ≤ back) (hn : IsOff bs P (utcOf l a r - back) (l - (utcOf l a r - back))) : False := by
  have e := hu.is h hb hm
  have f := hu.is h hb hn
  cases r with
  | none =>
    simp only [utcOf, offAt] at *
    omega
  | some s =>
    simp only [utcOf, offAt] at *
    by_cases k1 : l - a < s.at_
    · simp only [if_pos k1] at *
      rw [if_neg (by omega)] at e f
      omega
    · by_cases k2 : s.at_ ≤ l - s.off
      · simp only [if_neg k1, if_pos k2] at *
        by_cases k3 : s.at_ ≤ l - s.off - back
        · rw [if_pos k3] at f; omega
        · rw [if_neg k3] at f; omega
      · simp only [if_neg k1, if_neg k2] at *
        rw [if_pos (by omega)] at e
        omega
/-- The offset behind a shift, and up to the next. -/
theorem IsBef.carry {u y : Int} {r q : Option Sh} (hr : IsBef P u r) (hq : IsAft P u q) (h1 : u ≤ y) (h2 : ∀ s, q = some s → y < s.at_) : IsBef P y r := by
  have k : ∀ t, P t → t.at_ ≤ y → t.at_ ≤ u := fun t ht hy => by
    cases q with
    | none => exact hq t ht
    | some s =>
      by_cases e : t.at_ ≤ u
      · exact e
      · have := hq.2.2 t ht (by omega)
        have := h2 s rfl
        omega
  cases r with
  | none =>
    intro t ht
    by_cases e : y < t.at_
    · exact e
    · have := hr t ht
      have := k t ht (by omega)
      omega
  | some s => exact ⟨hr.1, by have := hr.2.1; omega, fun t ht hy => hr.2.2 t ht (k t ht hy)⟩
theorem IsBef.self {u : Int} {s : Sh} (hr : IsBef P u (some s)) : IsBef P s.at_ (some s) := ⟨hr.1, Int.le_refl _, fun t ht hy => hy⟩
theorem IsAft.self (h : Sep P) {u : Int} {s : Sh} (hr : IsAft P u (some s)) : IsBef P s.at_ (some s) := ⟨hr.1, Int.le_refl _, fun t ht hy => hy⟩
theorem apart_law (h : Sep P) {u : Int} {s t : Sh} (hs : IsBef P u (some s)) (ht : IsAft P u (some t)) : s.at_ + 200000 ≤ t.at_ := by
  have := hs.2.1
  have := ht.2.1
  rcases h.gap s t hs.1 ht.1 with rfl | g | g <;> omega
end
/-- P3.1: a shift more at the end. -/
theorem more_law {L : List Sh} {fr fr' u : Int} {s : Sh} {r q : Option Sh} (h' : MayS (L ++ [s])) (hr : IsBef (IsShift L [] fr) u r) (hq : IsBef (IsShift (L ++ [s]) [] fr') u q) : (s.at_ ≤ u → q = some s) ∧ (u < s.at_ → q = r) := by
  have hS : Sep (IsShift (L ++ [s]) [] 0) := (Ok.mk h' (.inl ⟨rfl, rfl⟩)).sep
  have e0 : ∀ {M : List Sh} {f g : Int} {t : Sh}, IsShift M [] f t → IsShift M [] g t := fun h => by
    rcases h with h | ⟨_, _, _, _, h, _⟩
    · exact .inl h
    · cases h
  have e1 : ∀ {M : List Sh} {f : Int} {t : Sh}, IsShift M [] f t → t ∈ M := fun h => by
    rcases h with h | ⟨_, _, _, _, h, _⟩
    · exact h
    · cases h
  have hq' : IsBef (IsShift (L ++ [s]) [] 0) u q := by
    cases q with
    | none => exact fun t ht => hq t (e0 ht)
    | some x => exact ⟨e0 hq.1, hq.2.1, fun t ht => hq.2.2 t (e0 ht)⟩
  have hlt : ∀ t, t ∈ L → t.at_ < s.at_ := fun t ht => by
    obtain ⟨i, hi, rfl⟩ := List.getElem_of_mem ht
    have := mayS_lt h' (i := i) (k := L.length) (by simp) hi
    simp only [List.getElem_append_left hi, List.getElem_concat_length] at this
    omega
  have hin : IsShift (L ++ [s]) [] 0 s := .inl (List.mem_append_right _ (List.mem_singleton.mpr rfl))
  refine ⟨fun k => hq'.uniq hS ⟨hin, k, fun t ht _ => ?_⟩, fun k => ?_⟩
  · rcases List.mem_append.mp (e1 ht) with h | h
    · exact Int.le_of_lt (hlt t h)
    · rw [List.mem_singleton.mp h]; exact Int.le_refl _
  · refine hq'.uniq hS ?_
    cases r with
    | none =>
      intro t ht
      rcases List.mem_append.mp (e1 ht) with h | h
      · exact hr t (.inl h)
      · rw [List.mem_singleton.mp h]; exact k
    | some x =>
      refine ⟨.inl (List.mem_append_left _ (e1 hr.1)), hr.2.1, fun t ht hu => ?_⟩
      rcases List.mem_append.mp (e1 ht) with h | h
      · exact hr.2.2 t (.inl h) hu
      · rw [List.mem_singleton.mp h] at hu; omega
/- A cycle of 400 years. -/
theorem leap_cyc (y : Int) : Civ.leap (y + 400) = Civ.leap y := by
  have a : ((y + 400) % 4 = 0) = (y % 4 = 0) := by apply propext; omega
  have b : ((y + 400) % 100 = 0) = (y % 100 = 0) := by apply propext; omega
  have c : ((y + 400) % 400 = 0) = (y % 400 = 0) := by apply propext; omega
  unfold Civ.leap
  simp only [a, b, c, ne_eq]
theorem lp_cyc (y : Int) : Civ.lp (y + 400) = Civ.lp y := by unfold Civ.lp; rw [leap_cyc]
theorem len_cyc (y m : Int) : Civ.len (y + 400) m = Civ.len y m := by unfold Civ.len; rw [lp_cyc]
theorem fst_cyc (y : Int) : Civ.fst (y + 400) = Civ.fst y + 146097 := by unfold Civ.fst; omega
theorem cum_cyc (y m : Int) : Civ.cum (y + 400) m = Civ.cum y m := by unfold Civ.cum; rw [lp_cyc]
theorem num_cyc (y m d : Int) : Civ.num (y + 400) m d = Civ.num y m d + 146097 := by unfold Civ.num; rw [fst_cyc, cum_cyc]; omega
theorem wd_cyc (n : Int) : Civ.wd (n + 146097) = Civ.wd n := by unfold Civ.wd; omega
theorem nth_cyc (y m n w : Int) : nthOf (y + 400) m n w = nthOf y m n w := by
  have e : day0 (y + 400) m w = day0 y m w := by unfold day0; rw [num_cyc, wd_cyc]
  unfold nthOf
  rw [e, len_cyc]
theorem yearAt_cyc (y : Int) (x : Yr) : yearAt (y + 400) x = ⟨(yearAt y x).at_ + 12622780800, x.o⟩ := by
  simp only [yearAt]
  rw [nth_cyc, num_cyc]
  congr 1
  omega
/-- P3.1: a cycle later. -/
theorem years_law {Y : List Yr} {fr u : Int} (h : Ok [] Y fr) (hc : MayT (u + 12622780800)) {s : Sh} (hs : IsBef (IsShift [] Y fr) u (some s)) : IsBef (IsShift [] Y fr) (u + 12622780800) (some ⟨s.at_ + 12622780800, s.off⟩) := by
  obtain ⟨hP, hu, hm⟩ := hs
  rcases hP with hP | ⟨y, x, y1, y2, hx, rfl⟩
  · cases hP
  obtain ⟨hX, f1, f2⟩ := h.yr hx
  have b := yearAt_bd hX (show 1 ≤ y by omega) y2
  have y3 : y + 400 ≤ 9999 := by
    by_cases k : y + 400 ≤ 9999
    · exact k
    · have m := Civ.fst_mono (show 10000 ≤ y + 400 by omega)
      rw [fst_cyc, show Civ.fst 10000 = 2932897 by decide] at m
      have := hc.2
      omega
  refine ⟨.inr ⟨y + 400, x, by omega, y3, hx, (yearAt_cyc y x).symm⟩, (show (yearAt y x).at_ + 12622780800 ≤ u + 12622780800 by omega), fun t ht hy => ?_⟩
  rcases ht with ht | ⟨k, z, k1, k2, hz, rfl⟩
  · cases ht
  have hZ := (h.yr hz).1
  by_cases q : fr ≤ k - 400
  · have e := yearAt_cyc (k - 400) z
    rw [show k - 400 + 400 = k by omega] at e
    have e2 : (yearAt k z).at_ = (yearAt (k - 400) z).at_ + 12622780800 := by rw [e]
    have := hm (yearAt (k - 400) z) (.inr ⟨k - 400, z, q, by omega, hz, rfl⟩) (by omega)
    show (yearAt k z).at_ ≤ (yearAt y x).at_ + 12622780800
    omega
  · have c := (yearAt_bd hZ (show 1 ≤ k by omega) k2).2
    have m := Civ.fst_mono (show k + 1 ≤ y + 400 by omega)
    rw [fst_cyc] at m
    show (yearAt k z).at_ ≤ (yearAt y x).at_ + 12622780800
    omega
end Go.Proofs.Ytbnchbcdgffkaaa
