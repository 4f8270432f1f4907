/- The plain law of shifts: those of a zone lie apart; near finds the ones next to a moment. -/
import Derived.Test.YtbnchbcdgffkaaaBef
namespace Go.Proofs.Ytbnchbcdgffkaaa
set_option linter.unusedVariables false
/-- A shift of the zone. -/
def IsShift (L : List Sh) (Y : List Yr) (fr : Int) (s : Sh) : Prop := s ∈ L ∨ ∃ y x, fr ≤ y ∧ y ≤ 9999 ∧ x ∈ Y ∧ s = yearAt y x
structure Sep (P : Sh → Prop) : Prop where
  gap : ∀ s t, P s → P t → s = t ∨ s.at_ + 200000 ≤ t.at_ ∨ t.at_ + 200000 ≤ s.at_
  off : ∀ s, P s → OffOk s.off
/-- The last that is not later. -/
def IsBef (P : Sh → Prop) (u : Int) : Option Sh → Prop
  | some s => P s ∧ s.at_ ≤ u ∧ ∀ t, P t → t.at_ ≤ u → t.at_ ≤ s.at_
  | none => ∀ t, P t → u < t.at_
/-- The first that is later. -/
def IsAft (P : Sh → Prop) (u : Int) : Option Sh → Prop
  | some s => P s ∧ u < s.at_ ∧ ∀ t, P t → u < t.at_ → s.at_ ≤ t.at_
  | none => ∀ t, P t → t.at_ ≤ u
theorem Sep.eq {P : Sh → Prop} (h : Sep P) {s t : Sh} (hs : P s) (ht : P t) (e : s.at_ = t.at_) : s = t := by
  rcases h.gap s t hs ht with h | h | h
  · exact h
  · omega
  · omega
theorem IsBef.uniq {P : Sh → Prop} (h : Sep P) {u : Int} {r q : Option Sh} (a : IsBef P u r) (b : IsBef P u q) : r = q := by
  cases r with
  | none =>
    cases q with
    | none => rfl
    | some s => have := a s b.1; have := b.2.1; omega
  | some s =>
    cases q with
    | none => have := b s a.1; have := a.2.1; omega
    | some t =>
      have h1 := a.2.2 t b.1 b.2.1
      have h2 := b.2.2 s a.1 a.2.1
      rw [h.eq a.1 b.1 (by omega)]
theorem IsAft.uniq {P : Sh → Prop} (h : Sep P) {u : Int} {r q : Option Sh} (a : IsAft P u r) (b : IsAft P u q) : r = q := by
  cases r with
  | none =>
    cases q with
    | none => rfl
    | some s => have := a s b.1; have := b.2.1; omega
  | some s =>
    cases q with
    | none => have := b s a.1; have := a.2.1; omega
    | some t =>
      have h1 := a.2.2 t b.1 b.2.1
      have h2 := b.2.2 s a.1 a.2.1
      rw [h.eq a.1 b.1 (by omega)]
def Up (N : List Sh) : Prop := N.Pairwise fun s t => s.at_ < t.at_
theorem last_take {u : Int} {N : List Sh} (hN : Up N) (j : Nat) (hj : j ≤ N.length) : IsBef (fun s => s ∈ N.take j) u (lastS u (N.take j)) := by
  induction j with
  | zero => intro t ht; simp at ht
  | succ j ih =>
    have hlt : j < N.length := by omega
    have ih := ih (by omega)
    have hin : ∀ t, t ∈ N.take (j + 1) → t = N[j] ∨ (t ∈ N.take j ∧ t.at_ < N[j].at_) := fun t ht => by
      rw [List.take_succ_eq_append_getElem hlt, List.mem_append] at ht
      rcases ht with ht | ht
      · right
        refine ⟨ht, ?_⟩
        obtain ⟨k, hk, rfl⟩ := List.getElem_of_mem ht
        rw [List.length_take] at hk
        rw [List.getElem_take]
        exact (List.pairwise_iff_getElem.mp hN) k j (by omega) hlt (by omega)
      · left; simpa using ht
    have hmem : N[j] ∈ N.take (j + 1) := by rw [List.take_succ_eq_append_getElem hlt]; exact List.mem_append_right _ (List.mem_singleton.mpr rfl)
    have hsub : ∀ t, t ∈ N.take j → t ∈ N.take (j + 1) := fun t ht => by rw [List.take_succ_eq_append_getElem hlt]; exact List.mem_append_left _ ht
    rw [lastS_snoc u N j hlt]
    by_cases q : N[j].at_ ≤ u
    · rw [if_pos q]
      refine ⟨hmem, q, fun t ht _ => ?_⟩
      rcases hin t ht with rfl | h
      · exact Int.le_refl _
      · omega
    · rw [if_neg q]
      cases hr : lastS u (N.take j) with
      | none =>
        rw [hr] at ih
        intro t ht
        rcases hin t ht with rfl | h
        · omega
        · exact ih t h.1
      | some s =>
        rw [hr] at ih
        refine ⟨hsub _ ih.1, ih.2.1, fun t ht hu => ?_⟩
        rcases hin t ht with rfl | h
        · omega
        · exact ih.2.2 t h.1 hu
theorem last_bef {u : Int} {N : List Sh} (hN : Up N) : IsBef (fun s => s ∈ N) u (lastS u N) := by
  have := last_take (u := u) hN N.length (Nat.le_refl _)
  rwa [List.take_length] at this
theorem first_aft {u : Int} {N : List Sh} (hN : Up N) : IsAft (fun s => s ∈ N) u (firstS u N) := by
  induction N with
  | nil => intro t ht; cases ht
  | cons s N ih =>
    have hN' := List.pairwise_cons.mp hN
    have ih := ih hN'.2
    unfold firstS
    rw [List.find?_cons]
    by_cases q : u < s.at_
    · rw [decide_eq_true q]
      refine ⟨List.mem_cons_self, q, fun t ht _ => ?_⟩
      rcases List.mem_cons.mp ht with rfl | h
      · exact Int.le_refl _
      · exact Int.le_of_lt (hN'.1 t h)
    · rw [decide_eq_false q]
      simp only
      change IsAft _ u (firstS u N)
      cases hr : firstS u N with
      | none =>
        rw [hr] at ih
        intro t ht
        rcases List.mem_cons.mp ht with rfl | h
        · omega
        · exact ih t h
      | some x =>
        rw [hr] at ih
        refine ⟨List.mem_cons_of_mem _ ih.1, ih.2.1, fun t ht hu => ?_⟩
        rcases List.mem_cons.mp ht with rfl | h
        · omega
        · exact ih.2.2 t h hu
/-- A list that holds the zone's shifts next to u. -/
structure Next (P : Sh → Prop) (u : Int) (N : List Sh) : Prop where
  up : Up N
  sub : ∀ s, s ∈ N → P s
  lo : ∀ t, P t → t.at_ ≤ u → ∃ s, s ∈ N ∧ s.at_ ≤ u ∧ t.at_ ≤ s.at_
  hi : ∀ t, P t → u < t.at_ → ∃ s, s ∈ N ∧ u < s.at_ ∧ s.at_ ≤ t.at_
theorem Next.bef {P : Sh → Prop} {u : Int} {N : List Sh} (h : Next P u N) : IsBef P u (lastS u N) := by
  have b := last_bef (u := u) h.up
  cases hr : lastS u N with
  | none =>
    rw [hr] at b
    intro t ht
    by_cases q : u < t.at_
    · exact q
    · obtain ⟨s, h1, h2, _⟩ := h.lo t ht (by omega)
      have := b s h1
      omega
  | some x =>
    rw [hr] at b
    refine ⟨h.sub _ b.1, b.2.1, fun t ht hu => ?_⟩
    obtain ⟨s, h1, h2, h3⟩ := h.lo t ht hu
    have := b.2.2 s h1 h2
    omega
theorem Next.aft {P : Sh → Prop} {u : Int} {N : List Sh} (h : Next P u N) : IsAft P u (firstS u N) := by
  have b := first_aft (u := u) h.up
  cases hr : firstS u N with
  | none =>
    rw [hr] at b
    intro t ht
    by_cases q : u < t.at_
    · obtain ⟨s, h1, h2, _⟩ := h.hi t ht q
      have := b s h1
      omega
    · omega
  | some x =>
    rw [hr] at b
    refine ⟨h.sub _ b.1, b.2.1, fun t ht hu => ?_⟩
    obtain ⟨s, h1, h2, h3⟩ := h.hi t ht hu
    have := b.2.2 s h1 h2
    omega
theorem num_eq (y m d : Int) : Civ.num y m d = Civ.fst y + Civ.cum y m + d - 1 := rfl
theorem yearAt_day {y : Int} {x : Yr} (hx : YrOk x) (y1 : 1 ≤ y) (y2 : y ≤ 9999) : Civ.valid y x.m (nthOf y x.m x.n x.w) := valid_nth y1 y2 hx.m1 hx.m2 hx.n1 hx.n2
theorem yearAt_bd {y : Int} {x : Yr} (hx : YrOk x) (y1 : 1 ≤ y) (y2 : y ≤ 9999) : Civ.fst y * 86400 ≤ (yearAt y x).at_ ∧ (yearAt y x).at_ < Civ.fst (y + 1) * 86400 := by
  have := Civ.num_in (yearAt_day hx y1 y2)
  have h1 := hx.s1
  have h2 := hx.s2
  simp only [yearAt]
  omega
/-- Two months apart in one year. -/
theorem months_gap {y : Int} {a b : Yr} (ha : YrOk a) (hb : YrOk b) (y1 : 1 ≤ y) (y2 : y ≤ 9999) (h : 2 ≤ b.m - a.m) : (yearAt y a).at_ + 200000 ≤ (yearAt y b).at_ := by
  obtain ⟨_, _, d1, d2⟩ := yearAt_day ha y1 y2
  obtain ⟨_, _, e1, e2⟩ := yearAt_day hb y1 y2
  have := ha.s2
  have := hb.s1
  have am1 := ha.m1
  have am2 := ha.m2
  have bm1 := hb.m1
  have bm2 := hb.m2
  have c1 := Civ.cum_succ y a.m am1 am2
  have c2 := Civ.cum_mono (y := y) (a := a.m + 1) (b := b.m) (by omega) (by omega) (by omega)
  have l := Civ.len_pos y (a.m + 1) (by omega) (by omega)
  simp only [yearAt, num_eq]
  omega
/-- .. and from one year to the next. -/
theorem years_gap {y : Int} {a b : Yr} (ha : YrOk a) (hb : YrOk b) (y1 : 1 ≤ y) (y2 : y + 1 ≤ 9999) (h : 2 ≤ b.m + 12 - a.m) : (yearAt y a).at_ + 200000 ≤ (yearAt (y + 1) b).at_ := by
  obtain ⟨_, _, d1, d2⟩ := yearAt_day ha y1 (by omega)
  obtain ⟨_, _, e1, e2⟩ := yearAt_day hb (show 1 ≤ y + 1 by omega) y2
  have := ha.s2
  have := hb.s1
  have am1 := ha.m1
  have am2 := ha.m2
  have bm1 := hb.m1
  have bm2 := hb.m2
  have c1 := Civ.cum_succ y a.m am1 am2
  have c13 := Civ.cum13 y
  have fs := Civ.fst_succ y
  have cb := Civ.cum_bd (y + 1) b.m bm1 (by omega)
  simp only [yearAt, num_eq]
  by_cases q : a.m ≤ 11
  · have c2 := Civ.cum_mono (y := y) (a := a.m + 1) (b := 13) (by omega) (by omega) (by omega)
    have l := Civ.len_pos y (a.m + 1) (by omega) (by omega)
    omega
  · have e : a.m = 12 := by omega
    have c2 := Civ.cum_mono (y := y + 1) (a := 1) (b := b.m) (by omega) (by omega) (by omega)
    have l := Civ.len_pos (y + 1) 1 (by omega) (by omega)
    have c0 : Civ.cum (y + 1) 1 = 0 := by simp [Civ.cum]
    rw [e] at c1 d2 ⊢
    have : Civ.cum y (12 + 1) = Civ.cum y 13 := rfl
    omega
theorem years_far {y z : Int} {a b : Yr} (ha : YrOk a) (hb : YrOk b) (y1 : 1 ≤ y) (y2 : y + 1 < z) (z2 : z ≤ 9999) : (yearAt y a).at_ + 200000 ≤ (yearAt z b).at_ := by
  have h1 := (yearAt_bd ha y1 (by omega)).2
  have h2 := (yearAt_bd hb (show 1 ≤ z by omega) z2).1
  have := Civ.fst_lt y2
  omega
/-- The parts of a zone that may be. -/
structure Ok (L : List Sh) (Y : List Yr) (fr : Int) : Prop where
  s : MayS L
  y : (Y = [] ∧ fr = 0) ∨ ∃ a b, MayF L Y fr a b
theorem MayZ.ok {bs : Int} {L : List Sh} {Y : List Yr} {fr : Int} (h : MayZ bs L Y fr) : Ok L Y fr := ⟨h.sh, h.yr⟩
section
variable {L : List Sh} {Y : List Yr} {fr : Int}
theorem mayS_lt (h : MayS L) {i k : Nat} (hk : k < L.length) (hik : i < k) : L[i].at_ + 200000 ≤ L[k].at_ := by
  induction k with
  | zero => omega
  | succ k ih =>
    have g := h.up.gap k hk hk
    rcases Nat.lt_or_eq_of_le (Nat.le_of_lt_succ hik) with h3 | rfl
    · have := ih (by omega) h3
      omega
    · exact g
theorem Ok.yr (h : Ok L Y fr) {x : Yr} (hx : x ∈ Y) : YrOk x ∧ 1 ≤ fr ∧ fr ≤ 9999 := by
  rcases h.y with ⟨rfl, _⟩ | ⟨a, b, hF⟩
  · cases hx
  · have e := hF.eq
    subst e
    refine ⟨?_, hF.fr1, hF.fr2⟩
    rcases List.mem_cons.mp hx with rfl | hx
    · exact hF.y.fa
    · rcases List.mem_cons.mp hx with rfl | hx
      · exact hF.y.fb
      · cases hx
theorem Ok.two (h : Ok L Y fr) {x z : Yr} (hx : x ∈ Y) (hz : z ∈ Y) : 2 ≤ z.m + 12 - x.m ∧ (x = z ∨ 2 ≤ z.m - x.m ∨ 2 ≤ x.m - z.m) := by
  rcases h.y with ⟨rfl, _⟩ | ⟨a, b, hF⟩
  · cases hx
  · have e := hF.eq
    subst e
    have h1 := hF.y.lo
    have h2 := hF.y.hi
    simp only [List.mem_cons, List.not_mem_nil, or_false] at hx hz
    rcases hx with rfl | rfl <;> rcases hz with rfl | rfl
    · exact ⟨by omega, .inl rfl⟩
    · exact ⟨by omega, .inr (.inl h1)⟩
    · exact ⟨by omega, .inr (.inr h1)⟩
    · exact ⟨by omega, .inl rfl⟩
theorem Ok.behind (h : Ok L Y fr) {s : Sh} (hs : s ∈ L) {x : Yr} (hx : x ∈ Y) {y : Int} (y1 : fr ≤ y) (y2 : y ≤ 9999) : s.at_ + 200000 ≤ (yearAt y x).at_ := by
  obtain ⟨hX, f1, f2⟩ := h.yr hx
  obtain ⟨i, hi, rfl⟩ := List.getElem_of_mem hs
  rcases h.y with ⟨rfl, _⟩ | ⟨a, b, hF⟩
  · cases hx
  have hb := (yearAt_bd hX (show 1 ≤ y by omega) y2).1
  have hm := Civ.fst_mono y1
  have g := hF.gap (L.length - 1) (by omega) (by omega)
  rcases Nat.lt_or_ge i (L.length - 1) with q | q
  · have := mayS_lt h.s (i := i) (k := L.length - 1) (by omega) q
    omega
  · obtain rfl : i = L.length - 1 := by omega
    omega
theorem Ok.years (h : Ok L Y fr) {x z : Yr} (hx : x ∈ Y) (hz : z ∈ Y) {y k : Int} (y1 : fr ≤ y) (yk : y < k) (k2 : k ≤ 9999) : (yearAt y x).at_ + 200000 ≤ (yearAt k z).at_ := by
  obtain ⟨hX, f1, f2⟩ := h.yr hx
  obtain ⟨hZ, _, _⟩ := h.yr hz
  by_cases q : y + 1 < k
  · exact years_far hX hZ (by omega) q k2
  · obtain rfl : k = y + 1 := by omega
    exact years_gap hX hZ (by omega) k2 (h.two hx hz).1
theorem Ok.sep (h : Ok L Y fr) : Sep (IsShift L Y fr) := by
  refine ⟨fun s t hs ht => ?_, fun s hs => ?_⟩
  · rcases hs with hs | ⟨y, x, y1, y2, hx, rfl⟩ <;> rcases ht with ht | ⟨k, z, k1, k2, hz, rfl⟩
    · obtain ⟨i, hi, rfl⟩ := List.getElem_of_mem hs
      obtain ⟨j, hj, rfl⟩ := List.getElem_of_mem ht
      rcases Nat.lt_trichotomy i j with q | rfl | q
      · exact .inr (.inl (mayS_lt h.s hj q))
      · exact .inl rfl
      · exact .inr (.inr (mayS_lt h.s hi q))
    · exact .inr (.inl (h.behind hs hz k1 k2))
    · exact .inr (.inr (h.behind ht hx y1 y2))
    · obtain ⟨hX, f1, f2⟩ := h.yr hx
      obtain ⟨hZ, _, _⟩ := h.yr hz
      rcases Int.lt_trichotomy y k with q | rfl | q
      · exact .inr (.inl (h.years hx hz y1 q k2))
      · rcases (h.two hx hz).2 with rfl | q | q
        · exact .inl rfl
        · exact .inr (.inl (months_gap hX hZ (by omega) y2 q))
        · exact .inr (.inr (months_gap hZ hX (by omega) y2 q))
      · exact .inr (.inr (h.years hz hx k1 q y2))
  · rcases hs with hs | ⟨y, x, y1, y2, hx, rfl⟩
    · obtain ⟨i, hi, rfl⟩ := List.getElem_of_mem hs
      exact (h.s.up.ok i hi hi).2
    · exact (h.yr hx).1.o
theorem yearL_mem {s : Sh} {y : Int} : s ∈ yearL Y fr y ↔ ∃ x, fr ≤ y ∧ y ≤ 9999 ∧ x ∈ Y ∧ s = yearAt y x := by
  unfold yearL
  split
  · rename_i q
    exact ⟨fun h => (by cases h), fun ⟨x, h1, h2, _⟩ => by omega⟩
  · rename_i q
    rw [List.mem_map]
    exact ⟨fun ⟨x, h1, h2⟩ => ⟨x, by omega, by omega, h1, h2.symm⟩, fun ⟨x, _, _, h1, h2⟩ => ⟨x, h1, h2.symm⟩⟩
theorem yearL_up (h : Ok L Y fr) (y : Int) : Up (yearL Y fr y) := by
  unfold yearL
  split
  · exact List.Pairwise.nil
  · rename_i q
    rcases h.y with ⟨rfl, _⟩ | ⟨a, b, hF⟩
    · exact List.Pairwise.nil
    · have f1 := hF.fr1
      rw [hF.eq]
      have := months_gap (y := y) hF.y.fa hF.y.fb (by omega) (by omega) hF.y.lo
      refine List.pairwise_cons.mpr ⟨fun t ht => ?_, List.pairwise_cons.mpr ⟨fun t ht => (by cases ht), List.Pairwise.nil⟩⟩
      simp at ht
      subst ht
      omega
theorem acc_mem {s : Sh} {y : Int} {j : Nat} : s ∈ acc L Y fr y j ↔ s ∈ L ∨ ∃ (i : Nat) (x : Yr), i < j ∧ fr ≤ y + i ∧ y + i ≤ 9999 ∧ x ∈ Y ∧ s = yearAt (y + i) x := by
  induction j with
  | zero =>
    constructor
    · exact .inl
    · rintro (h | ⟨i, x, h, _⟩)
      · exact h
      · omega
  | succ j ih =>
    simp only [acc, List.mem_append, ih, yearL_mem]
    constructor
    · rintro ((h | ⟨i, x, h⟩) | ⟨x, h⟩)
      · exact .inl h
      · exact .inr ⟨i, x, by omega, h.2⟩
      · exact .inr ⟨j, x, by omega, h⟩
    · rintro (h | ⟨i, x, h0, h⟩)
      · exact .inl (.inl h)
      · rcases Nat.lt_or_eq_of_le (Nat.le_of_lt_succ h0) with h3 | rfl
        · exact .inl (.inr ⟨i, x, h3, h⟩)
        · exact .inr ⟨x, h⟩
theorem acc_up (h : Ok L Y fr) (y : Int) (j : Nat) : Up (acc L Y fr y j) := by
  induction j with
  | zero =>
    refine List.pairwise_iff_getElem.mpr fun i k hi hk hik => ?_
    have := mayS_lt h.s (i := i) (k := k) hk hik
    simp only [acc]
    omega
  | succ j ih =>
    refine List.pairwise_append.mpr ⟨ih, yearL_up h _, fun s hs t ht => ?_⟩
    obtain ⟨z, z1, z2, hz, rfl⟩ := yearL_mem.mp ht
    rcases acc_mem.mp hs with hs | ⟨i, x, h0, h1, h2, hx, rfl⟩
    · have := h.behind hs hz z1 z2; omega
    · have := h.years hx hz h1 (show y + (i : Int) < y + (j : Int) by omega) z2; omega
/-- near finds them. -/
theorem near_next (h : Ok L Y fr) {u y : Int} (y1 : 1 ≤ y) (y2 : y ≤ 9999) (u1 : Civ.fst y ≤ u / 86400) (u2 : u / 86400 < Civ.fst (y + 1)) : Next (IsShift L Y fr) u (nearL L Y fr y) := by
  have v1 : Civ.fst y * 86400 ≤ u := by omega
  have v2 : u < Civ.fst (y + 1) * 86400 := by omega
  clear u1 u2
  unfold nearL
  by_cases q : y < fr
  · rw [if_pos q]
    have hE : L ++ yearL Y fr fr = acc L Y fr fr 1 := by simp [acc]
    rw [hE]
    refine ⟨acc_up h _ _, fun s hs => ?_, fun t ht hu => ?_, fun t ht hu => ?_⟩
    · rcases acc_mem.mp hs with hs | ⟨i, x, _, h⟩
      · exact .inl hs
      · exact .inr ⟨_, x, h⟩
    · rcases ht with ht | ⟨k, x, k1, k2, hx, rfl⟩
      · exact ⟨t, acc_mem.mpr (.inl ht), hu, Int.le_refl _⟩
      · have := (yearAt_bd (h.yr hx).1 (show 1 ≤ k by omega) k2).1
        have := Civ.fst_mono (show y + 1 ≤ k by omega)
        omega
    · rcases ht with ht | ⟨k, x, k1, k2, hx, rfl⟩
      · exact ⟨t, acc_mem.mpr (.inl ht), hu, Int.le_refl _⟩
      · have f2 := (h.yr hx).2.2
        have b1 := (yearAt_bd (h.yr hx).1 (show 1 ≤ fr by omega) f2).1
        have b2 := Civ.fst_mono (show y + 1 ≤ fr by omega)
        refine ⟨yearAt fr x, acc_mem.mpr (.inr ⟨0, x, by omega, by omega, by simpa using f2, hx, by simp⟩), by omega, ?_⟩
        by_cases e : fr = k
        · rw [e]; exact Int.le_refl _
        · have := h.years hx hx (Int.le_refl fr) (show fr < k by omega) k2
          omega
  · rw [if_neg q]
    refine ⟨acc_up h _ _, fun s hs => ?_, fun t ht hu => ?_, fun t ht hu => ?_⟩
    · rcases acc_mem.mp hs with hs | ⟨i, x, _, h⟩
      · exact .inl hs
      · exact .inr ⟨_, x, h⟩
    · rcases ht with ht | ⟨k, x, k1, k2, hx, rfl⟩
      · exact ⟨t, acc_mem.mpr (.inl ht), hu, Int.le_refl _⟩
      · have f1 := (h.yr hx).2.1
        by_cases e : k < y - 1
        · have b2 := (yearAt_bd (h.yr hx).1 (show 1 ≤ y - 1 by omega) (by omega)).2
          rw [show y - 1 + 1 = y by omega] at b2
          refine ⟨yearAt (y - 1) x, acc_mem.mpr (.inr ⟨0, x, by omega, by omega, by omega, hx, by simp⟩), by omega, ?_⟩
          have := h.years hx hx k1 e (by omega)
          omega
        · by_cases e2 : k ≤ y + 1
          · refine ⟨yearAt k x, acc_mem.mpr (.inr ⟨(k - (y - 1)).toNat, x, by omega, by omega, by omega, hx, ?_⟩), hu, Int.le_refl _⟩
            rw [show y - 1 + ((k - (y - 1)).toNat : Int) = k by omega]
          · have := (yearAt_bd (h.yr hx).1 (show 1 ≤ k by omega) k2).1
            have := Civ.fst_mono (show y + 1 ≤ k by omega)
            omega
    · rcases ht with ht | ⟨k, x, k1, k2, hx, rfl⟩
      · exact ⟨t, acc_mem.mpr (.inl ht), hu, Int.le_refl _⟩
      · have f1 := (h.yr hx).2.1
        by_cases e : k < y - 1
        · have b2 := (yearAt_bd (h.yr hx).1 (show 1 ≤ k by omega) (by omega)).2
          have := Civ.fst_mono (show k + 1 ≤ y by omega)
          omega
        · by_cases e2 : k ≤ y + 1
          · refine ⟨yearAt k x, acc_mem.mpr (.inr ⟨(k - (y - 1)).toNat, x, by omega, by omega, by omega, hx, ?_⟩), hu, Int.le_refl _⟩
            rw [show y - 1 + ((k - (y - 1)).toNat : Int) = k by omega]
          · have b1 := (yearAt_bd (h.yr hx).1 (show 1 ≤ y + 1 by omega) (by omega)).1
            refine ⟨yearAt (y + 1) x, acc_mem.mpr (.inr ⟨2, x, by omega, by omega, by omega, hx, ?_⟩), by omega, ?_⟩
            · rw [show y - 1 + ((2 : Nat) : Int) = y + 1 by omega]
            · have := h.years hx hx (show fr ≤ y + 1 by omega) (show y + 1 < k by omega) k2
              omega
end
end Go.Proofs.Ytbnchbcdgffkaaa
