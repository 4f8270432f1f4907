/- zone.Offset, Local, within, UTC. -/
import Derived.Test.YtbnchbcdgffkaaaPln
namespace Go.Proofs.Ytbnchbcdgffkaaa
open Go.RowKit
set_option linter.unusedVariables false
section
variable {bs : Int} {A A' : Option Addr} {c c' : Nat} {fr u : Int} {L : List Sh} {Y : List Yr} {B : Nat} {w : World}
theorem before_any (hz : ZAt w B A A' L Y) (hB : B ≤ w.heap.size) :
    Calls Try.prog 14 #[zv bs A L.length c A' Y.length c' fr, .int .i64 u] w fun e w' => ∃ r, e = .returned (shv r) ∧ Below w.heap.size w w' ∧ (Fine bs L Y fr u → IsBef (IsShift L Y fr) u r) ∧ (¬ Fine bs L Y fr u → r = none) := by
  by_cases hF : Fine bs L Y fr u
  · refine (before_yes bs A c A' c' fr u L Y B w hF hz hB).mono ?_
    rintro e w' ⟨y, rfl, b, y1, y2, y3, y4⟩
    exact ⟨_, rfl, b, fun _ => (near_next hF.2.ok y1 y2 y3 y4).bef, fun h => absurd hF h⟩
  · refine (before_no bs A c A' c' fr u L Y B w hF hz hB).mono ?_
    rintro e w' ⟨rfl, b⟩
    exact ⟨_, rfl, b, fun h => absurd h hF, fun _ => rfl⟩
theorem after_any (hz : ZAt w B A A' L Y) (hB : B ≤ w.heap.size) :
    Calls Try.prog 16 #[zv bs A L.length c A' Y.length c' fr, .int .i64 u] w fun e w' => ∃ r, e = .returned (shv r) ∧ Below w.heap.size w w' ∧ (Fine bs L Y fr u → IsAft (IsShift L Y fr) u r) ∧ (¬ Fine bs L Y fr u → r = none) := by
  by_cases hF : Fine bs L Y fr u
  · refine (after_yes bs A c A' c' fr u L Y B w hF hz hB).mono ?_
    rintro e w' ⟨y, rfl, b, y1, y2, y3, y4⟩
    exact ⟨_, rfl, b, fun _ => (near_next hF.2.ok y1 y2 y3 y4).aft, fun h => absurd hF h⟩
  · refine (after_no bs A c A' c' fr u L Y B w hF hz hB).mono ?_
    rintro e w' ⟨rfl, b⟩
    exact ⟨_, rfl, b, fun h => absurd h hF, fun _ => rfl⟩
end
/-- The offset that holds behind a shift. -/
def offOf (bs : Int) : Option Sh → Int
  | some s => s.off
  | none => bs
/-- The offset that holds at u. -/
def IsOff (bs : Int) (P : Sh → Prop) (u o : Int) : Prop := ∃ r, IsBef P u r ∧ o = offOf bs r
theorem IsOff.uniq {bs : Int} {P : Sh → Prop} (h : Sep P) {u o q : Int} (a : IsOff bs P u o) (b : IsOff bs P u q) : o = q := by
  obtain ⟨r, h1, rfl⟩ := a
  obtain ⟨r', h2, rfl⟩ := b
  rw [h1.uniq h h2]
theorem IsOff.bd {bs : Int} {P : Sh → Prop} (h : Sep P) (hb : OffOk bs) {u o : Int} (a : IsOff bs P u o) : OffOk o := by
  obtain ⟨r, h1, rfl⟩ := a
  cases r with
  | none => exact hb
  | some s => exact h.off s h1.1
set_option maxHeartbeats 4000000 in
theorem zoffset_any {bs : Int} {A A' : Option Addr} {c c' : Nat} {fr u : Int} {L : List Sh} {Y : List Yr} {B : Nat} {w : World} (hz : ZAt w B A A' L Y) (hB : B ≤ w.heap.size) :
    Calls Try.prog 20 #[zv bs A L.length c A' Y.length c' fr, .int .i64 u] w fun e w' => ∃ o, e = .returned (.int .i64 o) ∧ Below w.heap.size w w' ∧ (Fine bs L Y fr u → IsOff bs (IsShift L Y fr) u o) ∧ (¬ Fine bs L Y fr u → o = 0) := by
  go_enter Try.func20, Try.ntmps20
  go_wp2_with fail
  have bx := (Below.refl w.heap.size w).alloc (Nat.le_refl _) (zo bs A L.length c A' Y.length c' fr)
  have HB := Lib.hid (Boxed.new_ (bs := bs) (A := A) (n := L.length) (c := c) (A' := A') (n' := Y.length) (c' := c') (fr := fr) w)
  generalize w.alloc (zo bs A L.length c A' Y.length c' fr) = w1 at bx HB ⊢
  have hz1 := hz.below (bx.mono hB)
  have hw := bx.size
  refine (fine_any bs A c A' c' fr u L Y B w1 hz1 (Nat.le_trans hB hw)).mono ?_
  rintro e w2 ⟨rfl, b2⟩
  have b2a := bx.trans (b2.mono hw)
  have hz2 := hz.below (b2a.mono hB)
  replace HB := Lib.hid (HB.out.below b2 HB.out.lt)
  obtain ⟨lt, c0, c1, c2, c3⟩ := HB.out
  have hw2 := b2a.size
  by_cases hF : Fine bs L Y fr u
  · have hFB := fineB_yes hF
    rw [hFB]
    clear hFB
    go_wp2_with fail
    refine (before_any hz2 (Nat.le_trans hB hw2)).mono ?_
    rintro e w3 ⟨r, rfl, b3, hr, -⟩
    have hr := Lib.hid (hr hF)
    have b3a := b2a.trans (b3.mono hw2)
    obtain ⟨-, c0, c1, c2, c3⟩ := HB.out.below b3 lt
    have hw3 := b3a.size
    have hlt : w.heap.size < w3.heap.size := Nat.lt_of_lt_of_le lt b3.size
    cases r with
    | some s =>
      simp only [shv]
      have b4 := b3a.alloc hw3 (.cells #[.int .i64 s.at_, .int .i64 s.off] 29)
      go_wp2_with fail
      go_ret
      exact ⟨_, rfl, b4, fun _ => ⟨_, hr.out, rfl⟩, fun h => absurd hF h⟩
    | none =>
      simp only [shv]
      have b4 := b3a.alloc hw3 (.cells #[.int .i64 0, .int .i64 0] 29)
      go_wp2_with fail
      go_ret
      exact ⟨_, rfl, b4, fun _ => ⟨_, hr.out, rfl⟩, fun h => absurd hF h⟩
  · have hFB := fineB_no hF
    rw [hFB]
    go_wp2_with fail
    go_ret
    exact ⟨0, rfl, b2a, fun h => absurd h hF, fun _ => rfl⟩
set_option maxHeartbeats 4000000 in
theorem local_any {bs : Int} {A A' : Option Addr} {c c' : Nat} {fr u : Int} {L : List Sh} {Y : List Yr} {B : Nat} {w : World} (hz : ZAt w B A A' L Y) (hB : B ≤ w.heap.size) :
    Calls Try.prog 22 #[zv bs A L.length c A' Y.length c' fr, .int .i64 u] w fun e w' => ∃ l, e = .returned (.int .i64 l) ∧ Below w.heap.size w w' ∧ (Fine bs L Y fr u → IsOff bs (IsShift L Y fr) u (l - u)) ∧ (¬ Fine bs L Y fr u → l = 0) := by
  go_enter Try.func22, Try.ntmps22
  go_wp2_with fail
  have bx := (Below.refl w.heap.size w).alloc (Nat.le_refl _) (zo bs A L.length c A' Y.length c' fr)
  have HB := Lib.hid (Boxed.new_ (bs := bs) (A := A) (n := L.length) (c := c) (A' := A') (n' := Y.length) (c' := c') (fr := fr) w)
  generalize w.alloc (zo bs A L.length c A' Y.length c' fr) = w1 at bx HB ⊢
  have hz1 := hz.below (bx.mono hB)
  have hw := bx.size
  refine (fine_any bs A c A' c' fr u L Y B w1 hz1 (Nat.le_trans hB hw)).mono ?_
  rintro e w2 ⟨rfl, b2⟩
  have b2a := bx.trans (b2.mono hw)
  have hz2 := hz.below (b2a.mono hB)
  replace HB := Lib.hid (HB.out.below b2 HB.out.lt)
  obtain ⟨lt, c0, c1, c2, c3⟩ := HB.out
  have hw2 := b2a.size
  by_cases hF : Fine bs L Y fr u
  · have hFB := fineB_yes hF
    rw [hFB]
    clear hFB
    go_wp2_with fail
    refine (zoffset_any hz2 (Nat.le_trans hB hw2)).mono ?_
    rintro e w3 ⟨o, rfl, b3, ho, -⟩
    have ho := ho hF
    have hoe := Lib.hid ho
    obtain ⟨o1, o2⟩ := ho.bd hF.2.ok.sep hF.2.base
    obtain ⟨u1, u2⟩ := hF.1
    clear ho
    go_wp2_with fail
    go_ret
    exact ⟨_, rfl, b2a.trans (b3.mono hw2), fun _ => by rw [show u + o - u = o by omega]; exact hoe.out, fun h => absurd hF h⟩
  · have hFB := fineB_no hF
    rw [hFB]
    go_wp2_with fail
    go_ret
    exact ⟨0, rfl, b2a, fun h => absurd h hF, fun _ => rfl⟩
/-- Does a local time lie in the years 2 to 9998? -/
def Within (l : Int) : Prop := -62104060800 ≤ l ∧ l < 253370764800
instance (l : Int) : Decidable (Within l) := by unfold Within; infer_instance
theorem within_any (l : Int) (w : World) : Calls Try.prog 43 #[.int .i64 l] w fun e w' => e = .returned (.bool (decide (Within l))) ∧ w = w' := by
  have v2 := (valid_first 2).mpr ⟨by omega, by omega⟩
  have v9 := (valid_first 9999).mpr ⟨by omega, by omega⟩
  have h2 := fun w => make_yes 2 1 1 v2 w
  have h9 := fun w => make_yes 9999 1 1 v9 w
  rw [show Civ.num 2 1 1 * 86400 = -62104060800 by decide] at h2
  rw [show Civ.num 9999 1 1 * 86400 = 253370764800 by decide] at h9
  clear v2 v9
  by_cases q1 : -62104060800 ≤ l
  · have q1t := decide_eq_true q1
    by_cases q2 : l < 253370764800
    · have q2t := decide_eq_true q2
      rw [decide_eq_true (show Within l from ⟨q1, q2⟩)]
      go_enter Try.func43, Try.ntmps43
      go_wp2_with fail
      refine (h2 _).mono ?_
      rintro e w2 ⟨rfl, rfl⟩
      go_wp2_with fail
      refine (h9 _).mono ?_
      rintro e w2 ⟨rfl, rfl⟩
      go_wp2_with fail
      go_ret
      exact ⟨rfl, rfl⟩
    · have q2t := decide_eq_false q2
      rw [decide_eq_false (fun h : Within l => q2 h.2)]
      go_enter Try.func43, Try.ntmps43
      go_wp2_with fail
      refine (h2 _).mono ?_
      rintro e w2 ⟨rfl, rfl⟩
      go_wp2_with fail
      refine (h9 _).mono ?_
      rintro e w2 ⟨rfl, rfl⟩
      go_wp2_with fail
      go_ret
      exact ⟨rfl, rfl⟩
  · have q1t := decide_eq_false q1
    rw [decide_eq_false (fun h : Within l => q1 h.1)]
    go_enter Try.func43, Try.ntmps43
    go_wp2_with fail
    refine (h2 _).mono ?_
    rintro e w2 ⟨rfl, rfl⟩
    go_wp2_with fail
    refine (h9 _).mono ?_
    rintro e w2 ⟨rfl, rfl⟩
    go_wp2_with fail
    go_ret
    exact ⟨rfl, rfl⟩
/-- The moment of a local time. -/
def utcOf (l a : Int) : Option Sh → Int
  | some s => if l - a < s.at_ then l - a else if s.at_ ≤ l - s.off then l - s.off else l - a
  | none => l - a
structure IsUtc (bs : Int) (P : Sh → Prop) (l a : Int) (r : Option Sh) : Prop where
  off : IsOff bs P (l - 64800) a
  aft : IsAft P (l - 64800) r
/-- What UTC gives. -/
structure UtcRes (bs : Int) (L : List Sh) (Y : List Yr) (fr l v : Int) : Prop where
  yes : Within l → MayZ bs L Y fr → ∃ a r, IsUtc bs (IsShift L Y fr) l a r ∧ v = utcOf l a r
  no : ¬ (Within l ∧ MayZ bs L Y fr) → v = 0
theorem Within.from_ {l : Int} (h : Within l) : MayT (l - 64800) := ⟨by have := h.1; omega, by have := h.2; omega⟩
theorem shift_at {L : List Sh} {Y : List Yr} {fr : Int} (h : Ok L Y fr) {s : Sh} (hs : IsShift L Y fr s) : MayT s.at_ := by
  rcases hs with hs | ⟨y, x, y1, y2, hx, rfl⟩
  · obtain ⟨i, hi, rfl⟩ := List.getElem_of_mem hs
    exact (h.s.up.ok i hi hi).1
  · obtain ⟨hX, f1, f2⟩ := h.yr hx
    obtain ⟨b1, b2⟩ := yearAt_bd hX (show 1 ≤ y by omega) y2
    have m1 := Civ.fst_mono (show 1 ≤ y by omega)
    have m2 := Civ.fst_mono (show y + 1 ≤ 10000 by omega)
    have e1 : Civ.fst 1 = -719162 := by decide
    have e2 : Civ.fst 10000 = 2932897 := by decide
    constructor <;> omega
set_option maxHeartbeats 4000000 in
theorem utc_any {bs : Int} {A A' : Option Addr} {c c' : Nat} {fr l : Int} {L : List Sh} {Y : List Yr} {B : Nat} {w : World} (hz : ZAt w B A A' L Y) (hB : B ≤ w.heap.size) :
    Calls Try.prog 26 #[zv bs A L.length c A' Y.length c' fr, .int .i64 l] w fun e w' => ∃ v, e = .returned (.int .i64 v) ∧ Below w.heap.size w w' ∧ UtcRes bs L Y fr l v := by
  go_enter Try.func26, Try.ntmps26
  go_wp2_with fail
  have bx := (Below.refl w.heap.size w).alloc (Nat.le_refl _) (zo bs A L.length c A' Y.length c' fr)
  have HB := Lib.hid (Boxed.new_ (bs := bs) (A := A) (n := L.length) (c := c) (A' := A') (n' := Y.length) (c' := c') (fr := fr) w)
  generalize w.alloc (zo bs A L.length c A' Y.length c' fr) = w1 at bx HB ⊢
  have hz1 := hz.below (bx.mono hB)
  have hw := bx.size
  obtain ⟨lt, c0, c1, c2, c3⟩ := HB.out
  refine (within_any l w1).mono ?_
  rintro e w2 ⟨rfl, rfl⟩
  by_cases hW : Within l
  · have hWt := decide_eq_true hW
    rw [hWt]
    clear hWt
    go_wp2_with fail
    refine (mayZone_any bs A c A' c' fr L Y B w1 hz1.s hz1.y (Nat.le_trans hB hw) hz1.l hz1.l').mono ?_
    rintro e w2 ⟨rfl, b2⟩
    clear c0 c1 c2 c3
    have b2a := bx.trans (b2.mono hw)
    have hz2 := hz.below (b2a.mono hB)
    replace HB := Lib.hid (HB.out.below b2 HB.out.lt)
    obtain ⟨lt, c0, c1, c2, c3⟩ := HB.out
    have hw2 := b2a.size
    by_cases hM : MayZ bs L Y fr
    · have hMt := mayZB_yes hM
      rw [hMt]
      clear hMt
      have hF : Fine bs L Y fr (l - 64800) := ⟨hW.from_, hM⟩
      have hSep := hM.ok.sep
      have hWh := Lib.hid hW
      obtain ⟨l1, l2⟩ := hW
      go_wp2_with fail
      refine (zoffset_any hz2 (Nat.le_trans hB hw2)).mono ?_
      rintro e w3 ⟨a, rfl, b3, ha, -⟩
      have ha := ha hF
      obtain ⟨a1, a2⟩ := ha.bd hSep hM.base
      have ha := Lib.hid ha
      clear c0 c1 c2 c3
      have b3a := b2a.trans (b3.mono hw2)
      have hz3 := hz.below (b3a.mono hB)
      replace HB := Lib.hid (HB.out.below b3 HB.out.lt)
      obtain ⟨lt, c0, c1, c2, c3⟩ := HB.out
      have hw3 := b3a.size
      go_wp2_with fail
      refine (after_any hz3 (Nat.le_trans hB hw3)).mono ?_
      rintro e w4 ⟨r, rfl, b4, hr, -⟩
      have hr := hr hF
      have hP : ∀ s, r = some s → MayT s.at_ ∧ OffOk s.off := fun s e => by
        subst e
        exact ⟨shift_at hM.ok hr.1, hSep.off s hr.1⟩
      have hr := Lib.hid hr
      have b4a := b3a.trans (b4.mono hw3)
      have hw4 := b4a.size
      have hfin := fun w' v => show (Below w.heap.size w w' → v = utcOf l a r → ∃ v', Ending.returned (.int .i64 v) = .returned (.int .i64 v') ∧ Below w.heap.size w w' ∧ UtcRes bs L Y fr l v') from
        fun bb e => ⟨v, rfl, bb, ⟨fun _ _ => ⟨a, r, ⟨ha.out, hr.out⟩, e⟩, fun h => absurd ⟨hWh.out, hM⟩ h⟩⟩
      have hfin := Lib.hid hfin
      clear c0 c1 c2 c3 hz1 hz2 hz3 HB hM hF
      cases r with
      | none =>
        simp only [shv]
        have b5 := b4a.alloc hw4 (.cells #[.int .i64 0, .int .i64 0] 29)
        go_wp2_with fail
        go_ret
        exact hfin.out _ _ b5 rfl
      | some s =>
        obtain ⟨⟨s1, s2⟩, s3, s4⟩ := hP s rfl
        simp only [shv]
        have b5 := b4a.alloc hw4 (.cells #[.int .i64 s.at_, .int .i64 s.off] 29)
        by_cases k1 : l - a < s.at_
        · have k1t := decide_eq_true k1
          have e := Lib.hid (show l - a = utcOf l a (some s) by simp [utcOf, k1])
          go_wp2_with fail
          go_ret
          exact hfin.out _ _ b5 e.out
        · have k1t := decide_eq_false k1
          by_cases k2 : s.at_ ≤ l - s.off
          · have k2t := decide_eq_true k2
            have e := Lib.hid (show l - s.off = utcOf l a (some s) by simp only [utcOf]; rw [if_neg k1, if_pos k2])
            go_wp2_with fail
            go_ret
            exact hfin.out _ _ b5 e.out
          · have k2t := decide_eq_false k2
            have e := Lib.hid (show l - a = utcOf l a (some s) by simp only [utcOf]; rw [if_neg k1, if_neg k2])
            go_wp2_with fail
            go_ret
            exact hfin.out _ _ b5 e.out
    · have hMt := mayZB_no hM
      rw [hMt]
      go_wp2_with fail
      go_ret
      exact ⟨0, rfl, b2a, ⟨fun _ h => absurd h hM, fun _ => rfl⟩⟩
  · have hWt := decide_eq_false hW
    rw [hWt]
    go_wp2_with fail
    go_ret
    exact ⟨0, rfl, bx, ⟨fun h _ => absurd h hW, fun _ => rfl⟩⟩
end Go.Proofs.Ytbnchbcdgffkaaa
