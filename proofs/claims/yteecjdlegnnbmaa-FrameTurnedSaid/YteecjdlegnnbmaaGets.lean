/- FrameGets: any bytes, any place: the walk. -/
import Derived.Test.YteecjdlegnnbmaaLists
namespace Go.Proofs.Yteecjdlegnnbmaa
open Go.RowKit
set_option linter.unusedVariables false
def gotP : Got → List Nat
  | .ok p => p
  | .err _ => []
def gotN (g : Got) (i : Int) : Int :=
  match g with
  | .ok p => i + 6 + p.length
  | .err _ => 0
def gotE : Got → Int
  | .ok _ => 0
  | .err k => k
theorem Told.plain {W : World} {g : Got} {i : Int} {e : Ending} {w' : World} (h : Told W g i e w') : ∃ A c, e = .returned (.tuple #[.slice A (gotP g).length c, .int .i64 (gotN g i), .int .i64 (gotE g)]) ∧ Own w' W.heap.size (.slice A (gotP g).length c) (gotP g) ∧ Below W.heap.size W w' := by
  cases g with
  | err k => exact ⟨none, 0, h.1, World.ownsRow_nil _ _ _ _, h.2⟩
  | ok p => exact h
theorem getd_small {b : List Nat} (hs : Small b) (i : Int) : Small (gotP (getd b i)) := by
  cases hg : getd b i with
  | err k => intro x hx; cases hx
  | ok p =>
    unfold getd at hg
    split at hg
    · cases hg
    · unfold getx at hg
      repeat' split at hg
      all_goals cases hg
      exact ((hs.drop _).drop 6).take _
theorem scanF_small {b : List Nat} (hs : Small b) : ∀ n i, ∀ l ∈ (scanF b n i).1, Small l := by
  intro n
  induction n with
  | zero => intro i l hl; cases hl
  | succ n ih =>
    intro i l hl
    cases hg : getd b (i : Int) with
    | err k => rw [scanF_err hg] at hl; cases hl
    | ok p =>
      rw [scanF_ok hg] at hl
      rcases List.mem_cons.1 hl with rfl | hl
      · have := getd_small hs (i : Int); rw [hg] at this; exact this
      · exact ih _ l hl
theorem scanF_few {b : List Nat} : ∀ n i, i ≤ b.length → 6 * (scanF b n i).1.length + i ≤ (scanF b n i).2 ∧ (scanF b n i).2 ≤ b.length := by
  intro n
  induction n with
  | zero => intro i h; exact ⟨by simp [scanF], h⟩
  | succ n ih =>
    intro i h
    cases hg : getd b (i : Int) with
    | err k => rw [scanF_err hg]; exact ⟨by simp, h⟩
    | ok p =>
      rw [scanF_ok hg]
      have hl := (getd_ok_le hg).1
      have := ih (i + 6 + p.length) hl
      simp only [List.length_cons]
      omega
theorem scand_few (b : List Nat) : 6 * (scand b).1.length ≤ b.length ∧ (scand b).2 ≤ b.length := by
  have := scanF_few (b := b) (b.length + 1) 0 (Nat.zero_le _)
  unfold scand
  omega
theorem getd_lt {b : List Nat} (i : Int) (hb : b.length ≤ 1000000) : 0 ≤ gotN (getd b i) i ∧ gotN (getd b i) i ≤ 1000000 := by
  cases hg : getd b i with
  | err k => simp [gotN]
  | ok p =>
    have h0 : ¬ (i < 0 ∨ (b.length : Int) < i) := by
      intro h; rw [getd_out h] at hg; cases hg
    obtain ⟨j, rfl⟩ := Int.eq_ofNat_of_zero_le (show 0 ≤ i by omega)
    have := (getd_ok_le hg).1
    simp only [gotN]
    omega
set_option maxRecDepth 100000 in
set_option maxHeartbeats 1000000 in
theorem gets_bytes (A : Option Addr) (c : Nat) (l : List Nat) (i : Int) (w : World) (ha : BytesAt w w.heap.size A l) (hs : Small l) (hr : Room A l.length c) (hi1 : -9223372036854775808 ≤ i) (hi2 : i ≤ 9223372036854775807) :
    Calls Try.prog 6 #[.slice A l.length c, .int .i64 i] w fun e w' => e = .returned (.bool true) ∧ Below w.heap.size w w' := by
  have hlm : l.length ≤ 9223372036854775807 := Nat.le_trans hr.le hr.max
  by_cases hl : 20000 < l.length
  · go_enter Try.func6, Try.ntmps6
    go_wp2_with fail
    refine (first_any _).mono ?_
    rintro e w1 ⟨rfl, b1⟩
    have hw1 := b1.size
    go_wp2_with fail
    refine (first_any _).mono ?_
    rintro e w2 ⟨rfl, b2⟩
    go_wp2_with fail
    go_ret
    exact ⟨rfl, b1.trans (b2.mono hw1)⟩
  · have d0 : decide ((20000 : Int) < (l.length : Int)) = false := by simp; omega
    have hP := getd_small hs i
    have hS : ∀ x ∈ (scand l).1, Small x := scanF_small hs _ _
    have hF := (scand_few l).1
    generalize hgd : getd l i = g at hP
    have HGD := Lib.hid hgd
    clear hgd
    go_enter Try.func6, Try.ntmps6
    go_wp2_with fail
    refine (first_any _).mono ?_
    rintro e w1 ⟨rfl, b1⟩
    have hw1 := b1.size
    go_wp2_with fail
    refine (get_any A c _ l i w1 (ha.below b1) hw1 hs hr hi1 hi2).mono ?_
    intro e w2 ht
    rw [HGD.out] at ht
    obtain ⟨A2, c2, rfl, O2, b2⟩ := ht.plain
    clear ht
    replace b2 := b1.trans (b2.mono hw1)
    have hw2 := b2.size
    clear b1
    go_wp2_with fail
    refine (rget_any A c _ l i w2 (ha.below b2) hw2 hs hr hi1 hi2 (by omega)).mono ?_
    intro e w3 ht
    rw [HGD.out] at ht
    obtain ⟨A3, c3, rfl, O3, b3⟩ := ht.plain
    clear ht
    replace O2 := O2.below b3 (Nat.le_refl _)
    replace b3 := b2.trans (b3.mono hw2)
    have hw3 := b3.size
    clear b2
    go_wp2_with fail
    refine (scan_any A c _ l w3 (ha.below b3) hw3 hs hr (by omega)).mono ?_
    rintro e w4 ⟨A4, c4, xs, rfl, O4, R4, b4⟩
    replace O2 := O2.below b4 (Nat.le_refl _)
    replace O3 := O3.below b4 (Nat.le_refl _)
    replace b4 := b3.trans (b4.mono hw3)
    have hw4 := b4.size
    have L4 := ListsAt.of_own O4 R4
    clear b3 O4 R4
    go_wp2_with fail
    refine (rscan_any A c _ l w4 (ha.below b4) hw4 hs hr (by omega)).mono ?_
    rintro e w5 ⟨A5, c5, ys, rfl, O5, R5, b5⟩
    replace O2 := O2.below b5 (Nat.le_refl _)
    replace O3 := O3.below b5 (Nat.le_refl _)
    replace L4 := L4.quiet (below_quiet b5 (Nat.le_refl _))
    replace b5 := b4.trans (b5.mono hw4)
    have hw5 := b5.size
    have L5 := ListsAt.of_own O5 R5
    clear b4 O5 R5
    go_wp2_with fail
    refine (first_any _).mono ?_
    rintro e w6 ⟨rfl, b6⟩
    replace O2 := O2.below b6 (Nat.le_refl _)
    replace O3 := O3.below b6 (Nat.le_refl _)
    replace L4 := L4.quiet (below_quiet b6 (Nat.le_refl _))
    replace L5 := L5.quiet (below_quiet b6 (Nat.le_refl _))
    replace b6 := b5.trans (b6.mono hw5)
    have hw6 := b6.size
    clear b5
    go_wp2_with fail
    refine (bytes_same A2 A3 c2 c3 _ _ (gotP g) w6 O2.reads O3.reads hP).mono ?_
    rintro e w7 ⟨rfl, rfl⟩
    go_wp2_with fail
    refine (lists_same A4 A5 c4 c5 _ _ (scand l).1 w6 L4 L5 hS (by omega)).mono ?_
    rintro e w8 ⟨rfl, g8⟩
    go_wp2_with fail
    go_ret
    exact ⟨rfl, b6.grown g8 hw6 (by simp)⟩
end Go.Proofs.Yteecjdlegnnbmaa
