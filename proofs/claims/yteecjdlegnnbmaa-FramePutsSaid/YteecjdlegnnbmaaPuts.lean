/- FramePuts: any bytes as a record: the walk. -/
import Derived.Test.YteecjdlegnnbmaaRput
import Derived.Test.YteecjdlegnnbmaaFirst
import Derived.Test.YteecjdlegnnbmaaSame
namespace Go.Proofs.Yteecjdlegnnbmaa
open Go.RowKit
set_option linter.unusedVariables false
theorem bytes_same (A A' : Option Addr) (c c' B B' : Nat) (l : List Nat) (w : World) (ha : BytesAt w B A l) (hb : BytesAt w B' A' l) (sl : Small l) :
    Calls Try.prog 14 #[.slice A l.length c, .slice A' l.length c'] w fun e w' => e = .returned (.bool true) ∧ w = w' :=
  (bytes_any A A' c c' B B' l l w ha hb sl sl).mono fun e w' ⟨he, hw⟩ => ⟨by rw [he]; simp, hw⟩
set_option maxRecDepth 100000 in
set_option maxHeartbeats 1000000 in
theorem puts_bytes (A : Option Addr) (c : Nat) (l : List Nat) (w : World) (ha : BytesAt w w.heap.size A l) (hs : Small l) (hl : l.length ≤ maxLen) :
    Calls Try.prog 3 #[.slice A l.length c] w fun e w' => e = .returned (.bool true) ∧ Below w.heap.size w w' := by
  unfold maxLen at hl
  have parts : 20000 < l.length ∨ (¬ 20000 < l.length ∧ l.length ≤ 8192) ∨ (¬ 20000 < l.length ∧ 8192 < l.length) := by omega
  rcases parts with r1 | ⟨r1, r2⟩ | ⟨r1, r2⟩
  · go_enter Try.func3, Try.ntmps3
    go_wp2_with fail
    refine (first_any _).mono ?_
    rintro e w1 ⟨rfl, b1⟩
    have hw1 := b1.size
    go_wp2_with fail
    refine (first_any _).mono ?_
    rintro e w2 ⟨rfl, b2⟩
    go_wp2_with fail
    go_ret
    exact ⟨rfl, b1.trans (b2.mono hw1)⟩
  · have hd : decide ((20000 : Int) < (l.length : Int)) = false := by simp; omega
    go_enter Try.func3, Try.ntmps3
    go_wp2_with fail
    refine (first_any _).mono ?_
    rintro e w1 ⟨rfl, b1⟩
    have hw1 := b1.size
    go_wp2_with fail
    refine (copy_any A c _ l w1 (ha.below b1) (by omega)).mono ?_
    rintro e w2 ⟨A2, c2, rfl, O2, b2⟩
    replace b2 := b1.trans (b2.mono hw1)
    have hw2 := b2.size
    clear b1
    go_wp2_with fail
    refine (put_yes A2 c2 _ l w2 O2.reads (Nat.le_refl _) hs r2).mono ?_
    rintro e w3 ⟨A3, c3, rfl, O3, b3⟩
    replace O2 := O2.below b3 (Nat.le_refl _)
    replace b3 := b2.trans (b3.mono hw2)
    have hw3 := b3.size
    clear b2
    go_wp2_with fail
    refine (rput_yes A c _ l w3 (ha.below b3) hw3 hs r2).mono ?_
    rintro e w4 ⟨A4, c4, rfl, O4, b4⟩
    replace O2 := O2.below b4 (Nat.le_refl _)
    replace O3 := O3.below b4 (Nat.le_refl _)
    replace b4 := b3.trans (b4.mono hw3)
    have hw4 := b4.size
    clear b3
    go_wp2_with fail
    refine (first_any _).mono ?_
    rintro e w5 ⟨rfl, b5⟩
    replace O2 := O2.below b5 (Nat.le_refl _)
    replace O3 := O3.below b5 (Nat.le_refl _)
    replace O4 := O4.below b5 (Nat.le_refl _)
    replace b5 := b4.trans (b5.mono hw4)
    have hw5 := b5.size
    clear b4
    go_wp2_with fail
    refine (bytes_same A3 A4 c3 c4 _ _ (recd l) w5 O3.reads O4.reads (recd_small hs (by omega))).mono ?_
    rintro e w6 ⟨rfl, rfl⟩
    go_wp2_with fail
    refine (sum_any A2 c2 _ l w5 O2.reads (Nat.le_refl _) hs (by simp only [maxLen]; omega)).mono ?_
    rintro e w6 ⟨rfl, b6⟩
    replace O2 := O2.below b6 (Nat.le_refl _)
    replace b6 := b5.trans (b6.mono hw5)
    have hw6 := b6.size
    clear b5
    go_wp2_with fail
    refine (rsum_any A c _ l w6 (ha.below b6) hs (by simp only [maxLen]; omega)).mono ?_
    rintro e w7 ⟨rfl, rfl⟩
    go_wp2_with fail
    refine (bytes_same A2 A c2 c _ _ l w6 O2.reads (ha.below b6) hs).mono ?_
    rintro e w8 ⟨rfl, rfl⟩
    go_wp2_with fail
    go_ret
    exact ⟨rfl, b6⟩
  · have hd : decide ((20000 : Int) < (l.length : Int)) = false := by simp; omega
    go_enter Try.func3, Try.ntmps3
    go_wp2_with fail
    refine (first_any _).mono ?_
    rintro e w1 ⟨rfl, b1⟩
    have hw1 := b1.size
    go_wp2_with fail
    refine (copy_any A c _ l w1 (ha.below b1) (by omega)).mono ?_
    rintro e w2 ⟨A2, c2, rfl, O2, b2⟩
    replace b2 := b1.trans (b2.mono hw1)
    have hw2 := b2.size
    clear b1
    go_wp2_with fail
    refine (put_no A2 c2 l.length w2 r2 (by simp only [maxLen]; omega)).mono ?_
    rintro e w3 ⟨rfl, rfl⟩
    go_wp2_with fail
    refine (rput_no A c l.length w2 r2 (by simp only [maxLen]; omega)).mono ?_
    rintro e w4 ⟨rfl, rfl⟩
    go_wp2_with fail
    refine (first_any _).mono ?_
    rintro e w5 ⟨rfl, b5⟩
    replace O2 := O2.below b5 (Nat.le_refl _)
    replace b5 := b2.trans (b5.mono hw2)
    have hw5 := b5.size
    clear b2
    go_wp2_with fail
    refine (bytes_same none none 0 0 0 0 [] w5 Reads.none_ Reads.none_ (by simp [Small])).mono ?_
    rintro e w6 ⟨rfl, rfl⟩
    go_wp2_with fail
    refine (sum_any A2 c2 _ l w5 O2.reads (Nat.le_refl _) hs (by simp only [maxLen]; omega)).mono ?_
    rintro e w6 ⟨rfl, b6⟩
    replace O2 := O2.below b6 (Nat.le_refl _)
    replace b6 := b5.trans (b6.mono hw5)
    have hw6 := b6.size
    clear b5
    go_wp2_with fail
    refine (rsum_any A c _ l w6 (ha.below b6) hs (by simp only [maxLen]; omega)).mono ?_
    rintro e w7 ⟨rfl, rfl⟩
    go_wp2_with fail
    refine (bytes_same A2 A c2 c _ _ l w6 O2.reads (ha.below b6) hs).mono ?_
    rintro e w8 ⟨rfl, rfl⟩
    go_wp2_with fail
    go_ret
    exact ⟨rfl, b6⟩
end Go.Proofs.Yteecjdlegnnbmaa
