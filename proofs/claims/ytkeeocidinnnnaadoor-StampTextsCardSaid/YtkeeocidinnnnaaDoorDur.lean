/- stamp.DurText. -/
import Derived.Test.YtkeeocidinnnnaaDoorTxt
namespace Go.Proofs.YtkeeocidinnnnaaDoor
open Go.RowKit
set_option linter.unusedVariables false
/-- A part of a duration's text. -/
def part (n : Int) (u : UInt8) : List UInt8 := if n = 0 then [] else Lib.itoa n ++ [u]
theorem part_len (n : Int) (u : UInt8) (h0 : 0 ≤ n) (h1 : n < 10000000000000000000) : (part n u).length ≤ 21 := by
  unfold part
  split
  · simp
  · have := itoa_len n h0 h1
    simp
    omega
theorem part_any (n : Int) (u : UInt8) (h0 : 0 ≤ n) (h1 : n ≤ 1000000000000) (w : World) (ht : Tab w) :
    Calls Tryd.prog 39 #[.int .i64 n, .string ⟨#[u]⟩] w fun e w' => e = .returned (.string ⟨(part n u).toArray⟩) ∧ Below w.heap.size w w' := by
  by_cases q : n = 0
  · subst q
    rw [show part 0 u = [] from rfl]
    go_enter Tryd.func39, Tryd.ntmps39
    go_wp2_with fail
    go_ret
    exact ⟨rfl, Below.refl _ _⟩
  · have qt : (n == 0) = false := by simpa using q
    rw [show part n u = Lib.itoa n ++ [u] from if_neg q]
    have hI := itoa_any n (by omega) (by omega)
    have hl := itoa_len n h0 (by omega)
    generalize Lib.itoa n = l at *
    have hno : ¬ (9223372036854775807 < l.length + 1) := by omega
    clear q
    go_enter Tryd.func39, Tryd.ntmps39
    go_wp2_with fail
    refine (hI _ ht).mono ?_
    rintro e w1 ⟨rfl, b⟩
    go_wp2_with fail
    go_ret
    exact ⟨by rw [← ba_app]; rfl, b⟩
/-- A duration's text. -/
def dur (n : Int) : List UInt8 := if n % 604800 = 0 then [80] ++ Lib.itoa (n / 604800) ++ [87] else [80] ++ part (n / 86400) 68 ++ (if 0 < n % 86400 then [84] ++ part (n % 86400 / 3600) 72 ++ part (n % 86400 / 60 % 60) 77 ++ part (n % 86400 % 60) 83 else [])
set_option maxRecDepth 100000 in
set_option maxHeartbeats 4000000 in
theorem dur_yes (n : Int) (h1 : 1 ≤ n) (h2 : n ≤ 2147483648) (w : World) (ht : Tab w) :
    Calls Tryd.prog 18 #[.int .i64 n] w fun e w' => e = .returned (.tuple #[.string ⟨(dur n).toArray⟩, .int .i64 0]) ∧ Below w.heap.size w w' := by
  have hba := ba_app
  have e1 : Int.tmod n 604800 = n % 604800 := Int.tmod_eq_emod_of_nonneg (by omega)
  have e2 : Int.tdiv n 604800 = n / 604800 := Int.tdiv_eq_ediv_of_nonneg (by omega)
  by_cases q : n % 604800 = 0
  · rw [show dur n = [80] ++ Lib.itoa (n / 604800) ++ [87] from if_pos q]
    have hI := itoa_any (n / 604800) (by omega) (by omega)
    have hl := itoa_len (n / 604800) (by omega) (by omega)
    have qt : (n % 604800 == 0) = true := by simpa using q
    generalize Lib.itoa (n / 604800) = l at *
    have hno : ¬ (9223372036854775807 < 1 + l.length) := by omega
    have hno2 : ¬ (9223372036854775807 < l.length + 1 + 1) := by omega
    go_enter Tryd.func18, Tryd.ntmps18
    go_wp2_with fail
    refine (hI _ ht).mono ?_
    rintro e w1 ⟨rfl, b⟩
    go_wp2_with fail
    go_ret2
    exact ⟨rfl, b⟩
  · have qt : (n % 604800 == 0) = false := by simpa using q
    have e3 : Int.tdiv n 86400 = n / 86400 := Int.tdiv_eq_ediv_of_nonneg (by omega)
    have e4 : Int.tmod n 86400 = n % 86400 := Int.tmod_eq_emod_of_nonneg (by omega)
    have ed : dur n = [80] ++ part (n / 86400) 68 ++ (if 0 < n % 86400 then [84] ++ part (n % 86400 / 3600) 72 ++ part (n % 86400 / 60 % 60) 77 ++ part (n % 86400 % 60) 83 else []) := if_neg q
    rw [ed]
    clear ed q
    have hA := part_any (n / 86400) 68 (by omega) (by omega)
    have lA := part_len (n / 86400) 68 (by omega) (by omega)
    generalize part (n / 86400) 68 = A at *
    have hno : ¬ (9223372036854775807 < 1 + A.length) := by omega
    by_cases k : 0 < n % 86400
    · have kt := decide_eq_true k
      rw [if_pos k]
      have r1 : 0 ≤ n % 86400 := by omega
      have r2 : n % 86400 < 86400 := by omega
      have hB := part_any (n % 86400 / 3600) 72 (by omega) (by omega)
      have lB := part_len (n % 86400 / 3600) 72 (by omega) (by omega)
      have hC := part_any (n % 86400 / 60 % 60) 77 (by omega) (by omega)
      have lC := part_len (n % 86400 / 60 % 60) 77 (by omega) (by omega)
      have hD := part_any (n % 86400 % 60) 83 (by omega) (by omega)
      have lD := part_len (n % 86400 % 60) 83 (by omega) (by omega)
      generalize part (n % 86400 / 3600) 72 = B at *
      generalize part (n % 86400 / 60 % 60) 77 = C at *
      generalize part (n % 86400 % 60) 83 = D at *
      have hn1 : ¬ (9223372036854775807 < 1 + B.length) := by omega
      have hn2 : ¬ (9223372036854775807 < B.length + 1 + C.length) := by omega
      have hn3 : ¬ (9223372036854775807 < B.length + C.length + 1 + D.length) := by omega
      have hn4 : ¬ (9223372036854775807 < A.length + 1 + (B.length + (C.length + D.length) + 1)) := by omega
      generalize n % 86400 = r at *
      go_enter Tryd.func18, Tryd.ntmps18
      go_wp2_with fail
      refine (hA _ ht).mono ?_
      rintro e w1 ⟨rfl, b⟩
      replace ht := ht.below b
      go_wp2_with fail
      refine (hB _ ht).mono ?_
      rintro e w2 ⟨rfl, bb⟩
      replace ht := ht.below bb
      replace b := b.trans (bb.mono b.size)
      clear bb
      go_wp2_with fail
      refine (hC _ ht).mono ?_
      rintro e w3 ⟨rfl, bb⟩
      replace ht := ht.below bb
      replace b := b.trans (bb.mono b.size)
      clear bb
      go_wp2_with fail
      refine (hD _ ht).mono ?_
      rintro e w4 ⟨rfl, bb⟩
      replace ht := ht.below bb
      replace b := b.trans (bb.mono b.size)
      clear bb
      go_wp2_with fail
      go_ret2
      refine ⟨?_, b⟩
      rw [List.append_assoc B C D]; rfl
    · have kt := decide_eq_false k
      rw [if_neg k]
      have k0 : n % 86400 = 0 := by omega
      rw [k0] at e4
      clear k k0
      go_enter Tryd.func18, Tryd.ntmps18
      go_wp2_with fail
      refine (hA _ ht).mono ?_
      rintro e w1 ⟨rfl, b⟩
      go_wp2_with fail
      go_ret2
      refine ⟨?_, b⟩
      rw [List.append_nil]; rfl
theorem dur_no (n : Int) (h : ¬ (1 ≤ n ∧ n ≤ 2147483648)) (w : World) :
    Calls Tryd.prog 18 #[.int .i64 n] w fun e w' => e = .returned (.tuple #[.string ⟨#[]⟩, .int .i64 1]) ∧ w = w' := by
  by_cases k : n < 1
  · have kt := decide_eq_true k
    clear h
    go_enter Tryd.func18, Tryd.ntmps18
    go_wp2_with fail
    go_ret2
    exact ⟨rfl, rfl⟩
  · have k2 : 2147483648 < n := by omega
    have kt := decide_eq_false k
    have kt2 := decide_eq_true k2
    clear h
    go_enter Tryd.func18, Tryd.ntmps18
    go_wp2_with fail
    go_ret2
    exact ⟨rfl, rfl⟩
end Go.Proofs.YtkeeocidinnnnaaDoor
