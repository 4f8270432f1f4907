/- DiskCuts: the walk. -/
import Derived.Test.YtelkllhibkefbaaFirst
namespace Go.Proofs.Ytelkllhibkefbaa
open Go.RowKit
set_option linter.unusedVariables false
attribute [local go_sem ↓] Go.wp_at_zero Go.wp_at_succ
theorem run_start {size : Int} {L : List Op} (h0 : 0 ≤ size) (h1 : size ≤ 1073741824) (hT : total L ≤ 20000) : Fine (run ⟨size, 0, []⟩ L) 20000 :=
  (run_fine (L := L) (S := ⟨size, 0, []⟩) (N := 0) ⟨h0, h1, Nat.le_refl _, Nat.le_refl _⟩).more (by omega)
theorem Own.off {w : World} {base d : Nat} {v : Value} {l : List Nat} (h : Own w base v l) (hd : d < base) : v.ownBlock = none ∨ v.ownBlock ≠ some d := by
  cases e : v.ownBlock with
  | none => exact .inl rfl
  | some g =>
    refine .inr fun e2 => ?_
    injection e2 with e2
    subst e2
    have := (World.ownsRow.lt h g e).1
    omega
theorem ret_bool {a b : Bool} (h : a = b) : Ending.returned (.bool a) = .returned (.bool b) := by rw [h]
set_option maxRecDepth 100000 in
set_option maxHeartbeats 4000000 in
theorem cuts_any (size : Int) (A : Option Addr) (c B : Nat) (L : List Op) (keep : Int) (w : World) (ha : OpsAt w B A L) (hB : B ≤ w.heap.size) (hl : L.length ≤ maxLen) (hk1 : -9223372036854775808 ≤ keep) (hk2 : keep ≤ 9223372036854775807) :
    Calls Try.prog 3 #[.int .i64 size, .slice A L.length c, .int .i64 keep] w fun e w' => e = .returned (.bool true) ∧ Below w.heap.size w w' := by
  go_enter Try.func3, Try.ntmps3
  go_wp2_with fail
  refine (first_any _).mono ?_
  rintro e w1 ⟨rfl, b1⟩
  have hP := played_any size A c B L w1 (ha.below (b1.mono hB)) (Nat.le_trans hB b1.size) hl
  go_wp2_with fail
  refine hP.mono ?_
  rintro e w2 (⟨rfl, b2⟩ | ⟨d, A2, c2, rfl, D, b2, hdw, _, hT, z0, z1⟩)
  · replace b2 := b1.trans (b2.mono b1.size)
    clear hP b1
    go_wp2_with fail
    refine (first_any _).mono ?_
    rintro e w3 ⟨rfl, b3⟩
    replace b3 := b2.trans (b3.mono b2.size)
    clear b2
    go_wp2_with fail
    go_ret
    exact ⟨rfl, b3⟩
  · replace b2 := b1.trans (b2.mono b1.size)
    replace hdw := Nat.le_trans b1.size hdw
    clear hP b1
    obtain ⟨r0, r1, hs, hn⟩ := run_start z0 z1 hT
    generalize run ⟨size, 0, []⟩ L = S at *
    obtain ⟨r, s, l⟩ := S
    simp only at r0 r1 hs hn
    replace D : DiskAt w2 d r s A2 c2 l := D
    go_wp2_with fail
    refine (bytes_of D (by omega)).mono ?_
    rintro e w3 ⟨A3, c3, rfl, O3, b3⟩
    have D3 := D.quiet (below_quiet2 b3)
    replace b3 := b2.trans (b3.mono b2.size)
    have hr3 := (O3.file D.lt).2.2
    have hdlt := D.lt
    clear D b2
    go_wp2_with fail
    refine (synced_any D3).mono ?_
    rintro e w4 ⟨rfl, rfl⟩
    go_wp2_with fail
    refine (crash_any D3 keep hk1 hk2 hs (by omega)).mono ?_
    rintro e w4 ⟨A4, c4, rfl, D4, g4⟩
    have O4 := O3.grown g4 (O3.off hdlt)
    have b4 := b3.grown g4 b3.size (fun k hk => by injection hk with hk; omega)
    clear O3 b3 g4 D3
    obtain ⟨m1, m2⟩ := kept_le (keep := keep) hs
    have parts : (keep < 0 ∧ kept s l.length keep = s) ∨ (¬ keep < 0 ∧ (l.length : Int) - (s : Int) < keep ∧ kept s l.length keep = l.length) ∨ (¬ keep < 0 ∧ ¬ (l.length : Int) - (s : Int) < keep ∧ (kept s l.length keep : Int) = s + keep) := by
      unfold kept
      omega
    have HL := Lib.hid (show (l.take (kept s l.length keep)).length = kept s l.length keep by rw [List.length_take]; omega)
    generalize kept s l.length keep = m at *
    go_wp2_with fail
    refine (bytes_of D4 (by rw [HL.out]; omega)).mono ?_
    rintro e w5 ⟨A5, c5, he, O5, b5⟩
    rw [HL.out] at he O5
    subst he
    have O4' := O4.below b5 (Nat.le_refl _)
    have D5 := D4.quiet (below_quiet2 b5)
    replace b5 := b4.trans (b5.mono b4.size)
    have Q := bytes_any A5 A3 c5 c3 _ _ (l.take m) (l.take m) w5 (Own.reads (by rw [HL.out]; exact O5)) (O4'.reads.take_ m) (D4.small) (D4.small)
    rw [HL.out, decide_eq_true rfl] at Q
    have hlm := hr3.max
    have hlc := hr3.le
    have hln := hr3.nil
    clear O4 D4 b4 O5 O4' hr3
    unfold maxLen at hlm
    cases A3
    case' none =>
      have := hln rfl
      subst this
      obtain rfl : l = [] := List.eq_nil_of_length_eq_zero (by omega)
      obtain rfl : s = 0 := by simpa using hs
      obtain rfl : m = 0 := by simpa using m2
      clear parts m1 m2 hs hn
    all_goals
      clear hln
      go_wp2_with fail
      refine Q.mono ?_
      rintro e w6 ⟨rfl, rfl⟩
      clear Q
      go_wp2_with fail
      refine (synced_any D5).mono ?_
      rintro e w6 ⟨rfl, rfl⟩
      clear D5
      go_wp2_with fail
      refine (first_any _).mono ?_
      rintro e w7 ⟨rfl, b7⟩
      replace b7 := b5.trans (b7.mono b5.size)
      clear b5
      go_wp2_with fail
      all_goals
        go_ret
        exact ⟨ret_bool (by first | rfl | exact beq_iff_eq.2 (by omega) | (simp; omega)), b7⟩
end Go.Proofs.Ytelkllhibkefbaa
