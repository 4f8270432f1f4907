/- voklaw2.StampTexts. -/
import Derived.Test.YtkeeocidinnnnaaDoorRprs
namespace Go.Proofs.YtkeeocidinnnnaaDoor
open Go.RowKit
set_option linter.unusedVariables false
theorem rparse_short (s : ByteArray) (h : s.size < 15) (w : World) : Calls Tryd.prog 17 #[.string s] w fun e w' => e = .returned (.tuple #[.int .i64 0, .int .i64 2]) ∧ w = w' := by
  have t : decide ((s.size : Int) < 15) = true := decide_eq_true (by omega)
  go_enter Tryd.func17, Tryd.ntmps17
  go_wp2_with fail
  go_ret2
  exact ⟨rfl, rfl⟩
theorem rparse_long (s : ByteArray) (h : 15 < s.size) (w : World) : Calls Tryd.prog 17 #[.string s] w fun e w' => e = .returned (.tuple #[.int .i64 0, .int .i64 4]) ∧ w = w' := by
  have t : decide ((s.size : Int) < 15) = false := decide_eq_false (by omega)
  have t2 : decide ((15 : Int) < (s.size : Int)) = true := decide_eq_true (by omega)
  go_enter Tryd.func17, Tryd.ntmps17
  go_wp2_with fail
  go_ret2
  exact ⟨rfl, rfl⟩
theorem rparse_noT (s : ByteArray) (hs : s.size = 15) (hT : ∀ h : 8 < s.size, s[8].toNat ≠ 84) (w : World) : Calls Tryd.prog 17 #[.string s] w fun e w' => e = .returned (.tuple #[.int .i64 0, .int .i64 4]) ∧ w = w' := by
  have q8 : 8 < s.size := by omega
  have hT := hT q8
  generalize hB : s[8].toNat = bb at hT
  have t : ((bb : Int) == 84) = false := by rw [beq_eq_false_iff_ne]; omega
  clear hT
  go_enter Tryd.func17, Tryd.ntmps17
  go_wp2_with fail
  go_ret2
  exact ⟨rfl, rfl⟩
/-! Plain: six numbers, or two. -/
theorem all_app {A B : List UInt8} : AllDig ⟨(A ++ B).toArray⟩ ↔ AllDig ⟨A.toArray⟩ ∧ AllDig ⟨B.toArray⟩ := by
  have key : ∀ L : List UInt8, AllDig ⟨L.toArray⟩ ↔ ∀ b, b ∈ L → 48 ≤ b.toNat ∧ b.toNat ≤ 57 := fun L => ⟨fun h b hb => mem_extract rfl h b hb, fun h k _ => dig_all h k⟩
  rw [key, key, key]
  constructor
  · intro h
    exact ⟨fun b hb => h b (List.mem_append_left _ hb), fun b hb => h b (List.mem_append_right _ hb)⟩
  · rintro ⟨h1, h2⟩ b hb
    rcases List.mem_append.mp hb with h | h
    · exact h1 b h
    · exact h2 b h
theorem numV_yes {A : List UInt8} (h : AllDig ⟨A.toArray⟩) : numV ⟨A.toArray⟩ = vl A ∧ 0 ≤ vl A ∧ (vl A).toNat < 10 ^ A.length := by
  have e := pre_vl A A.length (Nat.le_refl _)
  rw [List.take_length] at e
  obtain ⟨b1, b2⟩ := vl_digits (P := A) rfl (fun b hb => mem_extract rfl h b hb)
  refine ⟨?_, b1, b2⟩
  rw [show numV ⟨A.toArray⟩ = pre ⟨A.toArray⟩ (⟨A.toArray⟩ : ByteArray).size from if_pos h, ba_size, e]
theorem numV_no {x : ByteArray} (h : ¬ AllDig x) : ¬ 0 ≤ numV x := by
  rw [show numV x = -1 from if_neg h]
  decide
theorem rp_same (s : ByteArray) (z : s.size = 15) (h8 : byteAt s 8 = 84) : rpV s = psV s := by
  obtain ⟨⟨L⟩⟩ := s
  have zL : L.length = 15 := by rw [← z]; rfl
  obtain ⟨A, B, C, x, D, E, F, hL, hA, hB, hC, hD, hE, hF⟩ : ∃ (A B C : List UInt8) (x : UInt8) (D E F : List UInt8), L = A ++ B ++ C ++ x :: (D ++ E ++ F) ∧ A.length = 4 ∧ B.length = 2 ∧ C.length = 2 ∧ D.length = 2 ∧ E.length = 2 ∧ F.length = 2 := by
    match L, zL with
    | [a0, a1, a2, a3, a4, a5, a6, a7, a8, a9, a10, a11, a12, a13, a14], _ => exact ⟨[a0, a1, a2, a3], [a4, a5], [a6, a7], a8, [a9, a10], [a11, a12], [a13, a14], rfl, rfl, rfl, rfl, rfl, rfl, rfl⟩
  have ex : ∀ (X Y Z : List UInt8) (a b : Nat), L = X ++ Y ++ Z → X.length = a → a + Y.length = b → ByteArray.extract ⟨⟨L⟩⟩ a b = ⟨Y.toArray⟩ := fun X Y Z a b h h1 h2 => by
    rw [Lib.extract_eq]
    congr 2
    show List.take (b - a) (List.drop a L) = Y
    subst h h1
    rw [← h2, show X.length + Y.length - X.length = Y.length by omega]
    simp
  have x0 := ex [] A (B ++ C ++ x :: (D ++ E ++ F)) 0 4 (by rw [hL]; simp) rfl (by omega)
  have x1 := ex A B (C ++ x :: (D ++ E ++ F)) 4 6 (by rw [hL]; simp) hA (by omega)
  have x2 := ex (A ++ B) C (x :: (D ++ E ++ F)) 6 8 (by rw [hL]) (by rw [List.length_append]; omega) (by omega)
  have x3 := ex (A ++ B ++ C ++ [x]) D (E ++ F) 9 11 (by rw [hL]; simp) (by simp only [List.length_append, List.length_singleton]; omega) (by omega)
  have x4 := ex (A ++ B ++ C ++ [x] ++ D) E F 11 13 (by rw [hL]; simp) (by simp only [List.length_append, List.length_singleton]; omega) (by omega)
  have x5 := ex (A ++ B ++ C ++ [x] ++ D ++ E) F [] 13 15 (by rw [hL]; simp) (by simp only [List.length_append, List.length_singleton]; omega) (by omega)
  have y0 := ex [] (A ++ B ++ C) (x :: (D ++ E ++ F)) 0 8 (by rw [hL]; simp) rfl (by simp only [List.length_append]; omega)
  have y1 := ex (A ++ B ++ C ++ [x]) (D ++ E ++ F) [] 9 15 (by rw [hL]; simp) (by simp only [List.length_append, List.length_singleton]; omega) (by simp only [List.length_append]; omega)
  have s0 : six ⟨⟨L⟩⟩ 0 = numV ⟨A.toArray⟩ := congrArg numV x0
  have s1 : six ⟨⟨L⟩⟩ 1 = numV ⟨B.toArray⟩ := congrArg numV x1
  have s2 : six ⟨⟨L⟩⟩ 2 = numV ⟨C.toArray⟩ := congrArg numV x2
  have s3 : six ⟨⟨L⟩⟩ 3 = numV ⟨D.toArray⟩ := congrArg numV x3
  have s4 : six ⟨⟨L⟩⟩ 4 = numV ⟨E.toArray⟩ := congrArg numV x4
  have s5 : six ⟨⟨L⟩⟩ 5 = numV ⟨F.toArray⟩ := congrArg numV x5
  unfold psV rpV
  rw [if_neg (show ¬ ByteArray.size ⟨⟨L⟩⟩ < 15 by omega), if_neg (show ¬ (15 < ByteArray.size ⟨⟨L⟩⟩ ∨ byteAt ⟨⟨L⟩⟩ 8 ≠ 84) from fun h => h.elim (by omega) (fun h => h h8)), y0, y1]
  by_cases g : AllDig ⟨(A ++ B ++ C).toArray⟩ ∧ AllDig ⟨(D ++ E ++ F).toArray⟩
  · rw [if_pos g]
    obtain ⟨g1, g2⟩ := g
    obtain ⟨g12, gC⟩ := all_app.mp g1
    obtain ⟨gA, gB⟩ := all_app.mp g12
    obtain ⟨g22, gF⟩ := all_app.mp g2
    obtain ⟨gD, gE⟩ := all_app.mp g22
    obtain ⟨nA, pA, _⟩ := numV_yes gA
    obtain ⟨nB, pB, bB⟩ := numV_yes gB
    obtain ⟨nC, pC, bC⟩ := numV_yes gC
    obtain ⟨nD, pD, _⟩ := numV_yes gD
    obtain ⟨nE, pE, bE⟩ := numV_yes gE
    obtain ⟨nF, pF, bF⟩ := numV_yes gF
    rw [hB] at bB
    rw [hC] at bC
    rw [hE] at bE
    rw [hF] at bF
    have e1 := pre_vl (A ++ B ++ C) 8 (by simp only [List.length_append]; omega)
    have e2 := pre_vl (D ++ E ++ F) 6 (by simp only [List.length_append]; omega)
    rw [List.take_of_length_le (by simp only [List.length_append]; omega), vl_app, vl_app, hB, hC] at e1
    rw [List.take_of_length_le (by simp only [List.length_append]; omega), vl_app, vl_app, hE, hF] at e2
    rw [if_pos (fun i => by
      rcases i with ⟨i, hi⟩
      rcases (show i = 0 ∨ i = 1 ∨ i = 2 ∨ i = 3 ∨ i = 4 ∨ i = 5 by omega) with rfl | rfl | rfl | rfl | rfl | rfl
      · show 0 ≤ six ⟨⟨L⟩⟩ 0; rw [s0, nA]; exact pA
      · show 0 ≤ six ⟨⟨L⟩⟩ 1; rw [s1, nB]; exact pB
      · show 0 ≤ six ⟨⟨L⟩⟩ 2; rw [s2, nC]; exact pC
      · show 0 ≤ six ⟨⟨L⟩⟩ 3; rw [s3, nD]; exact pD
      · show 0 ≤ six ⟨⟨L⟩⟩ 4; rw [s4, nE]; exact pE
      · show 0 ≤ six ⟨⟨L⟩⟩ 5; rw [s5, nF]; exact pF), s0, s1, s2, s3, s4, s5, nA, nB, nC, nD, nE, nF, e1, e2]
    unfold mk6
    congr 1 <;> omega
  · rw [if_neg g, if_neg]
    intro h
    apply g
    have a : ∀ (X : List UInt8), 0 ≤ numV ⟨X.toArray⟩ → AllDig ⟨X.toArray⟩ := fun X hX => Classical.byContradiction fun q => numV_no q hX
    exact ⟨all_app.mpr ⟨all_app.mpr ⟨a A (s0 ▸ h 0), a B (s1 ▸ h 1)⟩, a C (s2 ▸ h 2)⟩, all_app.mpr ⟨all_app.mpr ⟨a D (s3 ▸ h 3), a E (s4 ▸ h 4)⟩, a F (s5 ▸ h 5)⟩⟩
/-- The document's answer is the product's. -/
theorem rparse_as (s : ByteArray) (w : World) : Calls Tryd.prog 17 #[.string s] w fun e w' => e = .returned (.tuple #[.int .i64 (psV s).1, .int .i64 (psV s).2]) ∧ Below w.heap.size w w' := by
  have up : ∀ (r : Int × Int), psV s = r → Calls Tryd.prog 17 #[.string s] w (fun e w' => e = .returned (.tuple #[.int .i64 r.1, .int .i64 r.2]) ∧ w = w') → Calls Tryd.prog 17 #[.string s] w fun e w' => e = .returned (.tuple #[.int .i64 (psV s).1, .int .i64 (psV s).2]) ∧ Below w.heap.size w w' := fun r h c => by
    rw [h]
    refine c.mono ?_
    rintro e w' ⟨rfl, rfl⟩
    exact ⟨rfl, Below.refl _ _⟩
  by_cases q : s.size < 15
  · exact up (0, 2) (by unfold psV; rw [if_pos q]) (rparse_short s q w)
  · by_cases q2 : 15 < s.size
    · exact up (0, 4) (by unfold psV; rw [if_neg q, if_pos (.inl q2)]) (rparse_long s q2 w)
    · have z : s.size = 15 := by omega
      by_cases q3 : byteAt s 8 = 84
      · rw [← rp_same s z q3]
        exact rparse_full s z (fun h => by unfold byteAt at q3; rwa [dif_pos h] at q3) w
      · exact up (0, 4) (by unfold psV; rw [if_neg q, if_pos (.inr q3)]) (rparse_noT s z (fun h => by unfold byteAt at q3; rwa [dif_pos h] at q3) w)
set_option maxRecDepth 100000 in
set_option maxHeartbeats 4000000 in
theorem stampTexts_true {t : Int} {s : ByteArray} {w : World} (ht : Tab w) (t1 : -9223372036854775808 ≤ t) (t2 : t ≤ 9223372036854775807) :
    Calls Tryd.prog 3 #[.int .i64 t, .string s] w fun e w' => e = .returned (.bool true) ∧ Below w.heap.size w w' := by
  by_cases q1 : (2000 : Int) < (s.size : Int)
  · have q1t := decide_eq_true q1
    go_enter Tryd.func3, Tryd.ntmps3
    go_wp2_with fail
    have b := Below.refl w.heap.size w
    refine (first_any _ ht).mono ?_
    rintro e wz ⟨rfl, bb⟩
    replace ht := ht.below bb
    replace b := b.trans (bb.mono b.size)
    clear bb
    go_wp2_with fail
    refine (first_any _ ht).mono ?_
    rintro e wz ⟨rfl, bb⟩
    replace ht := ht.below bb
    replace b := b.trans (bb.mono b.size)
    clear bb
    go_wp2_with fail
    go_ret
    exact ⟨rfl, b⟩
  · have q1t := decide_eq_false q1
    by_cases p : MayT t
    · go_enter Tryd.func3, Tryd.ntmps3
      go_wp2_with fail
      have b := Below.refl w.heap.size w
      refine (first_any _ ht).mono ?_
      rintro e wz ⟨rfl, bb⟩
      replace ht := ht.below bb
      replace b := b.trans (bb.mono b.size)
      clear bb
      go_wp2_with fail
      refine (text_yes t p _ ht).mono ?_
      rintro e wz ⟨y, m, d, v, nn, rfl, bb⟩
      replace ht := ht.below bb
      replace b := b.trans (bb.mono b.size)
      clear bb
      go_wp2_with fail
      refine (rtext_yes t p _).mono ?_
      rintro e wz ⟨y2, m2, d2, v2, n2, rfl, bb⟩
      replace ht := ht.below bb
      replace b := b.trans (bb.mono b.size)
      clear bb
      obtain ⟨rfl, rfl, rfl⟩ := Civ.num_inj v2 v (n2.trans nn.symm)
      clear n2 v2 v nn
      generalize txt y2 m2 d2 (t % 86400) = Y
      go_wp2_with fail
      have hp := parse_any s
      have hr := rparse_as s
      generalize psV s = r at hp hr
      refine (hp _).mono ?_
      rintro e w9 ⟨rfl, rfl⟩
      go_wp2_with fail
      refine (hr _).mono ?_
      rintro e wz ⟨rfl, bb⟩
      replace ht := ht.below bb
      replace b := b.trans (bb.mono b.size)
      clear bb
      go_wp2_with fail
      refine (first_any _ ht).mono ?_
      rintro e wz ⟨rfl, bb⟩
      replace ht := ht.below bb
      replace b := b.trans (bb.mono b.size)
      clear bb
      go_wp2_with fail
      go_ret
      exact ⟨rfl, b⟩
    · go_enter Tryd.func3, Tryd.ntmps3
      go_wp2_with fail
      have b := Below.refl w.heap.size w
      refine (first_any _ ht).mono ?_
      rintro e wz ⟨rfl, bb⟩
      replace ht := ht.below bb
      replace b := b.trans (bb.mono b.size)
      clear bb
      go_wp2_with fail
      refine (text_no t p t1 t2 _).mono ?_
      rintro e w9 ⟨rfl, rfl⟩
      go_wp2_with fail
      refine (rtext_no t p _).mono ?_
      rintro e w9 ⟨rfl, rfl⟩
      go_wp2_with fail
      have hp := parse_any s
      have hr := rparse_as s
      generalize psV s = r at hp hr
      refine (hp _).mono ?_
      rintro e w9 ⟨rfl, rfl⟩
      go_wp2_with fail
      refine (hr _).mono ?_
      rintro e wz ⟨rfl, bb⟩
      replace ht := ht.below bb
      replace b := b.trans (bb.mono b.size)
      clear bb
      go_wp2_with fail
      refine (first_any _ ht).mono ?_
      rintro e wz ⟨rfl, bb⟩
      replace ht := ht.below bb
      replace b := b.trans (bb.mono b.size)
      clear bb
      go_wp2_with fail
      go_ret
      exact ⟨rfl, b⟩
end Go.Proofs.YtkeeocidinnnnaaDoor
