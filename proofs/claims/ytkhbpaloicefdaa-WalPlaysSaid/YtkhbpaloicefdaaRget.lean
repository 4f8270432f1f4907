/- vokref10.Get: the document's answer. -/
import Derived.Test.YtkhbpaloicefdaaNum
namespace Go.Proofs.Ytkhbpaloicefdaa
open Go.RowKit
set_option linter.unusedVariables false
set_option maxRecDepth 100000 in
set_option maxHeartbeats 1000000 in
theorem rget_any (A : Option Addr) (c B : Nat) (l : List Nat) (i : Int) (w : World) (ha : BytesAt w B A l) (hB : B ≤ w.heap.size) (hs : Small l) (hr : Room A l.length c) (hi1 : -9223372036854775808 ≤ i) (hi2 : i ≤ 9223372036854775807) (hl2 : l.length ≤ 1000000) :
    Calls Try.prog 49 #[.slice A l.length c, .int .i64 i] w fun e w' => Told w (getd l i) i e w' := by
  obtain ⟨hlc, hcm⟩ := hr
  unfold maxLen at hcm
  by_cases h0 : i < 0 ∨ (l.length : Int) < i
  · rw [getd_out h0]
    unfold Told
    rcases (show i < 0 ∨ (¬ i < 0 ∧ (l.length : Int) < i) by omega) with h1 | ⟨h1, h2⟩
    all_goals
      go_enter Try.func49, Try.ntmps49
      go_wp2_with fail
      go_ret3
      exact ⟨rfl, Below.refl _ _⟩
  · obtain ⟨j, rfl⟩ := Int.eq_ofNat_of_zero_le (show 0 ≤ i by omega)
    have hj : j ≤ l.length := by omega
    rw [getd_in hj]
    have hxl : (l.drop j).length = l.length - j := List.length_drop
    by_cases h6 : l.length - j < 6
    · rw [getx_short (by omega)]
      unfold Told
      clear hxl
      go_enter Try.func49, Try.ntmps49
      go_wp2_with fail
      go_ret3
      exact ⟨rfl, Below.refl _ _⟩
    · obtain ⟨ad, rfl, c0⟩ := ha.get (k := j) (by omega)
      obtain ⟨ad', had, c1⟩ := ha.get (k := j + 1) (by omega)
      injection had with had
      subst had
      have hadd : ad.add (j + 1) = ⟨(ad.add j).block, (ad.add j).off + 1, none⟩ := by
        by_cases hj0 : j = 0
        · subst hj0; simp [Addr.add]
        · simp [Addr.add, hj0, Nat.add_assoc]
      rw [hadd] at c1
      have x0 := hs.get (k := j) (by omega)
      have x1 := hs.get (k := j + 1) (by omega)
      have hn : numAt (l.drop j) = l[j] * 256 + l[j + 1] := by
        unfold numAt
        simp [List.getD_eq_getElem?_getD, List.getElem?_drop, List.getElem?_eq_getElem (show j < l.length by omega), List.getElem?_eq_getElem (show j + 1 < l.length by omega)]
      have hN := numAt_lt (hs.drop j)
      have hX6 : ¬ (l.drop j).length < 6 := by omega
      have G3 := fun h2 => getx_long hX6 h2
      have G2 := fun h2 h3 => getx_cut (x := l.drop j) hX6 h2 h3
      have G5 := fun h2 h3 h4 => getx_sum (x := l.drop j) hX6 h2 h3 h4
      have G0 := fun h2 h3 h4 => getx_ok (x := l.drop j) hX6 h2 h3 h4
      have HNum := num_two (ad.add j) (c - j) l[j] l[j + 1] w c0 c1 x0 x1
      rw [← hn] at HNum
      generalize numAt (l.drop j) = N at HNum hN G3 G2 G5 G0
      generalize getx (l.drop j) = G at G3 G2 G5 G0 ⊢
      have HX := ha.drop_ j
      have sX := hs.drop j
      replace G3 := Lib.hid G3
      replace G2 := Lib.hid G2
      replace G5 := Lib.hid G5
      replace G0 := Lib.hid G0
      have hcj : ¬ c = j := by omega
      clear hn
      go_enter Try.func49, Try.ntmps49
      go_wp2_with fail
      refine HNum.mono ?_
      rintro e w1 ⟨rfl, rfl⟩
      clear HNum
      have b0 : Below w.heap.size w w := Below.refl _ _
      rcases (show 8192 < N ∨ (¬ 8192 < N ∧ (l.drop j).length < 6 + N) ∨ (¬ 8192 < N ∧ ¬ (l.drop j).length < 6 + N) by omega) with r1 | ⟨r1, r2⟩ | ⟨r1, r2⟩
      · go_wp2_with fail
        go_ret3
        rw [G3.out r1]
        exact ⟨rfl, b0⟩
      · have r3 : l.length - j < 6 + N := by omega
        go_wp2_with fail
        go_ret3
        rw [G2.out r1 r2]
        exact ⟨rfl, b0⟩
      · have r4 : ¬ l.length - j < 6 + N := by omega
        have hpl : (((l.drop j).drop 6).take N).length = N := by rw [List.length_take, List.length_drop]; omega
        have hwl : ((l.drop j).take (6 + N)).length = 6 + N := by rw [List.length_take]; omega
        have ok : recd (((l.drop j).drop 6).take N) = (l.drop j).take (6 + N) → G = .ok (((l.drop j).drop 6).take N) := G0.out r1 r2
        have no : recd (((l.drop j).drop 6).take N) ≠ (l.drop j).take (6 + N) → G = .err 5 := G5.out r1 r2
        have sp : Small (((l.drop j).drop 6).take N) := (sX.drop 6).take N
        have sw := sX.take (6 + N)
        have RP := (HX.drop_ 6).take_ N
        rw [add_of_add] at RP
        have RW := HX.take_ (6 + N)
        generalize ((l.drop j).drop 6).take N = p at hpl ok no sp RP
        generalize (l.drop j).take (6 + N) = W at hwl ok no sw RW
        have OK := Lib.hid ok
        have NO := Lib.hid no
        clear ok no G0 G2 G3 G5
        subst hpl
        have hpm : p.length ≤ 8192 := by omega
        have hC : ∀ k : Nat, Calls Try.prog 42 #[.slice (if c = j + 6 then some ad else some (ad.add (j + 6))) p.length k] w fun e w' => ∃ A' c', e = .returned (.slice A' p.length c') ∧ Own w' w.heap.size (.slice A' p.length c') p ∧ Below w.heap.size w w' := by
          intro k
          by_cases r3 : c = j + 6
          · have r4 : p = [] := List.eq_nil_of_length_eq_zero (by omega)
            subst r4
            rw [if_pos r3]
            exact copy_any (some ad) _ 0 [] w ⟨rfl, fun h => absurd h (by simp)⟩ (by simp)
          · rw [if_neg r3]
            exact copy_any _ _ B p w RP (by omega)
        have hE := fun (A10 : Option Addr) (c10 c11 : Nat) (w3 : World) (h : BytesAt w3 w3.heap.size A10 (recd p)) (h' : BytesAt w3 B (some (ad.add j)) W) => bytes_any A10 (some (ad.add j)) c10 c11 _ _ (recd p) W w3 h h' (recd_small sp (by omega)) sw
        rw [hwl] at hE
        have hres : Hid (decide (recd p = W) = true ∧ G = .ok p) ∨ Hid (decide (recd p = W) = false ∧ G = .err 5) := by
          by_cases hq : recd p = W
          · exact .inl (Lib.hid ⟨decide_eq_true hq, OK.out hq⟩)
          · exact .inr (Lib.hid ⟨decide_eq_false hq, NO.out hq⟩)
        have e1 : j + 6 + p.length - (j + 6) = p.length := by omega
        have e2 : j + 6 + p.length - j = 6 + p.length := by omega
        clear OK NO
        rcases (show c = j + 6 ∨ ¬ c = j + 6 by omega) with r3 | r3
        case' inl => subst r3
        all_goals
          first | rw [if_pos rfl] at hC | rw [if_neg r3] at hC
          go_wp2_with fail
          refine (hC _).mono ?_
          clear hC
          rintro e w2 ⟨A9, c9, rfl, O9, b9⟩
          have RW2 := RW.below (b9.mono hB)
          have b9a := b0.trans b9
          have hw2 := b9.size
          go_wp2_with fail
          refine (rput_yes A9 c9 _ _ w2 O9.reads (Nat.le_refl _) sp hpm).mono ?_
          rintro e w3 ⟨A10, c10, rfl, O10, b10⟩
          have RW3 := RW2.below (b10.mono (by omega))
          have O9a := (O9.below b10 (Nat.le_refl _))
          have b10a := b9a.trans (b10.mono (by have := b9a.size; omega))
          have hF := fun c11 => hE A10 c10 c11 w3 O10.reads RW3
          clear b0 b9 b10 RW RW2 RW3 O9 O10 b9a HX hE
          go_wp2_with fail
          refine (hF _).mono ?_
          clear hF
          rintro e w4 ⟨rfl, rfl⟩
          rcases hres with hq | hq
          · rw [hq.out.1]
            go_wp2_with fail
            go_ret3
            rw [hq.out.2]
            exact ⟨A9, c9, rfl, O9a, b10a⟩
          · rw [hq.out.1]
            go_wp2_with fail
            go_ret3
            rw [hq.out.2]
            exact ⟨rfl, b10a⟩
end Go.Proofs.Ytkhbpaloicefdaa
