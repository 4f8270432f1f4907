/- frame.Get: the record that stands at a place. -/
import Derived.Test.YtkhbpaloicefdaaGetd
import Derived.Test.YtkhbpaloicefdaaSame
import Derived.Deep.RegionHeld3
import Derived.Deep.DrawnRows
import Derived.Deep.QuietTactic
import Derived.BigQuiet
namespace Go.Proofs.Ytkhbpaloicefdaa
open Go.RowKit
set_option linter.unusedVariables false
attribute [local go_sem ↓] Go.wp_at_zero Go.wp_at_succ
theorem BytesAt.drop_ {w : World} {B : Nat} {ad : Addr} {l : List Nat} (h : BytesAt w B (some ad) l) (j : Nat) : BytesAt w B (some (ad.add j)) (l.drop j) := by
  refine ⟨by rw [bys_length]; omega, fun hn => ?_⟩
  obtain ⟨a, e, hb, hc⟩ := h.2 (by rw [List.length_drop] at hn; omega)
  injection e with e
  subst e
  refine ⟨_, rfl, by rw [block_of_add]; exact hb, fun k u hu => ?_⟩
  rw [add_of_add]
  refine hc _ u ?_
  rw [← hu]
  simp [bys, List.getElem?_drop]
theorem BytesAt.take_ {w : World} {B : Nat} {A : Option Addr} {l : List Nat} (h : BytesAt w B A l) (j : Nat) : BytesAt w B A (l.take j) := by
  refine ⟨by rw [bys_length]; omega, fun hn => ?_⟩
  obtain ⟨a, e, hb, hc⟩ := h.2 (by rw [List.length_take] at hn; omega)
  refine ⟨a, e, hb, fun k u hu => hc k u ?_⟩
  simp only [bys, List.getElem?_map, List.getElem?_take] at hu ⊢
  split at hu
  · exact hu
  · cases hu
theorem or_join {a b : Nat} (ha : a < 256) (hb : b < 256) : bits .or .i64 ((a : Int) * 256) (b : Int) = ((a * 256 + b : Nat) : Int) := by
  have e1 : (BitVec.ofInt 64 ((a : Int) * 256)).toNat = a * 256 := by rw [BitVec.toNat_ofInt]; omega
  have e2 : (BitVec.ofInt 64 (b : Int)).toNat = b := by rw [BitVec.toNat_ofInt]; omega
  show IntKind.i64.wrap ((BitVec.ofInt 64 ((a : Int) * 256) ||| BitVec.ofInt 64 (b : Int)).toNat : Int) = _
  rw [BitVec.toNat_or, e1, e2, nat_join 8 (a * 256) b (by omega) (by omega)]
  simp [IntKind.wrap, IntKind.bits, IntKind.signed]
  omega
set_option maxRecDepth 100000 in
set_option maxHeartbeats 1000000 in
theorem get_any (A : Option Addr) (c B : Nat) (l : List Nat) (i : Int) (w : World) (ha : BytesAt w B A l) (hB : B ≤ w.heap.size) (hs : Small l) (hr : Room A l.length c) (hi1 : -9223372036854775808 ≤ i) (hi2 : i ≤ 9223372036854775807) :
    Calls Try.prog 47 #[.slice A l.length c, .int .i64 i] w fun e w' => Told w (getd l i) i e w' := by
  obtain ⟨hlc, hcm⟩ := hr
  unfold maxLen at hcm
  by_cases h0 : i < 0 ∨ (l.length : Int) < i
  · rw [getd_out h0]
    unfold Told
    rcases (show i < 0 ∨ (¬ i < 0 ∧ (l.length : Int) < i) by omega) with h1 | ⟨h1, h2⟩
    all_goals
      go_enter Try.func47, Try.ntmps47
      go_wp2_with fail
      go_ret3
      exact ⟨rfl, Below.refl _ _⟩
  · obtain ⟨j, rfl⟩ := Int.eq_ofNat_of_zero_le (show 0 ≤ i by omega)
    have hj : j ≤ l.length := by omega
    rw [getd_in hj]
    have hxl : (l.drop j).length = l.length - j := List.length_drop
    by_cases h6 : l.length - j < 6
    · rw [getx_short (by omega)]
      unfold Told
      clear hxl
      by_cases hcj : c = j
      case' pos => subst hcj
      all_goals
        go_enter Try.func47, Try.ntmps47
        go_wp2_with fail
        go_ret3
        exact ⟨rfl, Below.refl _ _⟩
    · obtain ⟨ad, rfl, c0⟩ := ha.get (k := j) (by omega)
      obtain ⟨ad', had, c1⟩ := ha.get (k := j + 1) (by omega)
      injection had with had
      subst had
      have hadd : ad.add (j + 1) = ⟨(ad.add j).block, (ad.add j).off + 1, none⟩ := by
        by_cases hj0 : j = 0
        · subst hj0; simp [Addr.add]
        · simp [Addr.add, hj0, Nat.add_assoc]
      rw [hadd] at c1
      have x0 := hs.get (k := j) (by omega)
      have x1 := hs.get (k := j + 1) (by omega)
      have hn : numAt (l.drop j) = l[j] * 256 + l[j + 1] := by
        unfold numAt
        simp [List.getD_eq_getElem?_getD, List.getElem?_drop, List.getElem?_eq_getElem (show j < l.length by omega), List.getElem?_eq_getElem (show j + 1 < l.length by omega)]
      have hor := or_join x0 x1
      rw [← hn] at hor
      have hN := numAt_lt (hs.drop j)
      have hX6 : ¬ (l.drop j).length < 6 := by omega
      have G3 := fun h2 => getx_long hX6 h2
      have G2 := fun h2 h3 => getx_cut (x := l.drop j) hX6 h2 h3
      have G5 := fun h2 h3 h4 => getx_sum (x := l.drop j) hX6 h2 h3 h4
      have G0 := fun h2 h3 h4 => getx_ok (x := l.drop j) hX6 h2 h3 h4
      generalize numAt (l.drop j) = N at hor hN G3 G2 G5 G0
      generalize getx (l.drop j) = G at G3 G2 G5 G0 ⊢
      have HX := ha.drop_ j
      have sX := hs.drop j
      generalize l[j] = z0 at *
      generalize l[j + 1] = z1 at *
      replace G3 := Lib.hid G3
      replace G2 := Lib.hid G2
      replace G5 := Lib.hid G5
      replace G0 := Lib.hid G0
      go_enter Try.func47, Try.ntmps47
      go_wp2_with fail
      generalize ad.add j = ax at c0 c1 HX ⊢
      generalize l.drop j = X at hxl HX sX G3 G2 G5 G0 hX6 ⊢
      rw [← hxl] at h6 ⊢
      have hcx : X.length ≤ c - j := by omega
      have hcx2 : c - j ≤ 9223372036854775807 := by omega
      generalize c - j = cx at hcx hcx2 ⊢
      have k0 : (0 : Int) < (X.length : Int) := by omega
      have k2 : 0 < X.length := by omega
      have k1 : (1 : Int) < (X.length : Int) := by omega
      have wr0 : IntKind.i64.wrap (z0 : Int) = z0 := by simp [IntKind.wrap, IntKind.bits, IntKind.signed]; omega
      have wr1 : IntKind.i64.wrap (z1 : Int) = z1 := by simp [IntKind.wrap, IntKind.bits, IntKind.signed]; omega
      have wr2 : IntKind.i64.wrap ((z0 : Int) * 256) = z0 * 256 := by simp [IntKind.wrap, IntKind.bits, IntKind.signed]; omega
      have hjx : j + X.length ≤ l.length := by omega
      have hlm : l.length ≤ 9223372036854775807 := by omega
      clear hxl
      go_region_held3 (fun w' => w'.cell? ax = some (.int .u8 (z0 : Int)) ∧ w'.cell? ⟨ax.block, ax.off + 1, none⟩ = some (.int .u8 (z1 : Int))) (first | go_keep) (fail)
      replace HX : BytesAt w.drew B (some ax) X := HX
      have b0 : Below w.heap.size w w.drew := (Below.refl _ _).drew
      have hBd : B ≤ w.drew.heap.size := hB
      have hWd : w.heap.size ≤ w.drew.heap.size := Nat.le_refl _
      generalize w.drew = w1 at HX b0 hBd hWd ⊢
      clear wr0 wr1 wr2 hor c0 c1 k0 k1 k2 hadd x0 x1
      rcases (show 8192 < N ∨ (¬ 8192 < N ∧ X.length < 6 + N) ∨ (¬ 8192 < N ∧ ¬ X.length < 6 + N) by omega) with r1 | ⟨r1, r2⟩ | ⟨r1, r2⟩
      · go_wp2_with fail
        go_ret3
        rw [G3.out r1]
        exact ⟨rfl, b0⟩
      · go_wp2_with fail
        go_ret3
        rw [G2.out r1 r2]
        exact ⟨rfl, b0⟩
      · have hpl : ((X.drop 6).take N).length = N := by rw [List.length_take, List.length_drop]; omega
        have hwl : (X.take (6 + N)).length = 6 + N := by rw [List.length_take]; omega
        have ok : recd ((X.drop 6).take N) = X.take (6 + N) → G = .ok ((X.drop 6).take N) := G0.out r1 r2
        have no : recd ((X.drop 6).take N) ≠ X.take (6 + N) → G = .err 5 := G5.out r1 r2
        have sp : Small ((X.drop 6).take N) := (sX.drop 6).take N
        have sw := sX.take (6 + N)
        have RP := (HX.drop_ 6).take_ N
        have RW := HX.take_ (6 + N)
        generalize (X.drop 6).take N = p at hpl ok no sp RP
        generalize X.take (6 + N) = W at hwl ok no sw RW
        have OK := Lib.hid ok
        have NO := Lib.hid no
        clear ok no G0 G2 G3 G5
        subst hpl
        have hpm : p.length ≤ 8192 := by omega
        have hC : Calls Try.prog 37 #[.slice (if cx = 6 then some ax else some ⟨ax.block, ax.off + 6, none⟩) p.length (cx - 6)] w1 fun e w' => ∃ A' c', e = .returned (.slice A' p.length c') ∧ Own w' w1.heap.size (.slice A' p.length c') p ∧ Below w1.heap.size w1 w' := by
          by_cases r3 : cx = 6
          · have r4 : p = [] := List.eq_nil_of_length_eq_zero (by omega)
            subst r4
            rw [if_pos r3]
            exact clone_any ax _ 0 [] w1 ⟨rfl, fun h => absurd h (by simp)⟩ (by simp)
          · rw [if_neg r3]
            exact clone_any _ _ B p w1 RP (by omega)
        have hE := fun (A10 : Option Addr) (c10 : Nat) (w3 : World) (h : BytesAt w3 w3.heap.size A10 (recd p)) (h' : BytesAt w3 B (some ax) W) => equal_any A10 (some ax) c10 cx _ _ (recd p) W w3 h h' (recd_small sp (by omega)) sw
        rw [hwl] at hE
        have hres : Hid (decide (recd p = W) = true ∧ G = .ok p) ∨ Hid (decide (recd p = W) = false ∧ G = .err 5) := by
          by_cases hq : recd p = W
          · exact .inl (Lib.hid ⟨decide_eq_true hq, OK.out hq⟩)
          · exact .inr (Lib.hid ⟨decide_eq_false hq, NO.out hq⟩)
        clear OK NO
        rcases (show cx = 6 ∨ ¬ cx = 6 by omega) with r3 | r3
        case' inl =>
          have r4 : p.length = 0 := by omega
          have r5 : p = [] := List.eq_nil_of_length_eq_zero r4
          subst r5 r3
        all_goals
          first | rw [if_pos rfl] at hC | rw [if_neg r3] at hC
          go_wp2_with fail
          refine hC.mono ?_
          clear hC
          rintro e w2 ⟨A9, c9, rfl, O9, b9⟩
          have RW2 := RW.below (b9.mono hBd)
          have b9a := b0.trans (b9.mono hWd)
          have hw2 := b9.size
          go_wp2_with fail
          refine (put_yes A9 c9 _ _ w2 O9.reads (Nat.le_refl _) sp hpm).mono ?_
          rintro e w3 ⟨A10, c10, rfl, O10, b10⟩
          have RW3 := RW2.below (b10.mono (by omega))
          have O9a := (O9.below b10 (Nat.le_refl _)).mono hWd
          have b10a := b9a.trans (b10.mono (by have := b9a.size; omega))
          have hF := hE A10 c10 w3 O10.reads RW3
          clear b0 b9 b10 RW RW2 RW3 O9 O10 b9a HX hE
          go_wp2_with fail
          refine hF.mono ?_
          clear hF
          rintro e w4 ⟨rfl, rfl⟩
          rcases hres with hq | hq
          · rw [hq.out.1]
            go_wp2_with fail
            go_ret3
            rw [hq.out.2]
            exact ⟨A9, c9, rfl, O9a, b10a⟩
          · rw [hq.out.1]
            go_wp2_with fail
            go_ret3
            rw [hq.out.2]
            exact ⟨rfl, b10a⟩
end Go.Proofs.Ytkhbpaloicefdaa
