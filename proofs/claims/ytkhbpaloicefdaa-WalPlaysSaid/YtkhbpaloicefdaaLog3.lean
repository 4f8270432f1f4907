/- wal.Checkpoint. -/
import Derived.Test.YtkhbpaloicefdaaLog2
namespace Go.Proofs.Ytkhbpaloicefdaa
open Go.RowKit
set_option linter.unusedVariables false
attribute [local go_sem ↓] Go.wp_at_zero Go.wp_at_succ
theorem joined_take_le (P : List (List Nat)) (j : Nat) : (joined (P.take j)).length ≤ (joined P).length := by
  have e : joined P = joined (P.take j) ++ joined (P.drop j) := by rw [← joined_append, List.take_append_drop]
  rw [e, List.length_append]
  omega
theorem own_rec {w : World} {base : Nat} {P : List (List Nat)} {l : List Nat} {v : Value} (o : w.ownsRow base 5 1 v ((joined P).length + (recd l).length) (bys (joined P) ++ bys (recd l))) : Own w base v (joined (P ++ [l])) := by
  unfold Own
  rw [joined_snoc, List.length_append]
  have e : bys (joined P ++ recd l) = bys (joined P) ++ bys (recd l) := by simp [bys]
  rw [e]
  exact o
section
variable {w w' : World} {W p d c cL : Nat} {S : Lg} {A AL : Option Addr} {xs : List Value}
set_option maxRecDepth 100000 in
set_option maxHeartbeats 4000000 in
theorem log_check (h : LogAt w W p d S A c AL cL xs) (hF : Fine S 300000) {B : Nat} {A2 : Option Addr} {c2 : Nat} {P : List (List Nat)} (hk : PsAt w B A2 P) (hBW : (∀ q ∈ P, q.length ≤ 8192) → B ≤ W) (hB : B ≤ w.heap.size) (hl : P.length ≤ 50000) (hJ : (joined P).length ≤ 300000) :
    Calls Try.prog 16 #[.pointer (some ⟨p, 0, none⟩), .slice A2 P.length c2] w fun e w' => ∃ A' c' AL' cL' xs', e = .returned (.int .i64 (checkL S P).2) ∧ LogAt w' W p d (checkL S P).1 A' c' AL' cL' xs' ∧ Trip (checkL S P).2 w w' d p (.slice AL S.R.length cL) (.slice AL' (checkL S P).1.R.length cL') := by
  obtain ⟨f0, f1, f2, f3⟩ := hF
  have hWw : W ≤ w.heap.size := Nat.le_trans h.wp (Nat.le_of_lt h.lt)
  obtain ⟨i5, hi5, hz50, hz51, hz52⟩ := info_parts byte_row
  have hpw := h.lt
  have hdw := h.disk.lt
  go_enter Try.func16, Try.ntmps16
  go_wp2_with fail
  go_loopw [5, 13] (fun sv si wr => ∃ (j : Nat) (v : Value), v = sv ∧ j ≤ P.length ∧ si = .int .i64 (j : Int) ∧ Own wr w.heap.size v (joined (P.take j)) ∧ (∀ q ∈ P.take j, q.length ≤ 8192) ∧ Below w.heap.size w wr) (fun _ si _ => P.length - (intOf si).toNat)
  case atStart => exact ⟨0, _, rfl, Nat.zero_le _, rfl, World.ownsRow_nil _ _ _ _, by simp, Below.refl _ _⟩
  case round =>
    obtain ⟨j, v, rfl, hj, rfl, O, h8, b⟩ := hrel
    have hw := b.size
    have H8 := Lib.hid h8
    clear h8
    by_cases hlt : j < P.length
    · obtain ⟨ad, A1, c1, rfl, hc0, R1, rm1, hbl⟩ := hk.get hlt
      have hcell := ((b.mono hB).cell hbl).trans hc0
      have R1' := R1.below (b.mono hB)
      have i0' : (0 : Int) ≤ (j : Int) := by omega
      have i1' : (j : Int) < (P.length : Int) := by omega
      have hx := List.take_succ_eq_append_getElem hlt
      have hjl := joined_take_le P (j + 1)
      rw [hx, joined_snoc, List.length_append, recd_length] at hjl
      have HX := Lib.hid hx
      clear hx hc0
      by_cases hle : P[j].length ≤ 8192
      · have K := put_yes A1 c1 B P[j] wr R1' (Nat.le_trans hB hw) (hk.small _ (List.getElem_mem hlt)) hle
        have hrl : (recd P[j]).length = P[j].length + 6 := recd_length _
        have hrl1 : (recd P[j]).length ≤ 8198 := by omega
        have h63 : (joined (P.take j)).length + (recd P[j]).length ≤ maxLen := by unfold maxLen; omega
        have h47 : ((joined (P.take j)).length + (recd P[j]).length) * 1 ≤ 140737488355328 := by omega
        clear hrl
        go_wp2_with fail
        refine K.mono ?_
        clear K
        rintro e w5 ⟨A5, c5, rfl, O5, b5⟩
        have O2 := O.below b5 (Nat.le_refl _)
        have b2 := b.trans (b5.mono hw)
        clear O hcell R1 R1'
        go_wp2_with (at_builtin; refine wpList_append_any _ rfl (.tmp 25) (.tmp 26) 32 rfl w.heap.size 5 i5 _ 1 1 Try.underlying32 hi5 hz50 hz51 hz52 rfl (by omega) _ _ _ rfl O2 _ _ _ _ _ rfl O5.reads (bys_one _) h63 h47 b2.size ?_; intro v4 w4 o4 g4 at4)
        have O4 := own_rec o4
        have b4 := b2.grown g4 b2.size (fun k hk => (World.ownsRow.lt O2 k hk).1)
        clear O2 O5 b2 o4 g4 b5
        go_wp2_with fail
        go_roundw
        case rel => exact ⟨j + 1, v4, rfl, by omega, by go_num, by rw [HX.out]; exact O4, by rw [HX.out]; exact fun q hq => (List.mem_append.1 hq).elim (H8.out q) (fun h => by simp at h; rw [h]; exact hle), b4⟩
        case measure => simp [intOf]; omega
      · have K := put_no A1 c1 P[j].length wr (by omega) (by unfold maxLen; omega)
        have e1 : checkL S P = (S, 3) := if_neg (fun hall => hle (hall _ (List.getElem_mem hlt)))
        have E1 := Lib.hid e1
        clear e1
        go_wp2_with fail
        refine K.mono ?_
        clear K
        rintro e w5 ⟨rfl, rfl⟩
        have g := below_quiet2 b
        go_wp2_with fail
        go_ret
        exact ⟨A, c, AL, cL, xs, by rw [E1.out]; rfl, by rw [E1.out]; exact h.quiet g, by rw [E1.out]; exact Trip.quiet g⟩
    · obtain rfl : j = P.length := by omega
      have h8 := H8.out
      rw [List.take_length] at O h8
      have hsm : Small (joined P) := joined_small (fun q hq => ⟨hk.small q hq, h8 q hq⟩)
      have g := below_quiet2 b
      have H1 := h.half.quiet g
      have D1 := h.disk.quiet g
      have hcc := H1.cell0
      obtain ⟨A5, c5, rfl⟩ := O.form
      by_cases hfit : ((joined P).length : Int) ≤ S.r
      · have e1 : checkL S P = (⟨S.r, (joined P).length, P⟩, 0) := (if_pos h8).trans (if_pos hfit)
        have E1 := Lib.hid e1
        have K := swap_new D1 O.reads O.roomy hsm (by omega) hfit
        clear e1 H8
        go_wp2_with fail
        refine K.mono ?_
        rintro e w3 ⟨A6, c6, rfl, D3, g3, F3⟩
        have H3 := H1.beside D1 g3
        have g03 := grown_to g g3
        have b3 : Below W w w3 := (Below.refl W w).grown g03 hWw (fun k e => by injection e with e; have := h.wd; omega)
        have hW3 := Nat.le_trans hWw b3.size
        have hC := copied_any A2 c2 B P w3 (hk.below (b3.mono (hBW h8))) (Nat.le_trans (hBW h8) hW3) (by omega) (fun l hl => by have := h8 l hl; omega)
        clear K hcc D1 H1
        go_wp2_with fail
        refine hC.mono ?_
        rintro e w4 ⟨A7, c7, ys, rfl, O7, R7, b7⟩
        have g4 := below_quiet2 b7
        have H4 := H3.quiet g4
        have D4 := D3.quiet g4
        have hc4 := H4.cell1
        have hf4 := H4.free 1
        have F := half_put (AL := A7) (cL := c7) H4.blk (ownsRow_mono O7 hW3) ⟨R7.1, fun k hk => by obtain ⟨A', c', e, O⟩ := R7.2 k hk; exact ⟨A', c', e, O.mono hW3⟩⟩
        have D7 := D4.grown (set_grown w4 p 1 (.slice A7 P.length c7)) (fun e => blk_ne H4.blk D4.blk (by decide) (by injection e)) (fun ad e e2 => by
          obtain ⟨cur, hc⟩ := D4.off ad e
          exact blk_ne hc H4.blk (by decide) (by injection e2))
        have hnew := World.ownsRow.lt O7
        clear hC O7 R7 H3 D3
        go_wp2_with fail
        go_ret
        refine ⟨A6, c6, A7, c7, ys, by rw [E1.out]; rfl, by rw [E1.out]; exact F.full (S := ⟨S.r, (joined P).length, P⟩) D7 (fun q hq => ⟨hk.small q hq, h8 q hq⟩) h.wp h.wd, ⟨w3, w4, _, g03, grown_row g4, set_grown _ _ _ _, World.grownBy.refl _ _, ?_⟩, fun hz => absurd (by rw [E1.out]) hz⟩
        refine .inr fun x hx => ?_
        rw [own_len A7 _ P.length c7 c7] at hx
        exact Nat.le_trans g03.size (hnew x hx).1
      · have e1 : checkL S P = (S, 9) := (if_pos h8).trans (if_neg hfit)
        have E1 := Lib.hid e1
        have K := swap_no (A2 := A5) (c2 := c5) D1 (Nat.le_trans O.roomy.le O.roomy.max) hfit
        clear e1 H8
        go_wp2_with fail
        refine K.mono ?_
        rintro e w3 ⟨rfl, rfl⟩
        go_wp2_with fail
        go_ret
        exact ⟨A, c, AL, cL, xs, by rw [E1.out]; rfl, by rw [E1.out]; exact h.quiet g, by rw [E1.out]; exact Trip.quiet g⟩
end
end Go.Proofs.Ytkhbpaloicefdaa
