/- voklaw15.first: what the chapter's examples fix. -/
import Derived.Test.YtkhbpaloicefdaaLog3
namespace Go.Proofs.Ytkhbpaloicefdaa
open Go.RowKit
set_option linter.unusedVariables false
attribute [local go_sem ↓] Go.wp_at_zero Go.wp_at_succ
theorem scand_nil : scand [] = ([], 0) := by have := scand_whole (P := []) (by simp); simpa [joined] using this
theorem byte_own (w : World) (y : Nat) : Own (w.alloc (.cells #[.int .u8 (y : Int)] 5)) w.heap.size (.slice (some ⟨w.heap.size, 0, none⟩) 1 1) [y] := by
  have h := World.ownsRow_lit w (base := w.heap.size) (e := 5) (size := 1) #[.int .u8 (y : Int)] 1 (Nat.le_refl _) (by simp [maxLen]) rfl
  have e : bys [y] = [.int .u8 (y : Int)] := by simp [bys]
  unfold Own
  rw [e]
  exact h
theorem two_cut : scand ((joined [[1], [2]]).take 10) = ([[1]], 7) := by
  have h := scand_cut (P := [[1], [2]]) (n := 1) (cut := 10) (by simp) (by simp) (by simp [endAt, joined, recd, hd, be4]) (by simp [endAt, joined, recd, hd, be4]) (by simp [joined, recd, hd, be4])
  rw [h]
  simp [endAt, joined, recd, hd, be4]
set_option maxRecDepth 100000 in
set_option maxHeartbeats 4000000 in
theorem first_any (w : World) : Calls Try.prog 8 #[] w fun e w' => e = .returned (.bool true) ∧ Below w.heap.size w w' := by
  go_enter Try.func8, Try.ntmps8
  go_wp2_with fail
  refine (new_yes 100 (by omega) (by omega) _).mono ?_
  rintro e w1 ⟨rfl, rfl⟩
  have D1 : DiskAt _ w.heap.size 100 ((0 : Nat) : Int) none 0 [] := DiskAt.new_ w 100
  have b1 := (Below.refl w.heap.size w).alloc (Nat.le_refl _) (.cells #[.int .i64 100, .int .i64 0, .slice none 0 0] 62)
  generalize w.alloc (.cells #[.int .i64 100, .int .i64 0, .slice none 0 0] 62) = w1 at D1 b1 ⊢
  have K1 := open_any D1 (Nat.zero_le _) (by simp)
  have hs0 : scand [] = ([], 0) := scand_nil
  rw [hs0] at K1
  have hw1 := b1.size
  have hd1 := D1.lt
  go_wp2_with fail
  refine K1.mono ?_
  rintro e w2 ⟨p, A2, c2, AL, cL, xs, rfl, hp, hL, g2⟩
  have H2 := hL w.heap.size hw1 (Nat.le_refl _)
  have b2 := b1.grown g2 hw1 (fun k e => by injection e with e; omega)
  have hw2 := b2.size
  clear K1 hL D1 b1 hs0
  have Oa := byte_own w2 1
  have H2a := H2.quiet (alloc_grown w2 (.cells #[.int .u8 ((1 : Nat) : Int)] 5))
  have hF2 : Fine ⟨100, min 0 0, []⟩ 300000 := ⟨by simp, by simp, by simp, by simp [joined]⟩
  have hpd := H2.disk.lt
  have K2 := log_put H2a hF2 Oa.reads (Nat.le_refl _) (fun ad e _ e2 => by injection e with e; subst e; simp at e2; omega) Oa.roomy (by simp [Small])
  have e2 : putL ⟨100, min 0 0, []⟩ [1] = (⟨100, 7, [[1]]⟩, 0) := by simp [putL, addL, syncL, joined, recd, hd, be4]
  rw [e2] at K2
  go_wp2_with fail
  refine K2.mono ?_
  rintro e w3 ⟨A3, c3, AL3, cL3, xs3, rfl, H3, T3⟩
  have b2a := b2.alloc hw2 (.cells #[.int .u8 ((1 : Nat) : Int)] 5)
  have b3 := b2a.trans (T3.below b2a.size (Nat.le_refl _) H2.wp H2a.lb)
  have hw3 := b3.size
  clear K2 H2 H2a b2 b2a T3 Oa
  have Ob := byte_own w3 2
  have H3a := H3.quiet (alloc_grown w3 (.cells #[.int .u8 ((2 : Nat) : Int)] 5))
  have hF3 : Fine ⟨100, 7, [[1]]⟩ 300000 := ⟨by simp, by simp, by simp [joined, recd, hd, be4], by simp [joined, recd, hd, be4]⟩
  have hpd3 := H3.disk.lt
  have K3 := log_add H3a hF3 Ob.reads (Nat.le_refl _) (fun ad e _ e2 => by injection e with e; subst e; simp at e2; omega) Ob.roomy (by simp [Small])
  have e3 : addL ⟨100, 7, [[1]]⟩ [2] = (⟨100, 7, [[1], [2]]⟩, 0) := by simp [addL, joined, recd, hd, be4]
  rw [e3] at K3
  go_wp2_with fail
  refine K3.mono ?_
  rintro e w4 ⟨A4, c4, AL4, cL4, xs4, rfl, H4, T4⟩
  have b3a := b3.alloc hw3 (.cells #[.int .u8 ((2 : Nat) : Int)] 5)
  have b4 := b3a.trans (T4.below b3a.size (Nat.le_refl _) H3.wp H3a.lb)
  have hw4 := b4.size
  have hp4 := H4.wp
  clear K3 H3 H3a b3 b3a T4 Ob
  have hjl : (joined [[1], [2]]).length = 14 := by simp [joined, recd, hd, be4]
  have K4 := crash_new H4.disk 3 (by omega) (by omega) (by show 7 ≤ (joined [[1], [2]]).length; rw [hjl]; omega) (by show (joined [[1], [2]]).length ≤ _; rw [hjl]; omega)
  rw [hjl] at K4
  have el : left_ 7 14 3 = 10 := by decide
  rw [el] at K4
  have HJ := Lib.hid hjl
  clear hjl el
  go_wp2_with fail
  refine K4.mono ?_
  rintro e w5 ⟨A5, c5, rfl, D5, g5, F5⟩
  have b5 := b4.grown g5 hw4 (fun k e => by injection e with e; omega)
  have hw5 := b5.size
  clear K4 H4 b4 g5
  have h10 : ((joined [[1], [2]]).take 10).length = 10 := by rw [List.length_take, HJ.out]; rfl
  have K5 := open_any D5 (by rw [h10]; omega) (by rw [h10]; omega)
  rw [two_cut, h10] at K5
  have hd5 := D5.lt
  clear h10
  go_wp2_with fail
  refine K5.mono ?_
  rintro e w6 ⟨p6, A6, c6, AL6, cL6, xs6, rfl, hp6, hL6, g6⟩
  have H6 := hL6 w.heap.size hw5 (Nat.le_refl _)
  have b6 := b5.grown g6 hw5 (fun k e => by injection e with e; omega)
  clear K5 hL6 D5 b5 g6
  have K6 := log_records H6 (by simp)
  go_wp2_with fail
  refine K6.mono ?_
  rintro e w7 ⟨A7, c7, ys, rfl, O7, R7, b7⟩
  have b8 := b6.trans (b7.mono b6.size)
  go_wp2_with fail
  go_ret
  exact ⟨rfl, b8⟩
end Go.Proofs.Ytkhbpaloicefdaa
