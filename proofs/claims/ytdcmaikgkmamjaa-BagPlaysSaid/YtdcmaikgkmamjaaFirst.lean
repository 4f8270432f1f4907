/- What the chapter's examples fix. -/
import Derived.Test.YtdcmaikgkmamjaaTwin
import Derived.Test.YtdcmaikgkmamjaaSame
import Derived.Lib.SlBytesConst
namespace Go.Proofs.Ytdcmaikgkmamjaa
open Go.RowKit
set_option linter.unusedVariables false
attribute [local go_sem ↓] Go.wp_at_zero Go.wp_at_succ
section
variable {T T' base : Nat} {W w w' : World} {b c : Nat} {r lost r' lost' : Int} {v v' : Value} {xs ys : List Value} {L K : List (List Nat)}
theorem lit_marked (w : World) (vs : Array Value) (l : List Nat) (m : Nat × Nat) (hv : vs.toList = bys l) : BytesAt (w.alloc (.cells vs 5 m)) (w.heap.size + 1) (some ⟨w.heap.size, 0, none⟩) l := by
  refine ⟨by rw [bys_length]; omega, fun _ => ⟨_, rfl, by simp, fun j u hu => ?_⟩⟩
  have hh := heap_alloc_new w (.cells vs 5 m)
  have hadd : (⟨w.heap.size, 0, none⟩ : Addr).add j = ⟨w.heap.size, j, none⟩ := by unfold Addr.add; split <;> simp_all
  rw [hadd, cell_of_row _ _ j _ 5 m hh, ← Array.getElem?_toList, hv]
  exact hu
theorem Turn.below {xs' : List Value} {L' : List (List Nat)} {r'' lost'' : Int} {v'' : Value} (t : Turn T base w w' b v xs r'' lost'' v'' xs' L') (h : BagAt T base w b r lost v xs L) (bel : Below base W w) (hb : base ≤ w.heap.size) : Below base W w' :=
  Kept.below bel t.kept hb (fun k hk => ⟨by have := h.lo; omega, fun e => by have := (header_thirty h.own e.symm).1; omega⟩)
set_option maxRecDepth 100000 in
set_option maxHeartbeats 4000000 in
theorem first_any (w : World) : Calls Try.prog 7 #[] w fun e w' => e = .returned (.bool true) ∧ Below w.heap.size w w' := by
  have ka := fun (w : World) => Lib.run_convert_bytes_const (P := Try.prog) w 30 5 #[.int .u8 97] 1 1 Try.underlying30 Try.underlying5
  have kb := fun (w : World) => Lib.run_convert_bytes_const (P := Try.prog) w 30 5 #[.int .u8 98] 1 1 Try.underlying30 Try.underlying5
  have N := new_yes 9 (by omega) (by omega) w
  go_enter Try.func7, Try.ntmps7
  go_wp2_with fail
  refine N.mono ?_
  rintro e w1 ⟨rfl, rfl⟩
  obtain ⟨d, hd⟩ : ∃ d, d = w.heap.size := ⟨_, rfl⟩
  have D1 : BagAt 49 w.heap.size (w.alloc (.cells #[.int .i64 9, .int .i64 0, .slice none 0 0] 49)) d 9 0 (.slice none 0 0) [] [] := by
    rw [hd]
    exact BagAt.new_ w 9 (.inl rfl) (Nat.le_refl _)
  have b1 : Below w.heap.size w (w.alloc (.cells #[.int .i64 9, .int .i64 0, .slice none 0 0] 49)) := (Below.refl _ _).alloc (Nat.le_refl _) _
  have s1 : w.heap.size ≤ (w.alloc (.cells #[.int .i64 9, .int .i64 0, .slice none 0 0] 49)).heap.size := by simp
  clear N
  rw [← hd]
  have HD := Lib.hid hd
  clear hd
  generalize w.alloc (.cells #[.int .i64 9, .int .i64 0, .slice none 0 0] 49) = w1 at D1 b1 s1 ⊢
  have D1a := D1.quiet (alloc_grown w1 (.cells #[.int .u8 97] 5 (1, 2)))
  have b1a := b1.alloc s1 (.cells #[.int .u8 97] 5 (1, 2))
  have s1a : w.heap.size ≤ (w1.alloc (.cells #[.int .u8 97] 5 (1, 2))).heap.size := Nat.le_trans s1 (by simp)
  have P1 := put_yes D1a s1a (by simp) (by simp) (lit_marked w1 #[.int .u8 97] [97] (1, 2) rfl) (by simp) (lit_room _ 1 (by simp [maxLen])) (by simp [Small]) (by simp)
  go_wp2_with fail
  refine P1.mono ?_
  clear P1
  rintro e w2 ⟨v2, u2, rfl, T2⟩
  have D2 : BagAt 49 w.heap.size w2 d 9 0 v2 _ [[97]] := T2.bag
  have b2 := T2.below D1a b1a s1a
  have s2 : w.heap.size ≤ w2.heap.size := Nat.le_trans s1a T2.kept.size
  clear T2 D1 D1a b1 b1a s1 s1a
  have D2a := D2.quiet (alloc_grown w2 (.cells #[.int .u8 98] 5 (1, 2)))
  have b2a := b2.alloc s2 (.cells #[.int .u8 98] 5 (1, 2))
  have s2a : w.heap.size ≤ (w2.alloc (.cells #[.int .u8 98] 5 (1, 2))).heap.size := Nat.le_trans s2 (by simp)
  have P2 := put_yes D2a s2a (by simp) (by simp) (lit_marked w2 #[.int .u8 98] [98] (1, 2) rfl) (by simp) (lit_room _ 1 (by simp [maxLen])) (by simp [Small]) (by simp)
  go_wp2_with fail
  refine P2.mono ?_
  clear P2
  rintro e w3 ⟨v3, u3, rfl, T3⟩
  have D3 : BagAt 49 w.heap.size w3 d 9 0 v3 _ [[97], [98]] := T3.bag
  have b3 := T3.below D2a b2a s2a
  have s3 : w.heap.size ≤ w3.heap.size := Nat.le_trans s2a T3.kept.size
  clear T3 D2 D2a b2 b2a s2 s2a
  have P3 := double_yes (i := 0) D3 s3 (by simp) (by simp) (by simp) (by simp)
  go_wp2_with fail
  refine P3.mono ?_
  clear P3
  rintro e w4 ⟨v4, u4, rfl, T4⟩
  have D4 : BagAt 49 w.heap.size w4 d 9 0 v4 _ [[97], [98], [97]] := T4.bag
  have b4 := T4.below D3 b3 s3
  have s4 : w.heap.size ≤ w4.heap.size := Nat.le_trans s3 T4.kept.size
  clear T4 D3 b3 s3
  have P4 := take_yes (i := 0) D4 (by simp) (by simp) (by simp)
  go_wp2_with fail
  refine P4.mono ?_
  clear P4
  rintro e w5 ⟨A5, c5, v5, rfl, R5, T5⟩
  replace R5 : RowIs w5 (.slice A5 1 c5) [97] := R5
  have D5 : BagAt 49 w.heap.size w5 d 9 0 v5 _ [[98], [97]] := T5.bag
  have b5 := T5.below D4 b4 s4
  have s5 : w.heap.size ≤ w5.heap.size := Nat.le_trans s4 T5.kept.size
  clear T5 D4 b4 s4
  have P5 := take_yes (i := 1) D5 (by simp) (by simp) (by simp)
  go_wp2_with fail
  refine P5.mono ?_
  clear P5
  rintro e w6 ⟨A6, c6, v6, rfl, R6, T6⟩
  replace R6 : RowIs w6 (.slice A6 1 c6) [97] := R6
  have D6 : BagAt 49 w.heap.size w6 d 9 0 v6 _ [[98]] := T6.bag
  have b6 := T6.below D5 b5 s5
  have s6 : w.heap.size ≤ w6.heap.size := Nat.le_trans s5 T6.kept.size
  replace R5 := R5.turn T6 D5
  clear T6 D5 b5 s5
  have P6 := take_yes (i := 0) D6 (by simp) (by simp) (by simp)
  go_wp2_with fail
  refine P6.mono ?_
  clear P6
  rintro e w7 ⟨A7, c7, v7, rfl, R7, T7⟩
  replace R7 : RowIs w7 (.slice A7 1 c7) [98] := R7
  have D7 : BagAt 49 w.heap.size w7 d 9 0 v7 _ ([] : List (List Nat)) := T7.bag
  have b7 := T7.below D6 b6 s6
  have s7 : w.heap.size ≤ w7.heap.size := Nat.le_trans s6 T7.kept.size
  replace R5 := R5.turn T7 D6
  replace R6 := R6.turn T7 D6
  clear T7 D6 b6 s6
  have z1 : strOf [97] = ⟨#[97]⟩ := by decide +kernel
  have z2 : strOf [98] = ⟨#[98]⟩ := by decide +kernel
  have q5 : (convert 30 9 (.slice A5 1 c5)).run Try.prog w7 = .ok (.string ⟨#[97]⟩) w7 := by rw [← z1]; exact conv_any c5 R5.bytes.1
  have q6 : (convert 30 9 (.slice A6 1 c6)).run Try.prog w7 = .ok (.string ⟨#[97]⟩) w7 := by rw [← z1]; exact conv_any c6 R6.bytes.1
  have q7 : (convert 30 9 (.slice A7 1 c7)).run Try.prog w7 = .ok (.string ⟨#[98]⟩) w7 := by rw [← z2]; exact conv_any c7 R7.bytes.1
  clear R5 R6 R7 z1 z2 ka kb
  go_wp2_with fail
  refine (len_any D7).mono ?_
  rintro e w8 ⟨rfl, rfl⟩
  go_wp2_with fail
  go_ret
  exact ⟨ret_bool (by first | rfl | simp), b7⟩
end
end Go.Proofs.Ytdcmaikgkmamjaa
