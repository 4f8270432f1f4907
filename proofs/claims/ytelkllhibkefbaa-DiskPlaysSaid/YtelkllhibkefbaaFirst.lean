/- What the chapter's examples fix. -/
import Derived.Test.YtelkllhibkefbaaPlayed
import Derived.Test.YtelkllhibkefbaaSame
namespace Go.Proofs.Ytelkllhibkefbaa
open Go.RowKit
set_option linter.unusedVariables false
attribute [local go_sem ↓] Go.wp_at_zero Go.wp_at_succ
/-- A literal of bytes. -/
theorem lit_bytes (w : World) (vs : Array Value) (l : List Nat) (hv : vs.toList = bys l) : BytesAt (w.alloc (.cells vs 5)) (w.heap.size + 1) (some ⟨w.heap.size, 0, none⟩) l := by
  refine ⟨by rw [bys_length]; omega, fun _ => ⟨_, rfl, by simp, fun j u hu => ?_⟩⟩
  have hh := heap_alloc_new w (.cells vs 5)
  have hadd : (⟨w.heap.size, 0, none⟩ : Addr).add j = ⟨w.heap.size, j, none⟩ := by unfold Addr.add; split <;> simp_all
  rw [hadd, cell_of_row _ _ j _ 5 (0, 0) hh, ← Array.getElem?_toList, hv]
  exact hu
theorem lit_room (a : Addr) (n : Nat) (h : n ≤ maxLen) : Room (some a) n n := ⟨Nat.le_refl _, h, fun e => by cases e⟩
set_option maxRecDepth 100000 in
set_option maxHeartbeats 2000000 in
theorem first_any (w : World) : Calls Try.prog 8 #[] w fun e w' => e = .returned (.bool true) ∧ Below w.heap.size w w' := by
  have N := new_yes 5 (by omega) (by omega) w
  go_enter Try.func8, Try.ntmps8
  go_wp2_with fail
  refine N.mono ?_
  rintro e w1 ⟨rfl, rfl⟩
  have D0 := DiskAt.new_ w 5
  have b0 : Below w.heap.size w (w.alloc (.cells #[.int .i64 5, .int .i64 0, .slice none 0 0] 52)) := (Below.refl _ _).alloc (Nat.le_refl _) _
  clear N
  obtain ⟨d, hd⟩ : ∃ d, d = w.heap.size := ⟨_, rfl⟩
  rw [← hd] at D0
  rw [← hd]
  have hdw : w.heap.size ≤ d := by omega
  have HD := Lib.hid hd
  clear hd
  generalize w.alloc (.cells #[.int .i64 5, .int .i64 0, .slice none 0 0] 52) = w1 at D0 b0 ⊢
  have L1 := lit_bytes w1 #[.int .u8 1, .int .u8 2] [1, 2] rfl
  have K1 := append_yes (D0.quiet (alloc_grown w1 (.cells #[.int .u8 1, .int .u8 2] 5))) L1 (by simp) (lit_room _ 2 (by simp [maxLen])) (by simp [Small]) (by simp) (by simp) (by omega) (by omega) (by simp)
  have b1 := b0.alloc b0.size (.cells #[.int .u8 1, .int .u8 2] 5)
  clear b0 D0 L1
  go_wp2_with fail
  refine K1.mono ?_
  rintro e w2 ⟨A2, c2, rfl, D2, g2⟩
  have b2 := b1.grown g2 b1.size (fun k hk => by injection hk with hk; omega)
  clear b1 g2 K1
  go_wp2_with fail
  refine (sync_any D2).mono ?_
  rintro e w3 ⟨rfl, D3, g3⟩
  have b3 := b2.grown g3 b2.size (fun k hk => by injection hk with hk; omega)
  clear b2 g3 D2
  have L1 := lit_bytes w3 #[.int .u8 3, .int .u8 4] [3, 4] rfl
  have K1 := append_yes (D3.quiet (alloc_grown w3 (.cells #[.int .u8 3, .int .u8 4] 5))) L1 (by simp) (lit_room _ 2 (by simp [maxLen])) (by simp [Small]) (by simp) (by simp) (by omega) (by omega) (by simp)
  have b4 := b3.alloc b3.size (.cells #[.int .u8 3, .int .u8 4] 5)
  clear b3 D3 L1
  go_wp2_with fail
  refine K1.mono ?_
  rintro e w4 ⟨A4, c4, rfl, D4, g4⟩
  have b5 := b4.grown g4 b4.size (fun k hk => by injection hk with hk; omega)
  clear b4 g4 K1
  have K1 := append_no (n := 2) (A2 := some ⟨w4.heap.size, 0, none⟩) (c2 := 2) (D4.quiet (alloc_grown w4 (.cells #[.int .u8 5, .int .u8 6] 5))) (by simp [maxLen]) (by simp) (by omega) (by omega) (by simp)
  have b6 := b5.alloc b5.size (.cells #[.int .u8 5, .int .u8 6] 5)
  clear b5 D4
  go_wp2_with fail
  refine K1.mono ?_
  rintro e w5 ⟨rfl, D5, g5⟩
  have b7 := b6.grown g5 b6.size (by simp)
  clear b6 g5 K1
  have K1 := crash_any (s := 2) D5 1 (by omega) (by omega) (by simp) (by simp)
  go_wp2_with fail
  refine K1.mono ?_
  rintro e w6 ⟨A6, c6, rfl, D6, g6⟩
  replace D6 : DiskAt w6 d 5 ((3 : Nat) : Int) A6 c6 [1, 2, 3] := D6
  have b8 := b7.grown g6 b7.size (fun k hk => by injection hk with hk; omega)
  clear b7 g6 K1 D5
  have K1 := bytes_of D6 (by simp)
  go_wp2_with fail
  refine K1.mono ?_
  rintro e w7 ⟨A7, c7, rfl, O7, b9⟩
  have b10 := b8.trans (b9.mono b8.size)
  have R7 := O7.reads
  clear b8 b9 D6 K1 O7
  have L1 := lit_bytes w7 #[.int .u8 1, .int .u8 2, .int .u8 3] [1, 2, 3] rfl
  have K1 := bytes_any A7 (some ⟨w7.heap.size, 0, none⟩) c7 3 _ _ [1, 2, 3] [1, 2, 3] _ (R7.alloc (Nat.le_refl _) (.cells #[.int .u8 1, .int .u8 2, .int .u8 3] 5)) L1 (by simp [Small]) (by simp [Small])
  have b11 := b10.alloc b10.size (.cells #[.int .u8 1, .int .u8 2, .int .u8 3] 5)
  clear b10 L1 R7
  go_wp2_with fail
  refine K1.mono ?_
  rintro e w8 ⟨rfl, rfl⟩
  go_wp2_with fail
  go_ret
  exact ⟨rfl, b11⟩
end Go.Proofs.Ytelkllhibkefbaa
