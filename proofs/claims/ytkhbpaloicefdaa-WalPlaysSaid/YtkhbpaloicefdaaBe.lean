/- vokref10.Be: a number in so many bytes. -/
import Derived.Test.YtkhbpaloicefdaaPut
namespace Go.Proofs.Ytkhbpaloicefdaa
open Go.RowKit
set_option linter.unusedVariables false
theorem one_reads (w : World) (x : Int) : Reads (w.alloc (.cells #[.int .u8 x] 5)) (w.heap.size + 1) 1 (some ⟨w.heap.size, 0, none⟩) 1 [.int .u8 x] := by
  refine ⟨rfl, fun _ => ⟨_, rfl, by simp, fun j u hu => ?_⟩⟩
  have hh := heap_alloc_new w (.cells #[.int .u8 x] 5)
  have hadd : (⟨w.heap.size, 0, none⟩ : Addr).add j = ⟨w.heap.size, j, none⟩ := by unfold Addr.add; split <;> simp_all
  rw [hadd, cell_of_row _ _ j _ 5 (0, 0) hh]
  simpa using hu
theorem own_snoc {w : World} {base n : Nat} {v : Value} {l : List Nat} {x : Int} {y : Nat} {k : List Nat} (h : w.ownsRow base 5 1 v n (bys l ++ [.int .u8 x])) (e : n = l.length + 1) (hx : x = (y : Int)) (hk : k = l ++ [y]) : Own w base v k := by
  subst e hx hk
  unfold Own
  simpa [bys] using h
set_option maxRecDepth 100000 in
set_option maxHeartbeats 1000000 in
theorem be_two (n : Nat) (hn : n < 65536) (w : World) :
    Calls Try.prog 50 #[.int .i64 2, .int .i64 n] w fun e w' => ∃ A c, e = .returned (.slice A (hd n).length c) ∧ Own w' w.heap.size (.slice A (hd n).length c) (hd n) ∧ Below w.heap.size w w' := by
  obtain ⟨i0, hi, hz0, hz1, hz2⟩ := info_parts byte_row
  go_enter Try.func50, Try.ntmps50
  go_wp2_with fail
  go_loopw [5, 6] (fun sv i wr => ∃ (j : Nat) (v : Value), j ≤ 2 ∧ i = .int .i64 (1 - j) ∧ v = sv ∧ Own wr w.heap.size v ((hd n).take j) ∧ Below w.heap.size w wr) (fun _ i _ => (intOf i + 1).toNat)
  case atStart => exact ⟨0, _, by omega, rfl, rfl, World.ownsRow_nil _ _ _ _, Below.refl _ _⟩
  case round =>
    obtain ⟨j, v, hj, rfl, rfl, O, b⟩ := hrel
    have hw := b.size
    match j, hj with
    | 0, _ =>
      go_wp2_with (at_builtin; refine wpList_append_any _ rfl (.tmp 13) (.tmp 20) _ rfl w.heap.size 5 i0 _ 1 1 Try.underlying32 hi hz0 hz1 hz2 rfl (by omega) _ _ _ rfl (O.alloc _) _ _ 1 1 _ rfl (one_reads _ _) (by intro u hu; simp at hu; subst hu; rfl) (by simp [maxLen]) (by simp) (by simp; omega) ?_; intro v6 w6 o6 g6 at6)
      go_roundw
      case rel => exact ⟨1, v6, by omega, by go_num, rfl, own_snoc (y := n / 256) o6 rfl (by omega) rfl, (b.alloc hw _).grown g6 (by simp; omega) (fun k hk => (World.ownsRow.lt O k hk).1)⟩
      case measure => simp [intOf]
    | 1, _ =>
      go_wp2_with (at_builtin; refine wpList_append_any _ rfl (.tmp 13) (.tmp 20) _ rfl w.heap.size 5 i0 _ 1 1 Try.underlying32 hi hz0 hz1 hz2 rfl (by omega) _ _ _ rfl (O.alloc _) _ _ 1 1 _ rfl (one_reads _ _) (by intro u hu; simp at hu; subst hu; rfl) (by simp [maxLen, hd]) (by simp [hd]) (by simp; omega) ?_; intro v6 w6 o6 g6 at6)
      go_roundw
      case rel => exact ⟨2, v6, by omega, by go_num, rfl, own_snoc (y := n % 256) o6 rfl (by omega) rfl, (b.alloc hw _).grown g6 (by simp; omega) (fun k hk => (World.ownsRow.lt O k hk).1)⟩
      case measure => simp [intOf]
    | 2, _ =>
      have O2 : Own wr w.heap.size v (hd n) := O
      obtain ⟨A, c, rfl⟩ := O2.form
      go_wp2_with fail
      go_ret
      exact ⟨A, c, rfl, O2, b⟩
set_option maxRecDepth 100000 in
set_option maxHeartbeats 1000000 in
theorem be_quad (n : Nat) (hn : n < 4294967296) (w : World) :
    Calls Try.prog 50 #[.int .i64 4, .int .i64 n] w fun e w' => ∃ A c, e = .returned (.slice A (be4 n).length c) ∧ Own w' w.heap.size (.slice A (be4 n).length c) (be4 n) ∧ Below w.heap.size w w' := by
  obtain ⟨i0, hi, hz0, hz1, hz2⟩ := info_parts byte_row
  go_enter Try.func50, Try.ntmps50
  go_wp2_with fail
  go_loopw [5, 6] (fun sv i wr => ∃ (j : Nat) (v : Value), j ≤ 4 ∧ i = .int .i64 (3 - j) ∧ v = sv ∧ Own wr w.heap.size v ((be4 n).take j) ∧ Below w.heap.size w wr) (fun _ i _ => (intOf i + 1).toNat)
  case atStart => exact ⟨0, _, by omega, rfl, rfl, World.ownsRow_nil _ _ _ _, Below.refl _ _⟩
  case round =>
    obtain ⟨j, v, hj, rfl, rfl, O, b⟩ := hrel
    have hw := b.size
    match j, hj with
    | 0, _ =>
      go_wp2_with (at_builtin; refine wpList_append_any _ rfl (.tmp 13) (.tmp 20) _ rfl w.heap.size 5 i0 _ 1 1 Try.underlying32 hi hz0 hz1 hz2 rfl (by omega) _ _ _ rfl (O.alloc _) _ _ 1 1 _ rfl (one_reads _ _) (by intro u hu; simp at hu; subst hu; rfl) (by simp [maxLen, be4]) (by simp [be4]) (by simp; omega) ?_; intro v6 w6 o6 g6 at6)
      go_roundw
      case rel => exact ⟨1, v6, by omega, by go_num, rfl, own_snoc (y := n / 16777216) o6 rfl (by omega) rfl, (b.alloc hw _).grown g6 (by simp; omega) (fun k hk => (World.ownsRow.lt O k hk).1)⟩
      case measure => simp [intOf]
    | 1, _ =>
      go_wp2_with (at_builtin; refine wpList_append_any _ rfl (.tmp 13) (.tmp 20) _ rfl w.heap.size 5 i0 _ 1 1 Try.underlying32 hi hz0 hz1 hz2 rfl (by omega) _ _ _ rfl (O.alloc _) _ _ 1 1 _ rfl (one_reads _ _) (by intro u hu; simp at hu; subst hu; rfl) (by simp [maxLen, be4]) (by simp [be4]) (by simp; omega) ?_; intro v6 w6 o6 g6 at6)
      go_roundw
      case rel => exact ⟨2, v6, by omega, by go_num, rfl, own_snoc (y := n / 65536 % 256) o6 rfl (by omega) rfl, (b.alloc hw _).grown g6 (by simp; omega) (fun k hk => (World.ownsRow.lt O k hk).1)⟩
      case measure => simp [intOf]
    | 2, _ =>
      go_wp2_with (at_builtin; refine wpList_append_any _ rfl (.tmp 13) (.tmp 20) _ rfl w.heap.size 5 i0 _ 1 1 Try.underlying32 hi hz0 hz1 hz2 rfl (by omega) _ _ _ rfl (O.alloc _) _ _ 1 1 _ rfl (one_reads _ _) (by intro u hu; simp at hu; subst hu; rfl) (by simp [maxLen, be4]) (by simp [be4]) (by simp; omega) ?_; intro v6 w6 o6 g6 at6)
      go_roundw
      case rel => exact ⟨3, v6, by omega, by go_num, rfl, own_snoc (y := n / 256 % 256) o6 rfl (by omega) rfl, (b.alloc hw _).grown g6 (by simp; omega) (fun k hk => (World.ownsRow.lt O k hk).1)⟩
      case measure => simp [intOf]
    | 3, _ =>
      go_wp2_with (at_builtin; refine wpList_append_any _ rfl (.tmp 13) (.tmp 20) _ rfl w.heap.size 5 i0 _ 1 1 Try.underlying32 hi hz0 hz1 hz2 rfl (by omega) _ _ _ rfl (O.alloc _) _ _ 1 1 _ rfl (one_reads _ _) (by intro u hu; simp at hu; subst hu; rfl) (by simp [maxLen, be4]) (by simp [be4]) (by simp; omega) ?_; intro v6 w6 o6 g6 at6)
      go_roundw
      case rel => exact ⟨4, v6, by omega, by go_num, rfl, own_snoc (y := n % 256) o6 rfl (by omega) rfl, (b.alloc hw _).grown g6 (by simp; omega) (fun k hk => (World.ownsRow.lt O k hk).1)⟩
      case measure => simp [intOf]
    | 4, _ =>
      have O2 : Own wr w.heap.size v (be4 n) := O
      obtain ⟨A, c, rfl⟩ := O2.form
      go_wp2_with fail
      go_ret
      exact ⟨A, c, rfl, O2, b⟩
end Go.Proofs.Ytkhbpaloicefdaa
