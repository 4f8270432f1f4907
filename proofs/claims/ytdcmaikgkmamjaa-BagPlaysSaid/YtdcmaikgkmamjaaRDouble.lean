/- The document's bag: Double (written by mkref.py). -/
import Derived.Test.YtdcmaikgkmamjaaRGet
import Derived.Deep.RegionLaw
import Derived.Deep.QuietTactic
import Derived.BigQuiet
namespace Go.Proofs.Ytdcmaikgkmamjaa.Ref
open Go.RowKit
set_option linter.unusedVariables false
attribute [local go_sem ↓] Go.wp_at_zero Go.wp_at_succ
section
variable {T T' base : Nat} {w w' : World} {b c : Nat} {r lost r' lost' : Int} {v v' : Value} {xs ys : List Value} {L K : List (List Nat)}
set_option maxRecDepth 100000 in
set_option maxHeartbeats 2000000 in
theorem double_yes (h : BagAt 44 base w b r lost v xs L) (hbase : base ≤ w.heap.size) {i : Nat} (hi : i < L.length) (hf : (L.length : Int) < r) (hl : L.length ≤ 100000) (hli : L[i].length ≤ 1000000) :
    Calls Try.prog 21 #[.pointer (some ⟨b, 0, none⟩), .int .i64 i] w fun e w' => ∃ v' u, e = .returned (.bool true) ∧ Turn 44 base w w' b v xs r lost v' (xs ++ [u]) (L ++ [L[i]]) := by
  obtain ⟨i0, hi0, hz0, hz1, hz2⟩ := info_parts list_row
  have G := get_yes h hi (by omega) hli
  obtain ⟨_, _, _, _, _, _, _, _, _, _, hsm⟩ := h.get hi
  obtain ⟨A', c', rfl⟩ := header_form h.own
  have hd : decide (r ≤ (L.length : Int)) = false := by simp; omega
  go_enter Try.func21, Try.ntmps21
  go_wp2_with fail
  refine G.mono ?_
  clear G
  rintro e w1 ⟨A1, c1, rfl, O1, b1⟩
  have D1 := h.quiet (below_quiet2 b1)
  have e0 := D1.cell0
  have e2 := D1.cell2
  have D2 := fun n => (D1.quiet (drewN_grown w1 n)).quiet (alloc_grown (w1.drewN n) (.cells #[.slice A1 L[i].length c1] 30))
  have nw2 := fun n => one_reads (w1.drewN n) (.slice A1 L[i].length c1) (w1.heap.size + 1) (by show w1.heap.size < _; omega)
  have hb2 : ∀ n, base ≤ ((w1.drewN n).alloc (.cells #[.slice A1 L[i].length c1] 30)).heap.size := fun n => by
    have h1 : w.heap.size ≤ w1.heap.size := b1.size
    have h2 : ((w1.drewN n).alloc (.cells #[.slice A1 L[i].length c1] 30)).heap.size = w1.heap.size + 1 := by simp
    omega
  have ho1 := Lib.hid (fun u hu => by (obtain rfl : u = .slice A1 L[i].length c1 := by simpa using hu); rfl : ∀ u ∈ [Value.slice A1 L[i].length c1], u.oneCell' = true)
  have h63 : Hid (L.length + 1 ≤ maxLen) := Lib.hid (by simp only [maxLen]; omega)
  have h47 : Hid ((L.length + 1) * 24 ≤ 140737488355328) := Lib.hid (by omega)
  go_wp2_with fail
  go_quiet (fail)
  go_wp2_with (at_builtin; refine wpList_append_any _ rfl (.tmp 31) (.tmp 33) 42 rfl base 30 i0 _ 1 24 Try.underlying42 hi0 hz0 hz1 hz2 rfl (by decide) _ _ _ rfl (D2 _).own _ _ 1 1 [.slice A1 L[i].length c1] rfl (nw2 _) ho1.out h63.out h47.out (hb2 _) ?_; intro v2 w2 o2 g2 at2; have f2 := head_free (D2 _) g2; obtain ⟨f2, f3, f4⟩ := f2; obtain ⟨A3, c3, rfl⟩ := header_form o2)
  have M := put_done (u := .slice A1 L[i].length c1) (m := L[i]) (grown_to (below_quiet2 b1) (grown_to (drewN_grown w1 nq) (alloc_grown (w1.drewN nq) (.cells #[.slice A1 L[i].length c1] 30)))) (D2 nq) (quiet_row (quiet_row (RowIs.own O1 hsm) (drewN_grown w1 nq)) (alloc_grown _ _)) (fun g hg => by have := World.ownsRow.lt O1 g hg; exact this.1) o2 g2 at2
  go_wp2_with fail
  go_ret
  exact ⟨_, _, rfl, M⟩
set_option maxRecDepth 100000 in
set_option maxHeartbeats 2000000 in
theorem double_full (h : BagAt 44 base w b r lost v xs L) {i : Nat} (hi : i < L.length) (hf : r ≤ (L.length : Int)) (hl : L.length ≤ 100000) (hli : L[i].length ≤ 1000000) :
    Calls Try.prog 21 #[.pointer (some ⟨b, 0, none⟩), .int .i64 i] w fun e w' => e = .returned (.bool false) ∧ w.grownBy w' none := by
  have G := get_yes h hi (by omega) hli
  obtain ⟨A', c', rfl⟩ := header_form h.own
  have hd : decide (r ≤ (L.length : Int)) = true := by simpa using hf
  go_enter Try.func21, Try.ntmps21
  go_wp2_with fail
  refine G.mono ?_
  clear G
  rintro e w1 ⟨A1, c1, rfl, O1, b1⟩
  have D1 := h.quiet (below_quiet2 b1)
  have e0 := D1.cell0
  have e2 := D1.cell2
  go_wp2_with fail
  go_quiet (fail)
  go_wp2_with fail
  go_ret
  exact ⟨rfl, grown_to (below_quiet2 b1) (drewN_grown w1 _)⟩
set_option maxRecDepth 100000 in
set_option maxHeartbeats 2000000 in
theorem double_no (h : BagAt 44 base w b r lost v xs L) {i : Int} (hi : i < 0 ∨ (L.length : Int) ≤ i) (hl : L.length ≤ 100000) :
    Calls Try.prog 21 #[.pointer (some ⟨b, 0, none⟩), .int .i64 i] w fun e w' => e = .returned (.bool false) ∧ w.grownBy w' none := by
  have G := get_no h hi (by omega)
  go_enter Try.func21, Try.ntmps21
  go_wp2_with fail
  refine G.mono ?_
  clear G
  rintro e w1 ⟨rfl, rfl⟩
  have e0 := h.cell0
  have e2 := h.cell2
  go_wp2_with fail
  go_quiet (fail)
  go_wp2_with fail
  go_ret
  exact ⟨rfl, drewN_grown w _⟩
end
end Go.Proofs.Ytdcmaikgkmamjaa.Ref
