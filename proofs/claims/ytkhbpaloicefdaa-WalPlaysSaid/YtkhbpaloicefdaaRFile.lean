/- The document's disk: Swap (written by mkref.py). -/
import Derived.Test.YtkhbpaloicefdaaRDisk
namespace Go.Proofs.Ytkhbpaloicefdaa.Ref
open Go.RowKit
set_option linter.unusedVariables false
attribute [local go_sem ↓] Go.wp_at_zero Go.wp_at_succ
section
variable {w w' : World} {d c c' : Nat} {r s r' s' : Int} {A A' : Option Addr} {l l' : List Nat}
set_option maxRecDepth 100000 in
set_option maxHeartbeats 1000000 in
theorem swap_new (h : DiskAt w d r s A c l) {B : Nat} {A2 : Option Addr} {c2 : Nat} {k : List Nat} (hk : BytesAt w B A2 k) (hr : Roomy A2 k.length c2) (hs : Small k) (hl : k.length ≤ 1000000) (hfit : (k.length : Int) ≤ r) :
    Calls Try.prog 46 #[.pointer (some ⟨d, 0, none⟩), .slice A2 k.length c2] w fun e w' => ∃ A' c', e = .returned (.int .i64 0) ∧ DiskAt w' d r k.length A' c' k ∧ w.grownBy w' (some d) ∧ (∀ ad, A' = some ad → w.heap.size ≤ ad.block) := by
  have c0 := h.cell0
  have hd : decide (r < (k.length : Int)) = false := by simp; omega
  go_enter Try.func46, Try.ntmps46
  go_wp2_with fail
  refine (copy_any A2 c2 _ k w hk hl).mono ?_
  rintro e w1 ⟨A1, c1, rfl, O1, b1⟩
  have g1 := below_quiet2 b1
  have F1 := O1.from_
  have D1 := h.quiet g1
  have cc := D1.cell2
  have ff := D1.free 2
  obtain ⟨q1, q2, q3⟩ := O1.file h.lt
  have D2 := D1.setFile q1 q2 q3 hs
  have g2 := grown_to g1 (set_grown w1 d 2 (.slice A1 k.length c1))
  clear c0 q1 q2 q3 D1 O1 b1 g1
  go_wp2_with fail
  refine (sync_any D2).mono ?_
  rintro e w2 ⟨rfl, D3, g3⟩
  go_wp2_with fail
  go_ret
  exact ⟨A1, c1, rfl, D3, ⟨g3.os.trans g2.os, g3.tape.trans g2.tape, g3.output.trans g2.output, Nat.le_trans g2.size g3.size, fun i hi hne => (g3.block i (Nat.lt_of_lt_of_le hi g2.size) hne).trans (g2.block i hi hne)⟩, F1⟩
theorem swap_yes (h : DiskAt w d r s A c l) {B : Nat} {A2 : Option Addr} {c2 : Nat} {k : List Nat} (hk : BytesAt w B A2 k) (hr : Roomy A2 k.length c2) (hs : Small k) (hl : k.length ≤ 1000000) (hfit : (k.length : Int) ≤ r) :
    Calls Try.prog 46 #[.pointer (some ⟨d, 0, none⟩), .slice A2 k.length c2] w fun e w' => ∃ A' c', e = .returned (.int .i64 0) ∧ DiskAt w' d r k.length A' c' k ∧ w.grownBy w' (some d) :=
  (swap_new h hk hr hs hl hfit).mono fun e w' ⟨A', c', h1, h2, h3, _⟩ => ⟨A', c', h1, h2, h3⟩
theorem swap_no (h : DiskAt w d r s A c l) {n : Nat} {A2 : Option Addr} {c2 : Nat} (hn : n ≤ maxLen) (hfit : ¬ (n : Int) ≤ r) :
    Calls Try.prog 46 #[.pointer (some ⟨d, 0, none⟩), .slice A2 n c2] w fun e w' => e = .returned (.int .i64 9) ∧ w = w' := by
  unfold maxLen at hn
  have c0 := h.cell0
  have hd : decide (r < (n : Int)) = true := by simp; omega
  go_enter Try.func46, Try.ntmps46
  go_wp2_with fail
  go_ret
  exact ⟨rfl, rfl⟩
end
end Go.Proofs.Ytkhbpaloicefdaa.Ref
