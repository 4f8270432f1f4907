/- disk.Bytes, Swap, Append, Cut. -/
import Derived.Test.YtkhbpaloicefdaaDisk
namespace Go.Proofs.Ytkhbpaloicefdaa
open Go.RowKit
set_option linter.unusedVariables false
attribute [local go_sem ↓] Go.wp_at_zero Go.wp_at_succ
/-- A row of one's own as a file of a disk that was there before it. -/
theorem Own.file {w : World} {base d c : Nat} {A : Option Addr} {l : List Nat} (h : Own w base (.slice A l.length c) l) (hd : d < base) : BytesAt w w.heap.size A l ∧ (∀ ad, A = some ad → ∃ cur, w.heap[ad.block]? = some (.cells cur 5 (0, 0))) ∧ Roomy A l.length c := by
  refine ⟨h.reads, ?_, ?_⟩
  · intro ad e
    subst e
    rcases h.2 with ⟨e, _⟩ | ⟨g, cp, cur, e, hb, hg, _⟩
    · injection e with e; cases e
    · injection e with e
      injection e with e
      subst e
      exact ⟨cur, hg⟩
  · rcases h.2 with ⟨e, _⟩ | ⟨g, cp, cur, e, _, _, hn, hm, _⟩
    · injection e with e1 e2 e3
      subst e1 e3
      exact ⟨by rw [e2]; exact Nat.le_refl _, by simp, fun _ => rfl⟩
    · injection e with e1 e2 e3
      subst e1 e3
      exact ⟨hn, hm, fun e => by cases e⟩
theorem Own.from_ {w : World} {base c : Nat} {A : Option Addr} {l : List Nat} (h : Own w base (.slice A l.length c) l) : ∀ ad, A = some ad → base ≤ ad.block := by
  intro ad e
  subst e
  rcases h.2 with ⟨e, _⟩ | ⟨g, cp, cur, e, hb, _⟩
  · injection e with e; cases e
  · injection e with e
    injection e with e
    subst e
    exact hb
theorem clone_nil (w : World) : Calls Try.prog 37 #[.slice none 0 0] w fun e w' => e = .returned (.slice none 0 0) ∧ w = w' := by
  have hnil : ∀ W, (binOp .eql 32 (.slice none 0 0) (.slice none 0 0)).run Try.prog W = .ok (.bool true) W := fun W => Lib.run_eql_slice_nil_nil W _ _ Try.underlying32
  go_enter Try.func37, Try.ntmps37
  go_wp2_with fail
  go_ret
  exact ⟨rfl, rfl⟩
/-- Clone, of any slice. -/
theorem clone_all (A : Option Addr) (c B : Nat) (l : List Nat) (w : World) (ha : BytesAt w B A l) (hr : Roomy A l.length c) (hl : l.length ≤ 1000000) :
    Calls Try.prog 37 #[.slice A l.length c] w fun e w' => ∃ A' c', e = .returned (.slice A' l.length c') ∧ Own w' w.heap.size (.slice A' l.length c') l ∧ Below w.heap.size w w' := by
  cases A with
  | some a => exact clone_any a c B l w ha hl
  | none =>
    have hl0 : l = [] := by
      cases l with
      | nil => rfl
      | cons x l => obtain ⟨ad, e, _⟩ := ha.get (k := 0) (by simp); cases e
    subst hl0
    have hc := hr.nil rfl
    subst hc
    exact (clone_nil w).mono fun e w' ⟨he, hw⟩ => ⟨none, 0, he, World.ownsRow_nil _ _ _ _, hw ▸ Below.refl _ _⟩
section
variable {w w' : World} {d c c' : Nat} {r s r' s' : Int} {A A' : Option Addr} {l l' : List Nat}
theorem below_quiet2 {w w' : World} (hb : Below w.heap.size w w') : w.grownBy w' none := ⟨hb.os, hb.tape, hb.output, hb.size, fun i hi _ => hb.block i hi⟩
theorem grown_to {a b c : World} {row : Option Nat} (h : a.grownBy b none) (k : b.grownBy c row) : a.grownBy c row :=
  ⟨k.os.trans h.os, k.tape.trans h.tape, k.output.trans h.output, Nat.le_trans h.size k.size, fun i hi hne => (k.block i (Nat.lt_of_lt_of_le hi h.size) hne).trans (h.block i hi (by simp))⟩
set_option maxRecDepth 100000 in
theorem bytes_of (h : DiskAt w d r s A c l) (hl : l.length ≤ 1000000) :
    Calls Try.prog 20 #[.pointer (some ⟨d, 0, none⟩)] w fun e w' => ∃ A' c', e = .returned (.slice A' l.length c') ∧ Own w' w.heap.size (.slice A' l.length c') l ∧ Below w.heap.size w w' := by
  have c2 := h.cell2
  go_enter Try.func20, Try.ntmps20
  go_wp2_with fail
  refine (clone_all A c _ l w h.row h.room hl).mono ?_
  rintro e w1 ⟨A1, c1, rfl, O1, b1⟩
  go_wp2_with fail
  go_ret
  exact ⟨A1, c1, rfl, O1, b1⟩
set_option maxRecDepth 100000 in
set_option maxHeartbeats 1000000 in
theorem swap_new (h : DiskAt w d r s A c l) {B : Nat} {A2 : Option Addr} {c2 : Nat} {k : List Nat} (hk : BytesAt w B A2 k) (hr : Roomy A2 k.length c2) (hs : Small k) (hl : k.length ≤ 1000000) (hfit : (k.length : Int) ≤ r) :
    Calls Try.prog 40 #[.pointer (some ⟨d, 0, none⟩), .slice A2 k.length c2] w fun e w' => ∃ A' c', e = .returned (.int .i64 0) ∧ DiskAt w' d r k.length A' c' k ∧ w.grownBy w' (some d) ∧ (∀ ad, A' = some ad → w.heap.size ≤ ad.block) := by
  have c0 := h.cell0
  have hd : decide (r < (k.length : Int)) = false := by simp; omega
  go_enter Try.func40, Try.ntmps40
  go_wp2_with fail
  refine (clone_all A2 c2 _ k w hk hr hl).mono ?_
  rintro e w1 ⟨A1, c1, rfl, O1, b1⟩
  have g1 := below_quiet2 b1
  have F1 := O1.from_
  have D1 := h.quiet g1
  have cc := D1.cell2
  have ff := D1.free 2
  obtain ⟨q1, q2, q3⟩ := O1.file h.lt
  have D2 := D1.setFile q1 q2 q3 hs
  have g2 := grown_to g1 (set_grown w1 d 2 (.slice A1 k.length c1))
  clear c0 q1 q2 q3 D1 O1 b1 g1
  go_wp2_with fail
  refine (sync_any D2).mono ?_
  rintro e w2 ⟨rfl, D3, g3⟩
  go_wp2_with fail
  go_ret
  exact ⟨A1, c1, rfl, D3, ⟨g3.os.trans g2.os, g3.tape.trans g2.tape, g3.output.trans g2.output, Nat.le_trans g2.size g3.size, fun i hi hne => (g3.block i (Nat.lt_of_lt_of_le hi g2.size) hne).trans (g2.block i hi hne)⟩, F1⟩
theorem swap_yes (h : DiskAt w d r s A c l) {B : Nat} {A2 : Option Addr} {c2 : Nat} {k : List Nat} (hk : BytesAt w B A2 k) (hr : Roomy A2 k.length c2) (hs : Small k) (hl : k.length ≤ 1000000) (hfit : (k.length : Int) ≤ r) :
    Calls Try.prog 40 #[.pointer (some ⟨d, 0, none⟩), .slice A2 k.length c2] w fun e w' => ∃ A' c', e = .returned (.int .i64 0) ∧ DiskAt w' d r k.length A' c' k ∧ w.grownBy w' (some d) :=
  (swap_new h hk hr hs hl hfit).mono fun e w' ⟨A', c', h1, h2, h3, _⟩ => ⟨A', c', h1, h2, h3⟩
theorem swap_no (h : DiskAt w d r s A c l) {n : Nat} {A2 : Option Addr} {c2 : Nat} (hn : n ≤ maxLen) (hfit : ¬ (n : Int) ≤ r) :
    Calls Try.prog 40 #[.pointer (some ⟨d, 0, none⟩), .slice A2 n c2] w fun e w' => e = .returned (.int .i64 9) ∧ w = w' := by
  unfold maxLen at hn
  have c0 := h.cell0
  have hd : decide (r < (n : Int)) = true := by simp; omega
  go_enter Try.func40, Try.ntmps40
  go_wp2_with fail
  go_ret
  exact ⟨rfl, rfl⟩
end
end Go.Proofs.Ytkhbpaloicefdaa
