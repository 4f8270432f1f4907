/- The document's bag: Put (written by mkref.py). -/
import Derived.Test.YtdcmaikgkmamjaaTwin
import Derived.Deep.RegionLaw
namespace Go.Proofs.Ytdcmaikgkmamjaa.Ref
open Go.RowKit
set_option linter.unusedVariables false
attribute [local go_sem ↓] Go.wp_at_zero Go.wp_at_succ
section
variable {T T' base : Nat} {w w' : World} {b c : Nat} {r lost r' lost' : Int} {v v' : Value} {xs ys : List Value} {L K : List (List Nat)}
set_option maxRecDepth 100000 in
theorem put_full (h : BagAt 44 base w b r lost v xs L) (hf : r ≤ (L.length : Int)) (hl : L.length ≤ 1000000) (h0 : 0 ≤ lost) (h1 : lost ≤ 1000000) (A : Option Addr) (n c : Nat) :
    Calls Try.prog 19 #[.pointer (some ⟨b, 0, none⟩), .slice A n c] w fun e w' => e = .returned (.int .i64 9) ∧ Turn 44 base w w' b v xs r (lost + 1) v xs L := by
  have c0 := h.cell0
  have c1 := h.cell1
  have c2 := h.cell2
  have f1 := h.free 1
  obtain ⟨A', c', rfl⟩ := header_form h.own
  have hd : decide (r ≤ (L.length : Int)) = true := by simpa using hf
  have H := fun n => h.quiet (drewN_grown w n)
  have HK := fun n => ((H n).setLost (lost + 1))
  go_enter Try.func19, Try.ntmps19
  go_wp2_with fail
  go_quiet (fail)
  go_wp2_with fail
  go_ret
  exact ⟨rfl, (HK _).first (drewN_grown w _)⟩
set_option maxRecDepth 100000 in
set_option maxHeartbeats 2000000 in
theorem put_yes (h : BagAt 44 base w b r lost v xs L) (hbase : base ≤ w.heap.size) (hf : (L.length : Int) < r) (hl : L.length ≤ 1000000) {B : Nat} {A : Option Addr} {c : Nat} {m : List Nat} (hm : BytesAt w B A m) (hB : B ≤ w.heap.size) (hr : Room A m.length c) (hs : Small m) (hml : m.length ≤ 1000000) :
    Calls Try.prog 19 #[.pointer (some ⟨b, 0, none⟩), .slice A m.length c] w fun e w' => ∃ v' u, e = .returned (.int .i64 0) ∧ Turn 44 base w w' b v xs r lost v' (xs ++ [u]) (L ++ [m]) := by
  obtain ⟨i0, hi, hz0, hz1, hz2⟩ := info_parts list_row
  have c0 := h.cell0
  have c2 := h.cell2
  obtain ⟨A', c', rfl⟩ := header_form h.own
  have hd : decide (r ≤ (L.length : Int)) = false := by simp; omega
  have H := fun n => h.quiet (drewN_grown w n)
  go_enter Try.func19, Try.ntmps19
  go_wp2_with fail
  go_quiet (fail)
  go_wp2_with fail
  have hm0 : ∀ n, BytesAt (w.drewN n) B A m := fun n => hm
  go_region_law (first
    | ((refine step_append_any _ rfl (.tmp 26) (.tmp 29) 42 (by rfl) base 30 i0 _ 1 24 Try.underlying42 hi hz0 hz1 hz2 rfl (by omega) _ _ _ (by rfl) own2 _ _ 1 1 [.slice A1 m.length c1] (by rfl) nw2 (by simp [Value.oneCell']) (by simp only [maxLen]; omega) (by omega) hbase2 ?_; intro v2 w2 o2 g2 at2; have f2 := head_free D2 g2; obtain ⟨f2, f3, f4⟩ := f2; obtain ⟨A3, c3, rfl⟩ := header_form o2))
    | (go_simp; go_at_call 18; refine (copy_any A c _ m _ (hm0 _) hml).mono ?_; rintro e w1 ⟨A1, c1, rfl, O1, b1⟩; have D1 := (H _).quiet (below_quiet2 b1); have D2 := D1.quiet (alloc_grown w1 (.cells #[.slice A1 m.length c1] 30)); have e1 := D1.cell2; have e2 := D2.cell2; have own2 := D2.own; have nw2 := one_reads w1 (.slice A1 m.length c1) (w1.heap.size + 1) (by omega); have hbase2 : base ≤ (w1.alloc (.cells #[.slice A1 m.length c1] 30)).heap.size := by (have h1 : w.heap.size ≤ w1.heap.size := b1.size; simp; omega)))
  all_goals
    have N0 : w.grownBy (w.drewN (nq + 1)) none := drewN_grown w _
    have M := put_done (u := .slice A1 m.length c1) (m := m) (grown_to N0 (grown_to (below_quiet2 b1) (alloc_grown w1 (.cells #[.slice A1 m.length c1] 30)))) D2 ((RowIs.own O1 hs).kept (P := fun _ => True) (Kept.quiet (alloc_grown w1 _)) (fun _ _ => trivial)) (fun g hg => by have := World.ownsRow.lt O1 g hg; exact this.1) o2 g2 at2
    go_wp2_with fail
    go_ret
    exact ⟨_, _, rfl, M⟩
end
end Go.Proofs.Ytdcmaikgkmamjaa.Ref
