/- The document's bag: its contracts (written by mkref.py). -/
import Derived.Test.YtdcmaikgkmamjaaRTake
import Derived.Test.YtdcmaikgkmamjaaGen
import Derived.Deep.RegionLaw
namespace Go.Proofs.Ytdcmaikgkmamjaa.Ref
open Go.RowKit
set_option linter.unusedVariables false
attribute [local go_sem ↓] Go.wp_at_zero Go.wp_at_succ
section
variable {T T' base : Nat} {w w' : World} {b c : Nat} {r lost r' lost' : Int} {v v' : Value} {xs ys : List Value} {L K : List (List Nat)}
set_option maxRecDepth 100000 in
theorem take_no (h : BagAt 44 base w b r lost v xs L) {i : Int} (hi : i < 0 ∨ (L.length : Int) ≤ i) (hl : L.length ≤ 1000000) :
    Calls Try.prog 20 #[.pointer (some ⟨b, 0, none⟩), .int .i64 i] w fun e w' => e = .returned (.tuple #[.slice none 0 0, .bool false]) ∧ w = w' := by
  have G := get_no h hi hl
  go_enter Try.func20, Try.ntmps20
  go_wp2_with fail
  refine G.mono ?_
  rintro e w1 ⟨rfl, rfl⟩
  go_wp2_with fail
  go_ret2
  exact ⟨rfl, rfl⟩
end
section
variable {base : Nat} {w w' : World} {b : Nat} {lost : Int} {v : Value} {xs : List Value} {K : List (List Nat)} {n : Nat}
theorem put_gen (h : BagAt 44 base w b n lost v xs K) (hbase : base ≤ w.heap.size) (hl : K.length ≤ 100000) (h0 : 0 ≤ lost) (h1 : lost ≤ 1000000) {B : Nat} {A : Option Addr} {c : Nat} {m : List Nat} (hm : BytesAt w B A m) (hB : B ≤ w.heap.size) (hr : Room A m.length c) (hs : Small m) (hml : m.length ≤ 1000000) :
    Calls Try.prog 19 #[.pointer (some ⟨b, 0, none⟩), .slice A m.length c] w fun e w' => ∃ v' xs', e = .returned (.int .i64 (putE n K)) ∧ Turn 44 base w w' b v xs n (putLost n K lost) v' xs' (putK n K m) := by
  unfold putE putLost putK
  by_cases hn : K.length < n
  · rw [if_pos hn, if_pos hn, if_pos hn]
    exact (put_yes h hbase (by omega) (by omega) hm hB hr hs hml).mono fun e w' ⟨v', u, he, t⟩ => ⟨v', _, he, t⟩
  · rw [if_neg hn, if_neg hn, if_neg hn]
    exact (put_full h (by omega) (by omega) h0 h1 A m.length c).mono fun e w' ⟨he, t⟩ => ⟨v, xs, he, t⟩
theorem get_gen (h : BagAt 44 base w b n lost v xs K) (hl : K.length ≤ 100000) (hli : ∀ l ∈ K, l.length ≤ 1000000) (i : Int) :
    Calls Try.prog 23 #[.pointer (some ⟨b, 0, none⟩), .int .i64 i] w fun e w' => ∃ A' c', e = .returned (.tuple #[.slice A' (rowAt K i).length c', .bool (rowOk K i)]) ∧ RowIs w' (.slice A' (rowAt K i).length c') (rowAt K i) ∧ Below w.heap.size w w' := by
  by_cases hi : 0 ≤ i ∧ i < (K.length : Int)
  · obtain ⟨m, rfl⟩ := Int.eq_ofNat_of_zero_le hi.1
    have hm : m < K.length := by omega
    rw [rowAt_in hm, rowOk_in hm]
    obtain ⟨_, _, _, _, _, _, _, _, _, _, hsm⟩ := h.get hm
    exact (get_yes h hm (by omega) (hli _ (List.getElem_mem hm))).mono fun e w' ⟨A', c', he, O, bl⟩ => ⟨A', c', he, RowIs.own O hsm, bl⟩
  · rw [rowAt_out hi, rowOk_out hi]
    exact (get_no h (by omega) (by omega)).mono fun e w' ⟨he, hw⟩ => ⟨none, 0, he, nil_row _, hw ▸ Below.refl _ _⟩
theorem take_gen (h : BagAt 44 base w b n lost v xs K) (hbase : base ≤ w.heap.size) (hl : K.length ≤ 100000) (hli : ∀ l ∈ K, l.length ≤ 1000000) (i : Int) :
    Calls Try.prog 20 #[.pointer (some ⟨b, 0, none⟩), .int .i64 i] w fun e w' => ∃ A' c' v' xs', e = .returned (.tuple #[.slice A' (rowAt K i).length c', .bool (rowOk K i)]) ∧ RowIs w' (.slice A' (rowAt K i).length c') (rowAt K i) ∧ Turn 44 base w w' b v xs n lost v' xs' (takeK K i) := by
  by_cases hi : 0 ≤ i ∧ i < (K.length : Int)
  · unfold takeK
    rw [if_pos hi]
    obtain ⟨m, rfl⟩ := Int.eq_ofNat_of_zero_le hi.1
    have hm : m < K.length := by omega
    rw [rowAt_in hm, rowOk_in hm]
    exact (take_yes h hbase hm (by omega) (hli _ (List.getElem_mem hm))).mono fun e w' ⟨A', c', v', he, R, t⟩ => ⟨A', c', v', _, he, R, t⟩
  · unfold takeK
    rw [if_neg hi, rowAt_out hi, rowOk_out hi]
    exact (take_no h (by omega) (by omega)).mono fun e w' ⟨he, hw⟩ => ⟨none, 0, v, xs, he, nil_row _, hw ▸ h.turn (World.grownBy.refl _ _)⟩
theorem double_gen (h : BagAt 44 base w b n lost v xs K) (hbase : base ≤ w.heap.size) (hl : K.length ≤ 100000) (hli : ∀ l ∈ K, l.length ≤ 1000000) (i : Int) :
    Calls Try.prog 21 #[.pointer (some ⟨b, 0, none⟩), .int .i64 i] w fun e w' => ∃ v' xs', e = .returned (.bool (dblOk n K i)) ∧ Turn 44 base w w' b v xs n lost v' xs' (dblK n K i) := by
  unfold dblOk dblK
  by_cases hi : 0 ≤ i ∧ i < (K.length : Int)
  · obtain ⟨m, rfl⟩ := Int.eq_ofNat_of_zero_le hi.1
    have hm : m < K.length := by omega
    by_cases hn : K.length < n
    · rw [if_pos ⟨hi.1, hi.2, hn⟩, decide_eq_true ⟨hi.1, hi.2, hn⟩, rowAt_in hm]
      exact (double_yes h hbase hm (by omega) hl (hli _ (List.getElem_mem hm))).mono fun e w' ⟨v', u, he, t⟩ => ⟨v', _, he, t⟩
    · rw [if_neg (fun q => hn q.2.2), decide_eq_false (fun q => hn q.2.2)]
      exact (double_full h hm (by omega) hl (hli _ (List.getElem_mem hm))).mono fun e w' ⟨he, g⟩ => ⟨v, xs, he, h.turn g⟩
  · rw [if_neg (fun q => hi ⟨q.1, q.2.1⟩), decide_eq_false (fun q => hi ⟨q.1, q.2.1⟩)]
    exact (double_no h (by omega) hl).mono fun e w' ⟨he, g⟩ => ⟨v, xs, he, h.turn g⟩
end
end Go.Proofs.Ytdcmaikgkmamjaa.Ref
