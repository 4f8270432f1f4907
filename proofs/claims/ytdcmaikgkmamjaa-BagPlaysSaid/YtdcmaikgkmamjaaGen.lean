/- What a bag's operations do, in one contract each. -/
import Derived.Test.YtdcmaikgkmamjaaTwin
namespace Go.Proofs.Ytdcmaikgkmamjaa
open Go.RowKit
set_option linter.unusedVariables false
/-- Put: the error, what is lost, what there is. -/
def putE (n : Nat) (K : List (List Nat)) : Int := if K.length < n then 0 else 9
def putLost (n : Nat) (K : List (List Nat)) (lost : Int) : Int := if K.length < n then lost else lost + 1
def putK (n : Nat) (K : List (List Nat)) (m : List Nat) : List (List Nat) := if K.length < n then K ++ [m] else K
/-- The row at a place, if there is one. -/
def rowOk (K : List (List Nat)) (i : Int) : Bool := decide (0 ≤ i ∧ i < (K.length : Int))
def rowAt (K : List (List Nat)) (i : Int) : List Nat := if 0 ≤ i ∧ i < (K.length : Int) then K.getD i.toNat [] else []
def takeK (K : List (List Nat)) (i : Int) : List (List Nat) := if 0 ≤ i ∧ i < (K.length : Int) then K.take i.toNat ++ K.drop (i.toNat + 1) else K
def dblOk (n : Nat) (K : List (List Nat)) (i : Int) : Bool := decide (0 ≤ i ∧ i < (K.length : Int) ∧ K.length < n)
def dblK (n : Nat) (K : List (List Nat)) (i : Int) : List (List Nat) := if 0 ≤ i ∧ i < (K.length : Int) ∧ K.length < n then K ++ [rowAt K i] else K
theorem rowAt_in {K : List (List Nat)} {i : Nat} (h : i < K.length) : rowAt K i = K[i] := by
  unfold rowAt
  rw [if_pos (by omega)]
  simp [List.getD_eq_getElem?_getD, List.getElem?_eq_getElem h]
theorem rowOk_in {K : List (List Nat)} {i : Nat} (h : i < K.length) : rowOk K i = true := decide_eq_true (by omega)
theorem rowAt_out {K : List (List Nat)} {i : Int} (h : ¬ (0 ≤ i ∧ i < (K.length : Int))) : rowAt K i = [] := if_neg h
theorem rowOk_out {K : List (List Nat)} {i : Int} (h : ¬ (0 ≤ i ∧ i < (K.length : Int))) : rowOk K i = false := decide_eq_false h
theorem nil_row (w : World) : RowIs w (.slice none 0 0) [] := ⟨none, 0, rfl, Reads.none_, fun ad e => (by cases e), ⟨Nat.le_refl _, by simp, fun _ => rfl⟩, by simp [Small]⟩
section
variable {T base : Nat} {w w' : World} {b : Nat} {r lost : Int} {v : Value} {xs : List Value} {L K : List (List Nat)}
theorem BagAt.rowAt_small (h : BagAt T base w b r lost v xs K) {i : Int} : Small (rowAt K i) := by
  by_cases hi : 0 ≤ i ∧ i < (K.length : Int)
  · obtain ⟨m, rfl⟩ := Int.eq_ofNat_of_zero_le hi.1
    have hm : m < K.length := by omega
    rw [rowAt_in hm]
    obtain ⟨_, _, _, _, _, _, _, _, _, _, hsm⟩ := h.get hm
    exact hsm
  · rw [rowAt_out hi]; simp [Small]
end
--GEN
section
variable {base : Nat} {w w' : World} {b : Nat} {lost : Int} {v : Value} {xs : List Value} {K : List (List Nat)} {n : Nat}
theorem put_gen (h : BagAt 49 base w b n lost v xs K) (hbase : base ≤ w.heap.size) (hl : K.length ≤ 100000) (h0 : 0 ≤ lost) (h1 : lost ≤ 1000000) {B : Nat} {A : Option Addr} {c : Nat} {m : List Nat} (hm : BytesAt w B A m) (hB : B ≤ w.heap.size) (hr : Room A m.length c) (hs : Small m) (hml : m.length ≤ 1000000) :
    Calls Try.prog 10 #[.pointer (some ⟨b, 0, none⟩), .slice A m.length c] w fun e w' => ∃ v' xs', e = .returned (.int .i64 (putE n K)) ∧ Turn 49 base w w' b v xs n (putLost n K lost) v' xs' (putK n K m) := by
  unfold putE putLost putK
  by_cases hn : K.length < n
  · rw [if_pos hn, if_pos hn, if_pos hn]
    exact (put_yes h hbase (by omega) (by omega) hm hB hr hs hml).mono fun e w' ⟨v', u, he, t⟩ => ⟨v', _, he, t⟩
  · rw [if_neg hn, if_neg hn, if_neg hn]
    exact (put_full h (by omega) (by omega) h0 h1 A m.length c).mono fun e w' ⟨he, t⟩ => ⟨v, xs, he, t⟩
theorem get_gen (h : BagAt 49 base w b n lost v xs K) (hl : K.length ≤ 100000) (hli : ∀ l ∈ K, l.length ≤ 1000000) (i : Int) :
    Calls Try.prog 14 #[.pointer (some ⟨b, 0, none⟩), .int .i64 i] w fun e w' => ∃ A' c', e = .returned (.tuple #[.slice A' (rowAt K i).length c', .bool (rowOk K i)]) ∧ RowIs w' (.slice A' (rowAt K i).length c') (rowAt K i) ∧ Below w.heap.size w w' := by
  by_cases hi : 0 ≤ i ∧ i < (K.length : Int)
  · obtain ⟨m, rfl⟩ := Int.eq_ofNat_of_zero_le hi.1
    have hm : m < K.length := by omega
    rw [rowAt_in hm, rowOk_in hm]
    obtain ⟨_, _, _, _, _, _, _, _, _, _, hsm⟩ := h.get hm
    exact (get_yes h hm (by omega) (hli _ (List.getElem_mem hm))).mono fun e w' ⟨A', c', he, O, bl⟩ => ⟨A', c', he, RowIs.own O hsm, bl⟩
  · rw [rowAt_out hi, rowOk_out hi]
    exact (get_no h (by omega) (by omega)).mono fun e w' ⟨he, hw⟩ => ⟨none, 0, he, nil_row _, hw ▸ Below.refl _ _⟩
theorem take_gen (h : BagAt 49 base w b n lost v xs K) (hbase : base ≤ w.heap.size) (hl : K.length ≤ 100000) (hli : ∀ l ∈ K, l.length ≤ 1000000) (i : Int) :
    Calls Try.prog 15 #[.pointer (some ⟨b, 0, none⟩), .int .i64 i] w fun e w' => ∃ A' c' v' xs', e = .returned (.tuple #[.slice A' (rowAt K i).length c', .bool (rowOk K i)]) ∧ RowIs w' (.slice A' (rowAt K i).length c') (rowAt K i) ∧ Turn 49 base w w' b v xs n lost v' xs' (takeK K i) := by
  by_cases hi : 0 ≤ i ∧ i < (K.length : Int)
  · unfold takeK
    rw [if_pos hi]
    obtain ⟨m, rfl⟩ := Int.eq_ofNat_of_zero_le hi.1
    have hm : m < K.length := by omega
    rw [rowAt_in hm, rowOk_in hm]
    exact (take_yes h hm (by omega) (hli _ (List.getElem_mem hm))).mono fun e w' ⟨A', c', v', he, R, t⟩ => ⟨A', c', v', _, he, R, t⟩
  · unfold takeK
    rw [if_neg hi, rowAt_out hi, rowOk_out hi]
    exact (take_no h (by omega) (by omega)).mono fun e w' ⟨he, hw⟩ => ⟨none, 0, v, xs, he, nil_row _, hw ▸ h.turn (World.grownBy.refl _ _)⟩
theorem double_gen (h : BagAt 49 base w b n lost v xs K) (hbase : base ≤ w.heap.size) (hl : K.length ≤ 100000) (hli : ∀ l ∈ K, l.length ≤ 1000000) (i : Int) :
    Calls Try.prog 11 #[.pointer (some ⟨b, 0, none⟩), .int .i64 i] w fun e w' => ∃ v' xs', e = .returned (.bool (dblOk n K i)) ∧ Turn 49 base w w' b v xs n lost v' xs' (dblK n K i) := by
  unfold dblOk dblK
  by_cases hi : 0 ≤ i ∧ i < (K.length : Int)
  · obtain ⟨m, rfl⟩ := Int.eq_ofNat_of_zero_le hi.1
    have hm : m < K.length := by omega
    by_cases hn : K.length < n
    · rw [if_pos ⟨hi.1, hi.2, hn⟩, decide_eq_true ⟨hi.1, hi.2, hn⟩, rowAt_in hm]
      exact (double_yes h hbase hm (by omega) hl (hli _ (List.getElem_mem hm))).mono fun e w' ⟨v', u, he, t⟩ => ⟨v', _, he, t⟩
    · rw [if_neg (fun q => hn q.2.2), decide_eq_false (fun q => hn q.2.2)]
      exact (double_full h hm (by omega) hl (hli _ (List.getElem_mem hm))).mono fun e w' ⟨he, g⟩ => ⟨v, xs, he, h.turn g⟩
  · rw [if_neg (fun q => hi ⟨q.1, q.2.1⟩), decide_eq_false (fun q => hi ⟨q.1, q.2.1⟩)]
    exact (double_no h (by omega) hl).mono fun e w' ⟨he, g⟩ => ⟨v, xs, he, h.turn g⟩
end
end Go.Proofs.Ytdcmaikgkmamjaa
