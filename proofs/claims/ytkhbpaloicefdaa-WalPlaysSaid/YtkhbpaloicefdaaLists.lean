/- vokref.Lists: two lists of rows of bytes that are alike. -/
import Derived.Test.YtkhbpaloicefdaaScan
namespace Go.Proofs.Ytkhbpaloicefdaa
open Go.RowKit
set_option linter.unusedVariables false
attribute [local go_sem ↓] Go.wp_at_zero Go.wp_at_succ
/-- A slice of slices of bytes that reads as L. -/
def ListsAt (w : World) (B : Nat) (A : Option Addr) (L : List (List Nat)) : Prop :=
  0 < L.length → ∃ ad, A = some ad ∧ ad.block < B ∧ ∀ k (h : k < L.length), ∃ A' c', w.cell? (ad.add k) = some (.slice A' L[k].length c') ∧ BytesAt w B A' L[k]
theorem ListsAt.of_own {w : World} {base base' c : Nat} {A : Option Addr} {L : List (List Nat)} {xs : List Value} (h : w.ownsRow base 32 1 (.slice A L.length c) L.length xs) (R : RowsIn w base' xs L) : ListsAt w w.heap.size A L := by
  intro hn
  obtain ⟨ad, e, hb, hc⟩ := (Reads.of_own h).2 hn
  refine ⟨ad, e, hb, fun k hk => ?_⟩
  obtain ⟨A', c', e2, O⟩ := R.2 k hk
  exact ⟨A', c', hc k _ e2, O.reads⟩
theorem ListsAt.quiet {w w' : World} {B : Nat} {A : Option Addr} {L : List (List Nat)} (h : ListsAt w B A L) (g : w.grownBy w' none) : ListsAt w' B A L := by
  intro hn
  obtain ⟨ad, e, hb, hc⟩ := h hn
  have key : ∀ p v, w.cell? p = some v → w'.cell? p = some v := fun p v hp => g.cell hp (by simp)
  refine ⟨ad, e, hb, fun k hk => ?_⟩
  obtain ⟨A', c', e2, O⟩ := hc k hk
  refine ⟨A', c', key _ _ e2, O.1, fun h0 => ?_⟩
  obtain ⟨a2, e3, hb3, hc3⟩ := O.2 h0
  exact ⟨a2, e3, hb3, fun j u hu => key _ _ (hc3 j u hu)⟩
theorem ListsAt.get {w : World} {B : Nat} {A : Option Addr} {L : List (List Nat)} (h : ListsAt w B A L) {k : Nat} (hk : k < L.length) : ∃ ad A' c', A = some ad ∧ w.cell? (ad.add k) = some (.slice A' L[k].length c') ∧ BytesAt w B A' L[k] := by
  obtain ⟨ad, e, hb, hc⟩ := h (by omega)
  obtain ⟨A', c', e2, O⟩ := hc k hk
  exact ⟨ad, A', c', e, e2, O⟩
theorem drew_one (w : World) : w.grownBy w.drew none := ⟨rfl, rfl, rfl, Nat.le_refl _, fun _ _ _ => rfl⟩
theorem quiet_trans {a b c : World} (h : a.grownBy b none) (k : b.grownBy c none) : a.grownBy c none :=
  ⟨k.os.trans h.os, k.tape.trans h.tape, k.output.trans h.output, Nat.le_trans h.size k.size, fun i hi hne => (k.block i (Nat.lt_of_lt_of_le hi h.size) hne).trans (h.block i hi hne)⟩
set_option maxRecDepth 100000 in
set_option maxHeartbeats 1000000 in
theorem lists_same (A A' : Option Addr) (c c' B B' : Nat) (L : List (List Nat)) (w : World) (ha : ListsAt w B A L) (hb : ListsAt w B' A' L) (hs : ∀ l ∈ L, Small l) (hl : L.length ≤ 1000000) :
    Calls Try.prog 18 #[.slice A L.length c, .slice A' L.length c'] w fun e w' => e = .returned (.bool true) ∧ w.grownBy w' none := by
  go_enter Try.func18, Try.ntmps18
  go_wp2_with fail
  go_loopw [5] (fun si wr => ∃ i : Nat, i ≤ L.length ∧ si = .int .i64 (i : Int) ∧ w.grownBy wr none) (fun i _ => L.length - (intOf i).toNat)
  case atStart => exact ⟨0, Nat.zero_le _, rfl, World.grownBy.refl _ _⟩
  case round =>
    obtain ⟨i, hi, rfl, g⟩ := hrel
    by_cases hlt : i < L.length
    · have g1 := quiet_trans g (drew_one wr)
      obtain ⟨ad, A1, c1, rfl, p0, R0⟩ := (ha.quiet g1).get hlt
      obtain ⟨ad', A2, c2, rfl, p1, R1⟩ := (hb.quiet g1).get hlt
      have hB := bytes_same A1 A2 c1 c2 _ _ L[i] wr.drew R0 R1 (hs _ (List.getElem_mem hlt))
      have i1 : (i : Int) < (L.length : Int) := by omega
      have i0 : (0 : Int) ≤ (i : Int) := by omega
      have q0 : wr.cell? (ad.add i) = some (.slice A1 L[i].length c1) := p0
      have q1 : wr.cell? (ad'.add i) = some (.slice A2 L[i].length c2) := p1
      go_wp2_with fail
      go_region_held3 (fun w' => w'.cell? (ad.add i) = some (.slice A1 L[i].length c1) ∧ w'.cell? (ad'.add i) = some (.slice A2 L[i].length c2)) (first | go_keep) (first | (go_at_call 21; refine hB.mono ?_; rintro e w3 ⟨rfl, rfl⟩))
      go_wp2_with fail
      go_roundw
      case rel => exact ⟨i + 1, by omega, by go_num, g1⟩
      case measure => simp [intOf]; omega
    · obtain rfl : i = L.length := by omega
      go_wp2_with fail
      go_ret
      exact ⟨rfl, g⟩
end Go.Proofs.Ytkhbpaloicefdaa
