/- Operations that came in; few. -/
import Derived.Test.YtdcmaikgkmamjaaFirst
namespace Go.Proofs.Ytdcmaikgkmamjaa
open Go.RowKit
set_option linter.unusedVariables false
attribute [local go_sem ↓] Go.wp_at_zero Go.wp_at_succ
/-- An operation: its kind, its number, its bytes. -/
structure Op where
  k : Int
  n : Int
  b : List Nat
/-- A slice of operations that reads as L. -/
structure OpsAt (w : World) (B : Nat) (A : Option Addr) (L : List Op) : Prop where
  at_ : ∀ k (h : k < L.length), ∃ ad A' c', A = some ad ∧ (ad.add (k * 3)).block < B ∧ w.cell? (ad.add (k * 3)) = some (.int .i64 L[k].k) ∧ w.cell? ⟨(ad.add (k * 3)).block, (ad.add (k * 3)).off + 1, none⟩ = some (.int .i64 L[k].n) ∧
    w.cell? ⟨(ad.add (k * 3)).block, (ad.add (k * 3)).off + 2, none⟩ = some (.slice A' L[k].b.length c') ∧ BytesAt w B A' L[k].b ∧ Room A' L[k].b.length c'
  fit : ∀ o ∈ L, Small o.b ∧ -9223372036854775808 ≤ o.n ∧ o.n ≤ 9223372036854775807
theorem OpsAt.below {w w' : World} {B : Nat} {A : Option Addr} {L : List Op} (h : OpsAt w B A L) (hb : Below B w w') : OpsAt w' B A L := by
  refine ⟨fun k hk => ?_, h.fit⟩
  obtain ⟨ad, A', c', e, hB, h1, h2, h3, h4, h5⟩ := h.at_ k hk
  exact ⟨ad, A', c', e, hB, (hb.cell hB).trans h1, (hb.cell (by exact hB)).trans h2, (hb.cell (by exact hB)).trans h3, h4.below hb, h5⟩
/-- How many bytes operations have. -/
def total (L : List Op) : Nat := (L.map fun o => o.b.length).sum
theorem total_snoc {L : List Op} {j : Nat} (h : j < L.length) : total (L.take (j + 1)) = total (L.take j) + L[j].b.length := by
  unfold total
  rw [List.map_take, List.map_take, List.take_succ_eq_append_getElem (by simpa using h), List.sum_append]
  simp
theorem total_le {L : List Op} (j : Nat) : total (L.take j) ≤ total L := by
  unfold total
  rw [List.map_take]
  have h := congrArg List.sum (List.take_append_drop j (L.map fun o => o.b.length))
  rw [List.sum_append] at h
  omega
theorem total_one {L : List Op} {j : Nat} (h : j < L.length) : L[j].b.length ≤ total L := by
  have := total_snoc h
  have := total_le (L := L) (j + 1)
  omega
set_option maxRecDepth 100000 in
set_option maxHeartbeats 1000000 in
theorem few_any (A : Option Addr) (c B : Nat) (L : List Op) (w : World) (ha : OpsAt w B A L) (hl : L.length ≤ maxLen) :
    Calls Try.prog 9 #[.slice A L.length c] w fun e w' => ∃ t : Bool, e = .returned (.bool t) ∧ w = w' ∧ (t = true → L.length ≤ 300 ∧ total L ≤ 20000) := by
  unfold maxLen at hl
  go_enter Try.func9, Try.ntmps9
  go_wp2_with fail
  go_loopw [3, 4] (fun n i wr => ∃ j N : Nat, j ≤ L.length ∧ j ≤ 300 ∧ n = .int .i64 N ∧ i = .int .i64 j ∧ wr = w ∧ N ≤ 20001 * j ∧ (N ≤ 20000 → total (L.take j) = N)) (fun _ i _ => L.length - (intOf i).toNat)
  case atStart => exact ⟨0, 0, Nat.zero_le _, by omega, rfl, rfl, rfl, by omega, fun _ => by simp [total]⟩
  case round =>
    obtain ⟨j, N, hj, hj3, rfl, rfl, rfl, hN, hall⟩ := hrel
    have HA := Lib.hid hall
    clear hall
    by_cases hlt : j < L.length ∧ j < 300
    · obtain ⟨hlt1, hlt2⟩ := hlt
      obtain ⟨ad, a, c', rfl, _, hc0, hc1, hc2, _, rm⟩ := ha.at_ j hlt1
      rcases Nat.lt_or_ge L[j].b.length 20001 with hshort | hlong
      case' inl =>
        have key : N + L[j].b.length ≤ 20001 * (j + 1) ∧ (N + L[j].b.length ≤ 20000 → total (L.take (j + 1)) = N + L[j].b.length) :=
          ⟨by omega, fun h => by rw [total_snoc hlt1, HA.out (by omega)]⟩
        obtain ⟨M, hM⟩ : ∃ M, M = N + L[j].b.length := ⟨_, rfl⟩
      case' inr =>
        have key : N + 20001 ≤ 20001 * (j + 1) ∧ (N + 20001 ≤ 20000 → total (L.take (j + 1)) = N + 20001) := ⟨by omega, fun h => absurd h (by omega)⟩
        obtain ⟨M, hM⟩ : ∃ M, M = N + 20001 := ⟨_, rfl⟩
      all_goals
        have KEY := Lib.hid key
        have HM := Lib.hid hM
        clear key hM
        go_wp2_with fail
        go_roundw
        case rel => exact ⟨j + 1, M, by omega, by omega, by rw [HM.out]; go_num, by go_num, trivial, by rw [HM.out]; exact KEY.out.1, by rw [HM.out]; exact KEY.out.2⟩
        case measure => simp [intOf]; omega
    · rcases (show (¬ L.length ≤ 300 ∧ ¬ j < 300 ∧ j < L.length) ∨ ((L.length ≤ 300 ∧ ¬ j < L.length) ∧ ¬ N ≤ 20000) ∨ ((L.length ≤ 300 ∧ ¬ j < L.length) ∧ N ≤ 20000) by omega) with ⟨q1, q2, q3⟩ | ⟨⟨q1, q2⟩, q3⟩ | ⟨⟨q1, q2⟩, q3⟩
      · go_wp2_with fail
        go_ret
        first | exact ⟨_, rfl, rfl, fun h => absurd h (by simp; omega)⟩ | exact ⟨rfl, rfl⟩ | exact ⟨false, rfl, rfl, fun h => by cases h⟩
      · go_wp2_with fail
        go_ret
        first | exact ⟨_, rfl, rfl, fun h => absurd h (by simp; omega)⟩ | exact ⟨rfl, rfl⟩ | exact ⟨false, rfl, rfl, fun h => by cases h⟩
      · go_wp2_with fail
        go_ret
        exact ⟨_, rfl, rfl, fun _ => ⟨q1, by have := HA.out q3; rw [List.take_of_length_le (by omega)] at this; omega⟩⟩
end Go.Proofs.Ytdcmaikgkmamjaa
