/- voklaw14.played. -/
import Derived.Test.YtelkllhibkefbaaFew
namespace Go.Proofs.Ytelkllhibkefbaa
open Go.RowKit
set_option linter.unusedVariables false
attribute [local go_sem ↓] Go.wp_at_zero Go.wp_at_succ
/-- A disk behind operations. -/
def run (S : St) (L : List Op) : St := L.foldl (fun S o => (step S o).1) S
theorem run_snoc {S : St} {L : List Op} {j : Nat} (h : j < L.length) : run S (L.take (j + 1)) = (step (run S (L.take j)) L[j]).1 := by
  unfold run
  rw [List.take_succ_eq_append_getElem h, List.foldl_append]
  rfl
theorem run_fine {S : St} {L : List Op} {N : Nat} (h : Fine S N) : Fine (run S L) (N + total L) := by
  induction L generalizing S N with
  | nil => exact h.more (Nat.le_add_right _ _)
  | cons o L ih =>
    have := ih (step_fine h o)
    unfold total at this ⊢
    rw [List.map_cons, List.sum_cons, ← Nat.add_assoc]
    exact this
theorem new_no (r : Int) (h : ¬ (0 ≤ r ∧ r ≤ 1073741824)) (w : World) :
    Calls Try.prog 22 #[.int .i64 r] w fun e w' => e = .returned (.tuple #[.pointer none, .int .i64 1]) ∧ w = w' := by
  have hd : decide (0 ≤ r ∧ r ≤ 1073741824) = false := decide_eq_false h
  go_enter Try.func22, Try.ntmps22
  go_wp2_with fail
  refine (fits_any r _).mono ?_
  rintro e w1 ⟨rfl, rfl⟩
  rw [hd]
  go_wp2_with fail
  go_ret2
  exact ⟨rfl, rfl⟩
/-- What played tells. -/
def PlayedIs (size : Int) (L : List Op) (w : World) (e : Ending) (w' : World) : Prop :=
  (e = .returned (.pointer none) ∧ Below w.heap.size w w') ∨
  (∃ d A c, e = .returned (.pointer (some ⟨d, 0, none⟩)) ∧ DiskIs w' d A c (run ⟨size, 0, []⟩ L) ∧ Below w.heap.size w w' ∧ w.heap.size ≤ d ∧ L.length ≤ 200 ∧ total L ≤ 20000 ∧ 0 ≤ size ∧ size ≤ 1073741824)
set_option maxRecDepth 100000 in
set_option maxHeartbeats 2000000 in
theorem played_any (size : Int) (A : Option Addr) (c B : Nat) (L : List Op) (w : World) (ha : OpsAt w B A L) (hB : B ≤ w.heap.size) (hl : L.length ≤ maxLen) :
    Calls Try.prog 9 #[.int .i64 size, .slice A L.length c] w (PlayedIs size L w) := by
  by_cases hsz : 0 ≤ size ∧ size ≤ 1073741824
  · have N := new_yes size hsz.1 hsz.2 w
    have hl' := hl
    unfold maxLen at hl'
    go_enter Try.func9, Try.ntmps9
    go_wp2_with fail
    refine N.mono ?_
    rintro e w1 ⟨rfl, rfl⟩
    have D0 := DiskAt.new_ w size
    have b0 : Below w.heap.size w (w.alloc (.cells #[.int .i64 size, .int .i64 0, .slice none 0 0] 52)) := (Below.refl _ _).alloc (Nat.le_refl _) _
    clear N
    obtain ⟨d, hd⟩ : ∃ d, d = w.heap.size := ⟨_, rfl⟩
    rw [← hd] at D0
    rw [← hd]
    have hdw : w.heap.size ≤ d := by omega
    have HD := Lib.hid hd
    clear hd
    generalize w.alloc (.cells #[.int .i64 size, .int .i64 0, .slice none 0 0] 52) = w1 at D0 b0 ⊢
    have hF := few_any A c B L w1 (ha.below (b0.mono hB)) hl
    go_wp2_with fail
    refine hF.mono ?_
    rintro e w2 ⟨t, rfl, rfl, ht⟩
    clear hF
    cases t with
    | false =>
      clear ht
      go_wp2_with fail
      go_ret
      exact .inl ⟨rfl, b0⟩
    | true =>
      obtain ⟨hl2, hT⟩ := ht rfl
      clear ht
      go_wp2_with fail
      go_loopw [7] (fun i wr => ∃ (j : Nat) (A : Option Addr) (c : Nat), j ≤ L.length ∧ i = .int .i64 j ∧ DiskIs wr d A c (run ⟨size, 0, []⟩ (L.take j)) ∧ Below w.heap.size w wr) (fun i _ => L.length - (intOf i).toNat)
      case atStart => exact ⟨0, none, 0, Nat.zero_le _, rfl, D0, b0⟩
      case round =>
        obtain ⟨j, A1, c1, hj, rfl, D, b⟩ := hrel
        clear D0 b0
        by_cases hlt : j < L.length
        · obtain ⟨ad, A2, c2, rfl, hblk, hc0, hc1, hc2, hby, hrm⟩ := (ha.below (b.mono hB)).at_ j hlt
          go_wp2_with fail
          have fit := ha.fit L[j] (List.getElem_mem hlt)
          have tot := total_one hlt
          have tj := total_le (L := L) j
          have F0 : Fine ⟨size, 0, []⟩ 0 := ⟨hsz.1, hsz.2, Nat.le_refl _, Nat.le_refl _⟩
          have F1 := run_fine (L := L.take j) F0
          have K := does_any L[j] D (F1.more (by omega)) hby (Nat.le_trans hB b.size) hrm fit.1 (by omega) fit.2.1 fit.2.2
          rw [← run_snoc hlt] at K
          refine K.mono ?_
          rintro e w2 ⟨A3, c3, rfl, D3, g3⟩
          have b3 := b.grown g3 b.size (fun k hk => by injection hk with hk; omega)
          clear K D b g3 F1 F0 fit tot tj hby hrm hc0 hc1 hc2 hblk
          go_wp2_with fail
          go_roundw
          case rel => exact ⟨j + 1, A3, c3, by omega, by go_num, D3, b3⟩
          case measure => simp [intOf]; omega
        · obtain rfl : j = L.length := by omega
          rw [List.take_length] at D
          go_wp2_with fail
          go_ret
          exact .inr ⟨d, A1, c1, rfl, D, b, hdw, hl2, hT, hsz.1, hsz.2⟩
  · go_enter Try.func9, Try.ntmps9
    go_wp2_with fail
    refine (new_no size hsz w).mono ?_
    rintro e w1 ⟨rfl, rfl⟩
    go_wp2_with fail
    go_ret
    exact .inl ⟨rfl, Below.refl _ _⟩
end Go.Proofs.Ytelkllhibkefbaa
