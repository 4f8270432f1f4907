/- FrameBack: the records, the rows and the ends that are gathered, on memory. -/
import Derived.Test.YtkhbpaloicefdaaBack0
import Derived.Test.YtkhbpaloicefdaaFew
namespace Go.Proofs.Ytkhbpaloicefdaa
open Go.RowKit
set_option linter.unusedVariables false
/-- The rows that are put. -/
def kept (L : List (List Nat)) : List (List Nat) := L.filter fun l => decide (l.length ≤ 8192)
theorem kept_mem {L : List (List Nat)} : ∀ p ∈ kept L, p ∈ L ∧ p.length ≤ 8192 := by
  intro p hp
  unfold kept at hp
  rw [List.mem_filter] at hp
  exact ⟨hp.1, by simpa using hp.2⟩
theorem kept_yes {L : List (List Nat)} {j : Nat} (h : j < L.length) (hl : L[j].length ≤ 8192) : kept (L.take (j + 1)) = kept (L.take j) ++ [L[j]] := by
  unfold kept
  rw [List.take_succ_eq_append_getElem h, List.filter_append]
  simp [hl]
theorem kept_no {L : List (List Nat)} {j : Nat} (h : j < L.length) (hl : 8192 < L[j].length) : kept (L.take (j + 1)) = kept (L.take j) := by
  unfold kept
  rw [List.take_succ_eq_append_getElem h, List.filter_append]
  simp [show ¬ L[j].length ≤ 8192 by omega]
theorem kept_le (L : List (List Nat)) : (kept L).length ≤ L.length := List.length_filter_le _ _
theorem joined_le : ∀ (L : List (List Nat)), (joined (kept L)).length ≤ total L + 6 * L.length
  | [] => by simp [kept, joined]
  | l :: L => by
    have ih := joined_le L
    have e : total (l :: L) = l.length + total L := by simp [total]
    by_cases hl : l.length ≤ 8192
    · have e1 : kept (l :: L) = l :: kept L := by simp [kept, hl]
      rw [e1, joined_cons, List.length_append, recd_length, List.length_cons, e]; omega
    · have e1 : kept (l :: L) = kept L := by simp [kept, hl]
      rw [e1, List.length_cons, e]; omega
/-- The ends, as values. -/
def endsV (P : List (List Nat)) : List Value := (List.range P.length).map fun k => .int .i64 (endAt P (k + 1) : Int)
theorem endsV_length (P : List (List Nat)) : (endsV P).length = P.length := by simp [endsV]
theorem endsV_get {P : List (List Nat)} {k : Nat} (h : k < P.length) : (endsV P)[k]? = some (.int .i64 (endAt P (k + 1) : Int)) := by
  simp [endsV, h]
theorem endAt_snoc {P : List (List Nat)} {p : List Nat} {k : Nat} (h : k ≤ P.length) : endAt (P ++ [p]) k = endAt P k := by
  unfold endAt
  rw [List.take_append_of_le_length h]
theorem endAt_all (P : List (List Nat)) : endAt P P.length = (joined P).length := by
  unfold endAt
  rw [List.take_length]
theorem endsV_snoc (P : List (List Nat)) (p : List Nat) : endsV (P ++ [p]) = endsV P ++ [.int .i64 ((joined (P ++ [p])).length : Int)] := by
  unfold endsV
  rw [List.length_append, List.length_singleton, List.range_succ, List.map_append]
  congr 1
  · apply List.map_congr_left
    intro k hk
    rw [List.mem_range] at hk
    rw [endAt_snoc (by omega)]
  · have e := endAt_all (P ++ [p])
    rw [List.length_append, List.length_singleton] at e
    simp [e]
theorem own_apart {w : World} {base base' : Nat} {e e' : TypeId} {s s' : Nat} {v v' : Value} {n n' : Nat} {xs xs' : List Value} (h : w.ownsRow base e s v n xs) (h' : w.ownsRow base' e' s' v' n' xs') (hne : e ≠ e') : v.ownBlock = none ∨ v.ownBlock ≠ v'.ownBlock := by
  rcases h.2 with ⟨rfl, _⟩ | ⟨g, cp, cur, rfl, _, hg, _⟩
  · exact .inl rfl
  · refine .inr fun e => ?_
    rcases h'.2 with ⟨rfl, _⟩ | ⟨g', cp', cur', rfl, _, hg', _⟩
    · simp [Value.ownBlock] at e
    · simp [Value.ownBlock] at e
      subst e
      rw [hg] at hg'
      injection hg' with hg'
      injection hg' with _ ht
      exact hne ht
/-- Slices that read as rows that came in. -/
def RefIn (w : World) (B : Nat) (xs : List Value) (P : List (List Nat)) : Prop :=
  xs.length = P.length ∧ ∀ k (h : k < P.length), ∃ A c, xs[k]? = some (.slice A P[k].length c) ∧ BytesAt w B A P[k]
theorem RefIn.keep {w w' : World} {B : Nat} {xs : List Value} {P : List (List Nat)} (h : RefIn w B xs P) (hb : Below B w w') : RefIn w' B xs P :=
  ⟨h.1, fun k hk => by obtain ⟨A, c, e, O⟩ := h.2 k hk; exact ⟨A, c, e, O.below hb⟩⟩
theorem RefIn.snoc {w : World} {B c : Nat} {A : Option Addr} {xs : List Value} {P : List (List Nat)} {p : List Nat} (h : RefIn w B xs P) (O : BytesAt w B A p) : RefIn w B (xs ++ [.slice A p.length c]) (P ++ [p]) := by
  refine ⟨by simp [h.1], fun k hk => ?_⟩
  rw [List.length_append] at hk
  by_cases hkl : k < P.length
  · obtain ⟨A', c', e, O'⟩ := h.2 k hkl
    refine ⟨A', c', ?_, ?_⟩
    · rw [List.getElem?_append_left (by rw [h.1]; exact hkl), e, List.getElem_append_left hkl]
    · rw [List.getElem_append_left hkl]; exact O'
  · simp at hk
    obtain rfl : k = P.length := by omega
    refine ⟨A, c, ?_, ?_⟩
    · rw [List.getElem?_append_right (by rw [h.1]; exact Nat.le_refl _), h.1]; simp
    · simpa using O
end Go.Proofs.Ytkhbpaloicefdaa
