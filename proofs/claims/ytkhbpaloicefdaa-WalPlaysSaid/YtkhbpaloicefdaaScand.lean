/- What Scan tells, in plain Lean; lists of rows of bytes on memory. -/
import Derived.Test.YtkhbpaloicefdaaApart
namespace Go.Proofs.Ytkhbpaloicefdaa
open Go.RowKit
set_option linter.unusedVariables false
def scanF (b : List Nat) : Nat → Nat → List (List Nat) × Nat
  | 0, i => ([], i)
  | n + 1, i =>
    match getd b (i : Int) with
    | .ok p => (p :: (scanF b n (i + 6 + p.length)).1, (scanF b n (i + 6 + p.length)).2)
    | .err _ => ([], i)
/-- The records, and where they end. -/
def scand (b : List Nat) : List (List Nat) × Nat := scanF b (b.length + 1) 0
theorem scanF_ok {b p : List Nat} {n i : Nat} (h : getd b (i : Int) = .ok p) : scanF b (n + 1) i = (p :: (scanF b n (i + 6 + p.length)).1, (scanF b n (i + 6 + p.length)).2) := by
  show (match getd b (i : Int) with | .ok p => _ | .err _ => _) = _
  rw [h]
theorem scanF_err {b : List Nat} {n i k : Nat} (h : getd b (i : Int) = .err k) : scanF b (n + 1) i = ([], i) := by
  show (match getd b (i : Int) with | .ok p => _ | .err _ => _) = _
  rw [h]
theorem getd_ok_le {b p : List Nat} {i : Nat} (h : getd b (i : Int) = .ok p) : i + 6 + p.length ≤ b.length ∧ p.length ≤ 8192 := by
  unfold getd at h
  split at h
  · cases h
  · rename_i hi
    unfold getx at h
    have e : (i : Int).toNat = i := by simp
    rw [e] at h
    split at h
    · cases h
    · rename_i h6
      split at h
      · cases h
      · split at h
        · cases h
        · rename_i h7 h8
          split at h
          · injection h with h
            have h9 : p.length = numAt (b.drop i) := by rw [← h, List.length_take, List.length_drop]; omega
            rw [List.length_drop] at h8 h6
            omega
          · cases h
/-- Where a scan stands: what is told, and that what is left makes the whole. -/
structure ScanAt (b : List Nat) (L : List (List Nat)) (i : Nat) : Prop where
  fuel : ∃ n, b.length < n + i ∧ 0 < n ∧ L ++ (scanF b n i).1 = (scand b).1 ∧ (scanF b n i).2 = (scand b).2
  le : i ≤ b.length
  few : 6 * L.length ≤ i
theorem ScanAt.start (b : List Nat) : ScanAt b [] 0 := ⟨⟨b.length + 1, by omega, by omega, rfl, rfl⟩, Nat.zero_le _, by simp⟩
theorem ScanAt.next {b p : List Nat} {L : List (List Nat)} {i : Nat} (h : ScanAt b L i) (hp : getd b (i : Int) = .ok p) : ScanAt b (L ++ [p]) (i + 6 + p.length) := by
  obtain ⟨⟨n, h1, h2, h3, h4⟩, h5, h6⟩ := h
  have hl := (getd_ok_le hp).1
  obtain ⟨n, rfl⟩ : ∃ m, n = m + 1 := ⟨n - 1, by omega⟩
  rw [scanF_ok hp] at h3 h4
  exact ⟨⟨n, by omega, by omega, by rw [← h3]; simp, h4⟩, hl, by rw [List.length_append]; simp; omega⟩
theorem ScanAt.done {b : List Nat} {L : List (List Nat)} {i k : Nat} (h : ScanAt b L i) (hp : getd b (i : Int) = .err k) : L = (scand b).1 ∧ i = (scand b).2 := by
  obtain ⟨⟨n, h1, h2, h3, h4⟩, h5, _⟩ := h
  obtain ⟨n, rfl⟩ : ∃ m, n = m + 1 := ⟨n - 1, by omega⟩
  rw [scanF_err hp] at h3 h4
  exact ⟨by simpa using h3, h4⟩
theorem getd_end (b : List Nat) : getd b (b.length : Int) = .err 2 := by rw [getd_in (Nat.le_refl _), List.drop_length]; rfl
/-- Rows of bytes, each of one's own. -/
def RowsIn (w : World) (base : Nat) (xs : List Value) (L : List (List Nat)) : Prop :=
  xs.length = L.length ∧ ∀ k (h : k < L.length), ∃ A c, xs[k]? = some (.slice A L[k].length c) ∧ Own w base (.slice A L[k].length c) L[k]
theorem own_ne_lists {w : World} {base base' n : Nat} {v v' : Value} {l : List Nat} {xs : List Value} (h : Own w base v l) (h' : w.ownsRow base' 32 1 v' n xs) : v.ownBlock = none ∨ v.ownBlock ≠ v'.ownBlock := by
  rcases h.2 with ⟨rfl, _⟩ | ⟨g, cp, cur, rfl, _, hg, _⟩
  · exact .inl rfl
  · refine .inr fun e => ?_
    rcases h'.2 with ⟨rfl, _⟩ | ⟨g', cp', cur', rfl, _, hg', _⟩
    · simp [Value.ownBlock] at e
    · simp [Value.ownBlock] at e
      subst e
      rw [hg] at hg'
      injection hg' with hg'
      injection hg' with _ ht
      cases ht
theorem RowsIn.nil {w : World} {base : Nat} : RowsIn w base [] [] := ⟨rfl, fun k h => absurd h (by simp)⟩
theorem RowsIn.below {w w' : World} {base B : Nat} {xs : List Value} {L : List (List Nat)} (h : RowsIn w base xs L) (hb : Below B w w') (hB : w.heap.size ≤ B) : RowsIn w' base xs L :=
  ⟨h.1, fun k hk => by obtain ⟨A, c, e, O⟩ := h.2 k hk; exact ⟨A, c, e, O.below hb hB⟩⟩
theorem RowsIn.grown {w w' : World} {base base' n : Nat} {v : Value} {ys xs : List Value} {L : List (List Nat)} (h : RowsIn w base xs L) (h' : w.ownsRow base' 32 1 v n ys) (g : w.grownBy w' v.ownBlock) : RowsIn w' base xs L :=
  ⟨h.1, fun k hk => by obtain ⟨A, c, e, O⟩ := h.2 k hk; exact ⟨A, c, e, O.grown g (own_ne_lists O h')⟩⟩
theorem RowsIn.alloc {w : World} {base : Nat} {xs : List Value} {L : List (List Nat)} (h : RowsIn w base xs L) (o : Obj) : RowsIn (w.alloc o) base xs L :=
  ⟨h.1, fun k hk => by obtain ⟨A, c, e, O⟩ := h.2 k hk; exact ⟨A, c, e, O.alloc o⟩⟩
theorem RowsIn.snoc {w : World} {base : Nat} {xs : List Value} {L : List (List Nat)} {A : Option Addr} {c : Nat} {p : List Nat} (h : RowsIn w base xs L) (O : Own w base (.slice A p.length c) p) : RowsIn w base (xs ++ [.slice A p.length c]) (L ++ [p]) := by
  refine ⟨by simp [h.1], fun k hk => ?_⟩
  rw [List.length_append] at hk
  by_cases hkl : k < L.length
  · obtain ⟨A', c', e, O'⟩ := h.2 k hkl
    refine ⟨A', c', ?_, ?_⟩
    · rw [List.getElem?_append_left (by rw [h.1]; exact hkl), e, List.getElem_append_left hkl]
    · rw [List.getElem_append_left hkl]; exact O'
  · simp at hk
    obtain rfl : k = L.length := by omega
    refine ⟨A, c, ?_, ?_⟩
    · rw [List.getElem?_append_right (by rw [h.1]; exact Nat.le_refl _), h.1]; simp
    · simpa using O
end Go.Proofs.Ytkhbpaloicefdaa
