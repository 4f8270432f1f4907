/- FrameBack in plain Lean: records one behind the other are scanned. -/
import Derived.Test.YtkhbpaloicefdaaScand
namespace Go.Proofs.Ytkhbpaloicefdaa
open Go.RowKit
set_option linter.unusedVariables false
/-- Records, one behind the other. -/
def joined (P : List (List Nat)) : List Nat := (P.map recd).flatten
/-- Where the j-th ends. -/
def endAt (P : List (List Nat)) (j : Nat) : Nat := (joined (P.take j)).length
theorem joined_nil : joined [] = [] := rfl
theorem joined_cons (p : List Nat) (P : List (List Nat)) : joined (p :: P) = recd p ++ joined P := by simp [joined]
theorem joined_append (P Q : List (List Nat)) : joined (P ++ Q) = joined P ++ joined Q := by simp [joined]
theorem joined_snoc (P : List (List Nat)) (p : List Nat) : joined (P ++ [p]) = joined P ++ recd p := by simp [joined]
theorem joined_len (P : List (List Nat)) : 6 * P.length ≤ (joined P).length := by
  induction P with
  | nil => simp [joined]
  | cons p P ih => rw [joined_cons, List.length_append, recd_length, List.length_cons]; omega
theorem joined_small {P : List (List Nat)} (h : ∀ p ∈ P, Small p ∧ p.length ≤ 8192) : Small (joined P) := by
  intro y hy
  obtain ⟨l, hl, hyl⟩ := List.mem_flatten.1 hy
  obtain ⟨p, hp, rfl⟩ := List.mem_map.1 hl
  obtain ⟨h1, h2⟩ := h p hp
  exact recd_small h1 (by omega) y hyl
theorem scanF_joined {tail : List Nat} {k : Nat} (ht : getx tail = .err k) : ∀ (P : List (List Nat)), (∀ p ∈ P, p.length ≤ 8192) → ∀ (pre : List Nat) (n : Nat), P.length < n → scanF (pre ++ joined P ++ tail) n pre.length = (P, pre.length + (joined P).length)
  | [], _, pre, n, hn => by
    obtain ⟨n, rfl⟩ : ∃ m, n = m + 1 := ⟨n - 1, by simp at hn; omega⟩
    have h : getd (pre ++ joined [] ++ tail) (pre.length : Int) = .err k := by
      rw [getd_in (by simp), joined_nil, List.append_nil, List.drop_left, ht]
    rw [scanF_err h]
    simp [joined]
  | p :: P, hP, pre, n, hn => by
    obtain ⟨n, rfl⟩ : ∃ m, n = m + 1 := ⟨n - 1, by simp at hn; omega⟩
    have e : pre ++ joined (p :: P) ++ tail = pre ++ recd p ++ (joined P ++ tail) := by rw [joined_cons]; simp [List.append_assoc]
    have h : getd (pre ++ joined (p :: P) ++ tail) (pre.length : Int) = .ok p := by rw [e]; exact getd_recd _ _ (hP p (List.mem_cons_self ..))
    have ih := scanF_joined ht P (fun q hq => hP q (List.mem_cons_of_mem _ hq)) (pre ++ recd p) n (by simp at hn; omega)
    have e2 : pre ++ joined (p :: P) ++ tail = (pre ++ recd p) ++ joined P ++ tail := by rw [e]; simp [List.append_assoc]
    have e3 : (pre ++ recd p).length = pre.length + 6 + p.length := by rw [List.length_append, recd_length]; omega
    rw [scanF_ok h, e2]
    rw [e3] at ih
    rw [ih, joined_cons, List.length_append, recd_length]
    exact Prod.ext rfl (by show pre.length + 6 + p.length + _ = _; omega)
theorem scand_joined {P : List (List Nat)} {tail : List Nat} {k : Nat} (hP : ∀ p ∈ P, p.length ≤ 8192) (ht : getx tail = .err k) : scand (joined P ++ tail) = (P, (joined P).length) := by
  have h := scanF_joined ht P hP [] ((joined P ++ tail).length + 1) (by have := joined_len P; rw [List.length_append]; omega)
  simpa [scand] using h
theorem scand_whole {P : List (List Nat)} (hP : ∀ p ∈ P, p.length ≤ 8192) : scand (joined P) = (P, (joined P).length) := by
  have h := scand_joined hP (getx_short (x := []) (by simp))
  simpa using h
/-- A record cut off is none. -/
theorem getx_take {p : List Nat} {m : Nat} (h : p.length ≤ 8192) (hm : m < p.length + 6) : getx ((recd p).take m) = .err 2 := by
  have hlen : ((recd p).take m).length = m := by rw [List.length_take, recd_length]; omega
  by_cases h6 : m < 6
  · exact getx_short (by omega)
  · have hn : numAt ((recd p).take m) = p.length := by
      have h1 := recd_num p [] (by omega)
      rw [List.append_nil] at h1
      rw [← h1]
      unfold numAt
      simp only [List.getD_eq_getElem?_getD, List.getElem?_take]
      rw [if_pos (by omega), if_pos (by omega)]
    exact getx_cut (by omega) (by omega) (by omega)
theorem scand_cut {P : List (List Nat)} {n cut : Nat} (hP : ∀ p ∈ P, p.length ≤ 8192) (hn : n ≤ P.length) (h1 : endAt P n ≤ cut) (h2 : n < P.length → cut < endAt P (n + 1)) (hc : cut ≤ (joined P).length) : scand ((joined P).take cut) = (P.take n, endAt P n) := by
  have hT : ∀ p ∈ P.take n, p.length ≤ 8192 := fun p hp => hP p (List.mem_of_mem_take hp)
  have e : joined P = joined (P.take n) ++ joined (P.drop n) := by rw [← joined_append, List.take_append_drop]
  have e1 : (joined P).take cut = joined (P.take n) ++ (joined (P.drop n)).take (cut - endAt P n) := by
    rw [e, List.take_append]
    congr 1
    exact List.take_of_length_le h1
  rw [e1]
  by_cases hlt : n < P.length
  · have h3 := h2 hlt
    have hd : P.drop n = P[n] :: P.drop (n + 1) := List.drop_eq_getElem_cons hlt
    have hs : endAt P (n + 1) = endAt P n + (P[n].length + 6) := by
      unfold endAt
      rw [List.take_succ_eq_append_getElem hlt, joined_snoc, List.length_append, recd_length]
    have e2 : (joined (P.drop n)).take (cut - endAt P n) = (recd P[n]).take (cut - endAt P n) := by
      rw [hd, joined_cons, List.take_append_of_le_length (by rw [recd_length]; omega)]
    rw [e2]
    exact scand_joined hT (getx_take (hP _ (List.getElem_mem hlt)) (by omega))
  · have hd : P.drop n = [] := List.drop_eq_nil_of_le (by omega)
    rw [hd, joined_nil, List.take_nil, List.append_nil]
    exact scand_whole hT
end Go.Proofs.Ytkhbpaloicefdaa
