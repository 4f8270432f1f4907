/- The log in plain Lean: what a scan tells makes the file's beginning; what the log's operations make of it. -/
import Derived.Test.YtkhbpaloicefdaaBack1
namespace Go.Proofs.Ytkhbpaloicefdaa
open Go.RowKit
set_option linter.unusedVariables false
theorem getd_ok_take {b p : List Nat} {i : Nat} (h : getd b (i : Int) = .ok p) : (b.drop i).take (6 + p.length) = recd p := by
  unfold getd at h
  split at h
  · cases h
  · have e : (i : Int).toNat = i := by simp
    rw [e] at h
    unfold getx at h
    split at h
    · cases h
    · split at h
      · cases h
      · split at h
        · cases h
        · rename_i h6 h7 h8
          split at h
          · rename_i h9
            injection h with h
            have h10 : p.length = numAt (b.drop i) := by rw [← h]; simp only [List.length_take, List.length_drop] at h8 ⊢; omega
            rw [← h10] at h9 h
            rw [h] at h9
            rw [h9]
          · cases h
theorem scanF_takes {b : List Nat} : ∀ (n i : Nat), i ≤ b.length → i ≤ (scanF b n i).2 ∧ (scanF b n i).2 ≤ b.length ∧ joined (scanF b n i).1 = (b.drop i).take ((scanF b n i).2 - i)
  | 0, i, hi => ⟨Nat.le_refl _, hi, by simp [scanF, joined]⟩
  | n + 1, i, hi => by
    cases hg : getd b (i : Int) with
    | err k => rw [scanF_err hg]; exact ⟨Nat.le_refl _, hi, by simp [joined]⟩
    | ok p =>
      rw [scanF_ok hg]
      obtain ⟨hl, _⟩ := getd_ok_le hg
      obtain ⟨h1, h2, h3⟩ := scanF_takes (b := b) n (i + 6 + p.length) hl
      refine ⟨by show i ≤ (scanF b n (i + 6 + p.length)).2; omega, h2, ?_⟩
      show joined (p :: (scanF b n (i + 6 + p.length)).1) = (b.drop i).take ((scanF b n (i + 6 + p.length)).2 - i)
      rw [joined_cons, h3]
      have e1 : (scanF b n (i + 6 + p.length)).2 - i = (6 + p.length) + ((scanF b n (i + 6 + p.length)).2 - (i + 6 + p.length)) := by omega
      rw [e1, List.take_add, getd_ok_take hg, List.drop_drop]
      congr 3
      omega
theorem scanF_mem {b : List Nat} (hb : Small b) : ∀ (n i : Nat), ∀ q ∈ (scanF b n i).1, Small q ∧ q.length ≤ 8192
  | 0, i, q, hq => by simp [scanF] at hq
  | n + 1, i, q, hq => by
    cases hg : getd b (i : Int) with
    | err k => rw [scanF_err hg] at hq; simp at hq
    | ok p =>
      rw [scanF_ok hg] at hq
      obtain ⟨hl, h8⟩ := getd_ok_le hg
      rcases List.mem_cons.1 hq with rfl | hq
      · refine ⟨?_, h8⟩
        have e := getd_ok_take hg
        have h1 : Small (recd q) := by rw [← e]; exact (hb.drop i).take _
        intro x hx
        exact h1 x (by unfold recd; exact List.mem_append_right _ hx)
      · exact scanF_mem hb n _ q hq
theorem scand_le (b : List Nat) : (scand b).2 ≤ b.length := (scanF_takes (b := b) (b.length + 1) 0 (Nat.zero_le _)).2.1
theorem scand_take (b : List Nat) : joined (scand b).1 = b.take (scand b).2 := by
  have h := (scanF_takes (b := b) (b.length + 1) 0 (Nat.zero_le _)).2.2
  simpa [scand] using h
theorem scand_mem {b : List Nat} (hb : Small b) : ∀ q ∈ (scand b).1, Small q ∧ q.length ≤ 8192 := scanF_mem hb _ _
theorem scand_few (b : List Nat) : 6 * (scand b).1.length ≤ b.length := by
  have h1 := joined_len (scand b).1
  rw [scand_take, List.length_take] at h1
  omega
/-- A log: its disk's room, how much is synced, its records. -/
structure Lg where
  r : Int
  s : Nat
  R : List (List Nat)
structure Fine (S : Lg) (N : Nat) : Prop where
  r0 : 0 ≤ S.r
  r1 : S.r ≤ 1073741824
  s : S.s ≤ (joined S.R).length
  l : (joined S.R).length ≤ N
theorem Fine.more {S : Lg} {N M : Nat} (h : Fine S N) (hM : N ≤ M) : Fine S M := ⟨h.r0, h.r1, h.s, Nat.le_trans h.l hM⟩
/-- Append; its error. -/
def addL (S : Lg) (p : List Nat) : Lg × Int :=
  if 8192 < p.length then (S, 3) else if (p.length : Int) + 6 ≤ S.r - (joined S.R).length then (⟨S.r, S.s, S.R ++ [p]⟩, 0) else (S, 9)
def syncL (S : Lg) : Lg := ⟨S.r, (joined S.R).length, S.R⟩
/-- Put. -/
def putL (S : Lg) (p : List Nat) : Lg × Int := if (addL S p).2 = 0 then (syncL (addL S p).1, 0) else addL S p
/-- Checkpoint. -/
def checkL (S : Lg) (P : List (List Nat)) : Lg × Int :=
  if ∀ p ∈ P, p.length ≤ 8192 then (if ((joined P).length : Int) ≤ S.r then (⟨S.r, (joined P).length, P⟩, 0) else (S, 9)) else (S, 3)
theorem addL_fine {S : Lg} {N : Nat} (h : Fine S N) (p : List Nat) : Fine (addL S p).1 (N + (p.length + 6)) := by
  obtain ⟨r0, r1, hs, hl⟩ := h
  unfold addL
  split
  · exact Fine.more (S := S) ⟨r0, r1, hs, hl⟩ (by omega)
  split
  · refine ⟨r0, r1, ?_, ?_⟩
    · show S.s ≤ (joined (S.R ++ [p])).length
      rw [joined_snoc, List.length_append]; omega
    · show (joined (S.R ++ [p])).length ≤ _
      rw [joined_snoc, List.length_append, recd_length]; omega
  · exact Fine.more (S := S) ⟨r0, r1, hs, hl⟩ (by omega)
theorem syncL_fine {S : Lg} {N : Nat} (h : Fine S N) : Fine (syncL S) N := ⟨h.r0, h.r1, Nat.le_refl _, h.l⟩
theorem putL_fine {S : Lg} {N : Nat} (h : Fine S N) (p : List Nat) : Fine (putL S p).1 (N + (p.length + 6)) := by
  unfold putL
  split
  · exact syncL_fine (addL_fine h p)
  · exact addL_fine h p
theorem checkL_fine {S : Lg} {N M : Nat} (h : Fine S N) (P : List (List Nat)) (hM : (joined P).length ≤ M) : Fine (checkL S P).1 (max N M) := by
  unfold checkL
  split
  · split
    · exact ⟨h.r0, h.r1, Nat.le_refl _, by show (joined P).length ≤ _; omega⟩
    · exact h.more (by omega)
  · exact h.more (by omega)
end Go.Proofs.Ytkhbpaloicefdaa
