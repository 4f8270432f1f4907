/- A duration's text is read as itself: plain. -/
import Derived.Test.YtkeeocidinnnnaaDoorCuts
import Derived.Test.YtkeeocidinnnnaaDoorDpar
namespace Go.Proofs.YtkeeocidinnnnaaDoor
open Go.RowKit
set_option linter.unusedVariables false
/-- The number that a list of digits is. -/
def vl (l : List UInt8) : Int := l.foldl (fun n b => 10 * n + ((b.toNat : Int) - 48)) 0
theorem vl_snoc (l : List UInt8) (b : UInt8) : vl (l ++ [b]) = 10 * vl l + ((b.toNat : Int) - 48) := by unfold vl; rw [List.foldl_append]; rfl
theorem vl_from : ∀ (b : List UInt8) (c : Int), b.foldl (fun n b => 10 * n + ((b.toNat : Int) - 48)) c = c * 10 ^ b.length + vl b
  | [], c => by simp [vl]
  | x :: b, c => by
    have e : vl (x :: b) = ((x.toNat : Int) - 48) * 10 ^ b.length + vl b := by
      unfold vl
      rw [List.foldl_cons, vl_from b]
      simp [vl]
    rw [List.foldl_cons, vl_from b, e, List.length_cons, Int.pow_succ, Int.add_mul, Int.add_assoc, Int.mul_comm 10 c, Int.mul_assoc, Int.mul_comm 10]
theorem vl_app (a b : List UInt8) : vl (a ++ b) = vl a * 10 ^ b.length + vl b := by
  show List.foldl _ 0 (a ++ b) = _
  rw [List.foldl_append, vl_from]
  rfl
theorem pre_vl (l : List UInt8) : ∀ k, k ≤ l.length → pre ⟨l.toArray⟩ k = vl (l.take k)
  | 0, _ => by simp [pre, vl]
  | k + 1, h => by
    have hk : k < (⟨l.toArray⟩ : ByteArray).size := by rw [ba_size]; omega
    rw [List.take_succ_eq_append_getElem (by omega), vl_snoc, ← pre_vl l k (by omega), pre, dig, dif_pos hk, ba_get l k hk (by omega)]
theorem dc_val : ∀ i : Fin 10, ((dc i.val).toNat : Int) - 48 = (i.val : Int) := by decide +kernel
theorem vl_fx : ∀ (k u : Nat), vl (fx k u) = ((u % 10 ^ k : Nat) : Int)
  | 0, u => by simp [fx, vl, Nat.mod_one]
  | k + 1, u => by
    rw [fx, vl_snoc, vl_fx k, dc_val ⟨u % 10, by omega⟩]
    have h : u % 10 ^ (k + 1) = 10 * (u / 10 % 10 ^ k) + u % 10 := by
      rw [Nat.pow_succ, Nat.mul_comm, Nat.mod_mul]
      omega
    rw [h]
    push_cast
    rfl
theorem itoa_fx (v : Int) (h0 : 0 ≤ v) (h1 : v < 10000000000) : Lib.repeatL [48] (10 - (Lib.itoa v).length) ++ Lib.itoa v = fx 10 v.toNat := by
  have e : Lib.itoa v = Lib.decDigits v.toNat := by unfold Lib.itoa; rw [if_neg (by omega)]
  rw [e]
  exact dec_fx 9 v.toNat (by omega)
theorem itoa_val (v : Int) (h0 : 0 ≤ v) (h1 : v < 10000000000) : vl (Lib.itoa v) = v := by
  have e := congrArg vl (itoa_fx v h0 h1)
  rw [vl_app, ← fx_zero, vl_fx, vl_fx, Nat.zero_mod, Nat.mod_eq_of_lt (by omega)] at e
  omega
theorem itoa_dig (v : Int) (h0 : 0 ≤ v) (h1 : v < 10000000000) (b : UInt8) (hb : b ∈ Lib.itoa v) : 48 ≤ b.toNat ∧ b.toNat ≤ 57 :=
  fx_dig 10 v.toNat b (by rw [← itoa_fx v h0 h1]; exact List.mem_append_right _ hb)
theorem itoa_le (v : Int) (h0 : 0 ≤ v) (h1 : v < 10000000000) : (Lib.itoa v).length ≤ 10 := by
  have e := congrArg List.length (itoa_fx v h0 h1)
  rw [fx_len, List.length_append] at e
  omega
theorem itoa_pos (v : Int) (h0 : 1 ≤ v) (h1 : v < 10000000000) : 1 ≤ (Lib.itoa v).length := by
  rcases Nat.eq_zero_or_pos (Lib.itoa v).length with h | h
  · have e := itoa_val v (by omega) h1
    rw [List.length_eq_zero_iff.mp h] at e
    simp [vl] at e
    omega
  · exact h
theorem byteAt_list (L : List UInt8) (j : Nat) (h : j < L.length) : byteAt ⟨L.toArray⟩ j = L[j].toNat := by
  unfold byteAt
  have hj : j < (⟨L.toArray⟩ : ByteArray).size := by rw [ba_size]; exact h
  rw [dif_pos hj, ba_get L j hj h]
theorem unit_digit {b : Nat} (h : 48 ≤ b ∧ b ≤ 57) : unit b = 0 ∧ b ≠ 80 ∧ b ≠ 84 := by
  unfold unit
  refine ⟨?_, by omega, by omega⟩
  rw [if_neg (by omega), if_neg (by omega), if_neg (by omega), if_neg (by omega), if_neg (by omega)]
theorem run_mark {L X Y : List UInt8} {m : UInt8} {T : Int} (hL : L = X ++ [m] ++ Y) (hm : m.toNat = 80 ∨ m.toNat = 84) (h : drun ⟨L.toArray⟩ X.length = some (T, X.length)) : drun ⟨L.toArray⟩ (X ++ [m]).length = some (T, (X ++ [m]).length) := by
  rw [show (X ++ [m]).length = X.length + 1 by simp, drun, h]
  have hb : byteAt ⟨L.toArray⟩ X.length = m.toNat := by
    subst hL
    rw [byteAt_list _ _ (by simp)]
    simp
  show dstep _ _ _ _ = _
  unfold dstep
  rw [hb, if_pos (by rcases hm with e | e <;> rw [e] <;> rfl), if_pos hm]
theorem run_seg {L X D Y : List UInt8} {U : UInt8} {T : Int} (hL : L = X ++ (D ++ [U]) ++ Y) (hD : ∀ b, b ∈ D → 48 ≤ b.toNat ∧ b.toNat ≤ 57) (h1 : 1 ≤ D.length) (h2 : D.length ≤ 10) (hU : unit U.toNat ≠ 0)
    (h : drun ⟨L.toArray⟩ X.length = some (T, X.length)) : drun ⟨L.toArray⟩ (X ++ (D ++ [U])).length = some (T + vl D * unit U.toNat, (X ++ (D ++ [U])).length) := by
  have hl : L.length = X.length + (D.length + 1) + Y.length := by rw [hL]; simp; omega
  have hi : ∀ i, i ≤ D.length → drun ⟨L.toArray⟩ (X.length + i) = some (T, X.length) := by
    intro i
    induction i with
    | zero => intro _; exact h
    | succ i ih =>
      intro hi
      rw [show X.length + (i + 1) = (X.length + i) + 1 from rfl, drun, ih (by omega)]
      show dstep _ _ _ _ = _
      have hb : byteAt ⟨L.toArray⟩ (X.length + i) = (D[i]'(by omega)).toNat := by
        rw [byteAt_list _ _ (by omega)]
        subst hL
        rw [List.getElem_append_left (by simp; omega), List.getElem_append_right (by omega), List.getElem_append_left (by omega)]
        simp
      obtain ⟨u1, u2, u3⟩ := unit_digit (hD _ (List.getElem_mem (show i < D.length by omega)))
      unfold dstep
      rw [hb, if_pos u1, if_neg (fun h => h.elim u2 u3)]
  have hb : byteAt ⟨L.toArray⟩ (X.length + D.length) = U.toNat := by
    rw [byteAt_list _ _ (by omega)]
    subst hL
    rw [List.getElem_append_left (by simp), List.getElem_append_right (by omega), List.getElem_append_right (by omega)]
    simp
  have he : (⟨L.toArray⟩ : ByteArray).extract X.length (X.length + D.length) = ⟨D.toArray⟩ := by
    rw [Lib.extract_eq]
    congr 2
    show List.take (X.length + D.length - X.length) (List.drop X.length L) = D
    subst hL
    rw [show X.length + D.length - X.length = D.length by omega]
    simp
  rw [show (X ++ (D ++ [U])).length = (X.length + D.length) + 1 by rw [List.length_append, List.length_append, List.length_singleton]; omega, drun, hi D.length (Nat.le_refl _)]
  show dstep _ _ _ _ = _
  unfold dstep
  rw [hb, if_neg hU, he, if_pos ⟨fun k hk => dig_all hD k, by omega, by omega⟩, ba_size, pre_vl D D.length (Nat.le_refl _), List.take_length]
theorem run_part {L X Y : List UInt8} {v : Int} {u : UInt8} {T : Int} (hL : L = X ++ part v u ++ Y) (h0 : 0 ≤ v) (h1 : v < 10000000000) (hu : unit u.toNat ≠ 0)
    (h : drun ⟨L.toArray⟩ X.length = some (T, X.length)) : drun ⟨L.toArray⟩ (X ++ part v u).length = some (T + v * unit u.toNat, (X ++ part v u).length) := by
  by_cases q : v = 0
  · subst q
    rw [show part 0 u = [] from rfl, List.append_nil, h, Int.zero_mul, Int.add_zero]
  · have e : part v u = Lib.itoa v ++ [u] := if_neg q
    rw [e] at hL ⊢
    have := run_seg hL (itoa_dig v h0 h1) (itoa_pos v (by omega) h1) (itoa_le v h0 h1) hu h
    rwa [itoa_val v h0 h1] at this
theorem run_zero (L : List UInt8) : drun ⟨L.toArray⟩ ([] : List UInt8).length = some (0, ([] : List UInt8).length) := rfl
/-- What DurText writes is read as itself. -/
theorem dpV_dur (n : Int) (h1 : 1 ≤ n) (h2 : n ≤ 2147483648) : dpV ⟨(dur n).toArray⟩ = (n, 0) := by
  have key : ∃ a, drun ⟨(dur n).toArray⟩ (dur n).length = some (n, a) := by
    unfold dur
    split
    · rename_i q
      have r0 := run_mark (L := [80] ++ Lib.itoa (n / 604800) ++ [87]) (X := []) (Y := Lib.itoa (n / 604800) ++ [87]) (m := 80) (by simp) (.inl rfl) (run_zero _)
      have r1 := run_seg (Y := []) (by simp) (itoa_dig (n / 604800) (by omega) (by omega)) (itoa_pos _ (by omega) (by omega)) (itoa_le _ (by omega) (by omega)) (U := 87) (by decide) r0
      rw [itoa_val _ (by omega) (by omega), show unit (87 : UInt8).toNat = 604800 from rfl, show 0 + n / 604800 * 604800 = n by omega] at r1
      exact ⟨_, by simpa using r1⟩
    · split
      · have r0 := run_mark (L := [80] ++ part (n / 86400) 68 ++ ([84] ++ part (n % 86400 / 3600) 72 ++ part (n % 86400 / 60 % 60) 77 ++ part (n % 86400 % 60) 83)) (X := []) (Y := part (n / 86400) 68 ++ ([84] ++ part (n % 86400 / 3600) 72 ++ part (n % 86400 / 60 % 60) 77 ++ part (n % 86400 % 60) 83)) (m := 80) (by simp) (.inl rfl) (run_zero _)
        have r1 := run_part (Y := [84] ++ part (n % 86400 / 3600) 72 ++ part (n % 86400 / 60 % 60) 77 ++ part (n % 86400 % 60) 83) (v := n / 86400) (u := 68) (by simp) (by omega) (by omega) (by decide) r0
        have r2 := run_mark (Y := part (n % 86400 / 3600) 72 ++ part (n % 86400 / 60 % 60) 77 ++ part (n % 86400 % 60) 83) (m := 84) (by simp) (.inr rfl) r1
        have r3 := run_part (Y := part (n % 86400 / 60 % 60) 77 ++ part (n % 86400 % 60) 83) (v := n % 86400 / 3600) (u := 72) (by simp) (by omega) (by omega) (by decide) r2
        have r4 := run_part (Y := part (n % 86400 % 60) 83) (v := n % 86400 / 60 % 60) (u := 77) (by simp) (by omega) (by omega) (by decide) r3
        have r5 := run_part (Y := []) (v := n % 86400 % 60) (u := 83) (by simp) (by omega) (by omega) (by decide) r4
        rw [show unit (68 : UInt8).toNat = 86400 from rfl, show unit (72 : UInt8).toNat = 3600 from rfl, show unit (77 : UInt8).toNat = 60 from rfl, show unit (83 : UInt8).toNat = 1 from rfl, show 0 + n / 86400 * 86400 + n % 86400 / 3600 * 3600 + n % 86400 / 60 % 60 * 60 + n % 86400 % 60 * 1 = n by omega] at r5
        exact ⟨_, by simpa using r5⟩
      · have r0 := run_mark (L := [80] ++ part (n / 86400) 68 ++ []) (X := []) (Y := part (n / 86400) 68) (m := 80) (by simp) (.inl rfl) (run_zero _)
        have r1 := run_part (Y := []) (v := n / 86400) (u := 68) (by simp) (by omega) (by omega) (by decide) r0
        rw [show unit (68 : UInt8).toNat = 86400 from rfl, show 0 + n / 86400 * 86400 = n by omega] at r1
        exact ⟨_, by simpa using r1⟩
  obtain ⟨a, key⟩ := key
  rw [dpV_some (a := a) (by rw [ba_size]; exact key), if_pos ⟨⟨h1, h2⟩, rfl⟩]
/-- What DurParse answers: the duration whose text it is, or none. -/
theorem dpV_cases (s : ByteArray) : (∃ n, 1 ≤ n ∧ n ≤ 2147483648 ∧ s = ⟨(dur n).toArray⟩ ∧ dpV s = (n, 0)) ∨ ((∀ n, 1 ≤ n → n ≤ 2147483648 → s ≠ ⟨(dur n).toArray⟩) ∧ dpV s = (0, 4)) := by
  by_cases h : ∃ n, 1 ≤ n ∧ n ≤ 2147483648 ∧ s = ⟨(dur n).toArray⟩
  · obtain ⟨n, h1, h2, rfl⟩ := h
    exact .inl ⟨n, h1, h2, rfl, dpV_dur n h1 h2⟩
  · refine .inr ⟨fun n h1 h2 e => h ⟨n, h1, h2, e⟩, ?_⟩
    cases q : drun s s.size with
    | none => exact dpV_none q
    | some p =>
      rw [dpV_some (T := p.1) (a := p.2) q, if_neg (fun g => h ⟨p.1, g.1.1, g.1.2, g.2.symm⟩)]
theorem dur_len (n : Int) (h1 : 1 ≤ n) (h2 : n ≤ 2147483648) : 1 ≤ (dur n).length ∧ (dur n).length ≤ 100 := by
  unfold dur
  have a := part_len (n / 86400) 68 (by omega) (by omega)
  have b := part_len (n % 86400 / 3600) 72 (by omega) (by omega)
  have c := part_len (n % 86400 / 60 % 60) 77 (by omega) (by omega)
  have d := part_len (n % 86400 % 60) 83 (by omega) (by omega)
  have e := itoa_len (n / 604800) (by omega) (by omega)
  split
  · simp only [List.length_append, List.length_cons, List.length_nil]; omega
  · split <;> simp only [List.length_append, List.length_cons, List.length_nil] <;> omega
end Go.Proofs.YtkeeocidinnnnaaDoor
