/- stamp.Parse of any text. -/
import Derived.Test.YtkeeocidinnnnaaDoorDback
namespace Go.Proofs.YtkeeocidinnnnaaDoor
open Go.RowKit
set_option linter.unusedVariables false
theorem parse_bad2 (s : ByteArray) (hs : s.size = 15) (hT : ∀ h : 8 < s.size, s[8].toNat = 84) (k l : Nat) (hk : k < 8 ∧ ¬ IsDig (s.extract 0 8) k) (hl : l < 6 ∧ ¬ IsDig (s.extract 9 15) l) (w : World) :
    Calls Tryd.prog 16 #[.string s] w fun e w' => e = .returned (.tuple #[.int .i64 0, .int .i64 4]) ∧ w = w' := by
  have z1 : (s.extract 0 8).size = 8 := by rw [ByteArray.size_extract]; omega
  have z2 : (s.extract 9 15).size = 6 := by rw [ByteArray.size_extract]; omega
  have q8 : 8 < s.size := by omega
  have hT := hT q8
  have N1 := number_no (s.extract 0 8) (by omega) k (by omega) hk.2
  have N2 := number_no (s.extract 9 15) (by omega) l (by omega) hl.2
  clear hk hl
  go_enter Tryd.func16, Tryd.ntmps16
  go_wp2_with fail
  refine (N1 _).mono ?_
  rintro e w3 ⟨rfl, rfl⟩
  go_wp2_with fail
  refine (N2 _).mono ?_
  rintro e w3 ⟨rfl, rfl⟩
  go_wp2_with fail
  go_ret2
  exact ⟨rfl, rfl⟩
def mk6 (a b : Int) : Int × Int := mkV (a / 10000) (a / 100 % 100) (a % 100) (b / 10000) (b / 100 % 100) (b % 100)
open Classical in
/-- What Parse answers. -/
noncomputable def psV (s : ByteArray) : Int × Int :=
  if s.size < 15 then (0, 2) else if 15 < s.size ∨ byteAt s 8 ≠ 84 then (0, 4)
  else if AllDig (s.extract 0 8) ∧ AllDig (s.extract 9 15) then mk6 (pre (s.extract 0 8) 8) (pre (s.extract 9 15) 6) else (0, 4)
theorem not_all {s : ByteArray} (h : ¬ AllDig s) : ∃ k, k < s.size ∧ ¬ IsDig s k := by
  unfold AllDig at h
  have := Classical.not_forall.mp h
  obtain ⟨k, hk⟩ := this
  have := Classical.not_imp.mp hk
  exact ⟨k, this.1, this.2⟩
theorem parse_any (s : ByteArray) (w : World) : Calls Tryd.prog 16 #[.string s] w fun e w' => e = .returned (.tuple #[.int .i64 (psV s).1, .int .i64 (psV s).2]) ∧ w = w' := by
  unfold psV
  by_cases q : s.size < 15
  · rw [if_pos q]; exact parse_short s q w
  · rw [if_neg q]
    by_cases q2 : 15 < s.size
    · rw [if_pos (.inl q2)]; exact parse_long s q2 w
    · have z : s.size = 15 := by omega
      by_cases q3 : byteAt s 8 = 84
      · rw [if_neg (fun h => h.elim q2 (fun h => h q3))]
        have hT : ∀ h : 8 < s.size, s[8].toNat = 84 := fun h => by unfold byteAt at q3; rwa [dif_pos h] at q3
        have z1 : (s.extract 0 8).size = 8 := by rw [ByteArray.size_extract]; omega
        have z2 : (s.extract 9 15).size = 6 := by rw [ByteArray.size_extract]; omega
        by_cases a : AllDig (s.extract 0 8)
        · by_cases b : AllDig (s.extract 9 15)
          · rw [if_pos ⟨a, b⟩]
            exact parse_full s z hT (fun k hk => a k (by omega)) (fun k hk => b k (by omega)) _ _ rfl rfl w
          · rw [if_neg (fun h => b h.2)]
            obtain ⟨k, hk, hn⟩ := not_all b
            exact parse_bad s z hT k (.inr ⟨fun i hi => a i (by omega), by omega, hn⟩) (fun h => absurd (a k (by omega)) h.2) w
        · rw [if_neg (fun h => a h.1)]
          obtain ⟨k, hk, hn⟩ := not_all a
          by_cases b : AllDig (s.extract 9 15)
          · exact parse_bad s z hT k (.inl ⟨by omega, hn⟩) (fun _ i hi => b i (by omega)) w
          · obtain ⟨l, hl, hm⟩ := not_all b
            exact parse_bad2 s z hT k l ⟨by omega, hn⟩ ⟨by omega, hm⟩ w
      · rw [if_pos (.inr q3)]
        exact parse_noT s z (fun h => by unfold byteAt at q3; rwa [dif_pos h] at q3) w
/-! Plain: digits and numbers. -/
theorem fx_split : ∀ (k j u : Nat), fx (j + k) u = fx j (u / 10 ^ k) ++ fx k (u % 10 ^ k)
  | 0, j, u => by simp [fx]
  | k + 1, j, u => by
    rw [show j + (k + 1) = (j + k) + 1 from rfl, fx, fx_split k j (u / 10), fx]
    have e1 : u / 10 / 10 ^ k = u / 10 ^ (k + 1) := by rw [Nat.div_div_eq_div_mul, Nat.pow_succ, Nat.mul_comm]
    have e2 : u % 10 ^ (k + 1) / 10 = u / 10 % 10 ^ k := by rw [Nat.pow_succ, Nat.mul_comm, Nat.mod_mul_right_div_self]
    have e3 : u % 10 ^ (k + 1) % 10 = u % 10 := by rw [Nat.pow_succ, Nat.mod_mul_left_mod]
    rw [e1, e2, e3, List.append_assoc]
theorem dc_byte : ∀ b : Fin 256, 48 ≤ b.val → b.val ≤ 57 → dc (b.val - 48) = UInt8.ofNat b.val := by decide +kernel
theorem fx_vl : ∀ (n : Nat) (P : List UInt8), P.length = n → (∀ b, b ∈ P → 48 ≤ b.toNat ∧ b.toNat ≤ 57) → 0 ≤ vl P ∧ fx n (vl P).toNat = P
  | 0, P, h, _ => by
    obtain rfl := List.length_eq_zero_iff.mp h
    exact ⟨by simp [vl], rfl⟩
  | n + 1, P, h, hd => by
    have hne : P ≠ [] := by intro e; rw [e] at h; simp at h
    obtain ⟨Q, x, rfl⟩ : ∃ Q x, P = Q ++ [x] := ⟨P.dropLast, P.getLast hne, (List.dropLast_concat_getLast hne).symm⟩
    obtain ⟨i1, i2⟩ := fx_vl n Q (by simpa using h) (fun b hb => hd b (List.mem_append_left _ hb))
    have hx := hd x (List.mem_append_right _ (List.mem_singleton.mpr rfl))
    rw [vl_snoc]
    refine ⟨by omega, ?_⟩
    rw [fx, show (10 * vl Q + ((x.toNat : Int) - 48)).toNat / 10 = (vl Q).toNat by omega, i2, show (10 * vl Q + ((x.toNat : Int) - 48)).toNat % 10 = x.toNat - 48 by omega]
    have := dc_byte ⟨x.toNat, x.toNat_lt⟩ hx.1 hx.2
    rw [show dc (x.toNat - 48) = x from by rw [this]; simp]
theorem vl_digits {P : List UInt8} {n : Nat} (h : P.length = n) (hd : ∀ b, b ∈ P → 48 ≤ b.toNat ∧ b.toNat ≤ 57) : 0 ≤ vl P ∧ (vl P).toNat < 10 ^ n := by
  obtain ⟨a, b⟩ := fx_vl n P h hd
  refine ⟨a, ?_⟩
  have e := vl_fx n (vl P).toNat
  rw [b] at e
  have := Nat.mod_lt (vl P).toNat (show 0 < 10 ^ n from Nat.pow_pos (by omega))
  omega
/-- A text of the form is the text of its numbers. -/
theorem form_txt {P Q : List UInt8} (hP : P.length = 8) (hQ : Q.length = 6) (dP : ∀ b, b ∈ P → 48 ≤ b.toNat ∧ b.toNat ≤ 57) (dQ : ∀ b, b ∈ Q → 48 ≤ b.toNat ∧ b.toNat ≤ 57) :
    P ++ 84 :: Q = txtN (vl P / 10000).toNat (vl P / 100 % 100).toNat (vl P % 100).toNat (vl Q / 10000).toNat (vl Q / 100 % 100).toNat (vl Q % 100).toNat := by
  obtain ⟨a1, a2⟩ := fx_vl 8 P hP dP
  obtain ⟨b1, b2⟩ := fx_vl 6 Q hQ dQ
  obtain ⟨-, a3⟩ := vl_digits hP dP
  obtain ⟨-, b3⟩ := vl_digits hQ dQ
  unfold txtN
  have eP : P = fx 4 (vl P / 10000).toNat ++ fx 2 (vl P / 100 % 100).toNat ++ fx 2 (vl P % 100).toNat := by
    have h1 := fx_split 2 6 (vl P).toNat
    have h2 := fx_split 2 4 ((vl P).toNat / 10 ^ 2)
    rw [a2] at h1
    rw [show (vl P / 10000).toNat = (vl P).toNat / 10 ^ 2 / 10 ^ 2 by omega, show (vl P / 100 % 100).toNat = (vl P).toNat / 10 ^ 2 % 10 ^ 2 by omega, show (vl P % 100).toNat = (vl P).toNat % 10 ^ 2 by omega, ← h2]
    exact h1
  have eQ : Q = fx 2 (vl Q / 10000).toNat ++ fx 2 (vl Q / 100 % 100).toNat ++ fx 2 (vl Q % 100).toNat := by
    have h1 := fx_split 2 4 (vl Q).toNat
    have h2 := fx_split 2 2 ((vl Q).toNat / 10 ^ 2)
    rw [b2] at h1
    rw [show (vl Q / 10000).toNat = (vl Q).toNat / 10 ^ 2 / 10 ^ 2 by omega, show (vl Q / 100 % 100).toNat = (vl Q).toNat / 10 ^ 2 % 10 ^ 2 by omega, show (vl Q % 100).toNat = (vl Q).toNat % 10 ^ 2 by omega, ← h2]
    exact h1
  rw [← eP, List.append_assoc, List.append_assoc, List.append_assoc, ← List.append_assoc (fx 2 _) (fx 2 _) (fx 2 _), ← eQ]
  rfl
theorem psV_form {P Q : List UInt8} (hP : P.length = 8) (hQ : Q.length = 6) (dP : ∀ b, b ∈ P → 48 ≤ b.toNat ∧ b.toNat ≤ 57) (dQ : ∀ b, b ∈ Q → 48 ≤ b.toNat ∧ b.toNat ≤ 57) : psV ⟨(P ++ 84 :: Q).toArray⟩ = mk6 (vl P) (vl Q) := by
  obtain ⟨p1, p2, p3, p4⟩ := parts (x := 84) hP hQ
  unfold psV
  have hb : byteAt ⟨(P ++ 84 :: Q).toArray⟩ 8 = 84 := by
    have h8 : 8 < (⟨(P ++ 84 :: Q).toArray⟩ : ByteArray).size := by omega
    unfold byteAt
    rw [dif_pos h8]
    exact p2 h8
  rw [if_neg (by omega), if_neg (fun h => h.elim (by omega) (fun h => h hb)), p3, p4, if_pos ⟨fun k _ => dig_all dP k, fun k _ => dig_all dQ k⟩]
  have e1 := pre_vl P 8 (by omega)
  have e2 := pre_vl Q 6 (by omega)
  rw [List.take_of_length_le (by omega)] at e1 e2
  rw [e1, e2]
theorem txtN_val {y m d h i s : Nat} (a1 : y < 10000) (a2 : m < 100) (a3 : d < 100) (a4 : h < 100) (a5 : i < 100) (a6 : s < 100) : psV ⟨(txtN y m d h i s).toArray⟩ = mkV y m d h i s := by
  have e : txtN y m d h i s = (fx 4 y ++ fx 2 m ++ fx 2 d) ++ 84 :: (fx 2 h ++ fx 2 i ++ fx 2 s) := by unfold txtN; simp
  have dg : ∀ (a b c : List UInt8), (∀ x, x ∈ a → 48 ≤ x.toNat ∧ x.toNat ≤ 57) → (∀ x, x ∈ b → 48 ≤ x.toNat ∧ x.toNat ≤ 57) → (∀ x, x ∈ c → 48 ≤ x.toNat ∧ x.toNat ≤ 57) → ∀ x, x ∈ a ++ b ++ c → 48 ≤ x.toNat ∧ x.toNat ≤ 57 := fun a b c ha hb hc x hx => by
    rcases List.mem_append.mp hx with h | h
    · rcases List.mem_append.mp h with h | h
      · exact ha x h
      · exact hb x h
    · exact hc x h
  rw [e, psV_form (by simp [fx_len]) (by simp [fx_len]) (dg _ _ _ (fx_dig _ _) (fx_dig _ _) (fx_dig _ _)) (dg _ _ _ (fx_dig _ _) (fx_dig _ _) (fx_dig _ _))]
  rw [vl_app, vl_app, vl_app, vl_app, vl_fx, vl_fx, vl_fx, vl_fx, vl_fx, vl_fx, fx_len, fx_len, fx_len, fx_len]
  rw [Nat.mod_eq_of_lt (show y < 10 ^ 4 by omega), Nat.mod_eq_of_lt (show m < 10 ^ 2 by omega), Nat.mod_eq_of_lt (show d < 10 ^ 2 by omega), Nat.mod_eq_of_lt (show h < 10 ^ 2 by omega), Nat.mod_eq_of_lt (show i < 10 ^ 2 by omega), Nat.mod_eq_of_lt (show s < 10 ^ 2 by omega)]
  unfold mk6
  congr 1 <;> omega
theorem num_rng {y m d : Int} (v : Civ.valid y m d) : -719162 ≤ Civ.num y m d ∧ Civ.num y m d ≤ 2932896 := Civ.num_bd v
/-- What Text writes is read as itself. -/
theorem psV_txt {t y m d : Int} (v : Civ.valid y m d) (n : Civ.num y m d = t / 86400) : psV ⟨(txt y m d (t % 86400)).toArray⟩ = (t, 0) := by
  obtain ⟨m1, m2⟩ := Civ.valid_m v
  have l1 := Civ.len_pos y m m1 m2
  have v' := v
  obtain ⟨y1, y2, d1, d2⟩ := v
  rw [txt_fx (by omega) (by omega) (by omega) (by omega) (by omega) (by omega) (by omega) (by omega), txtN_val (by omega) (by omega) (by omega) (by omega) (by omega) (by omega)]
  rw [Int.toNat_of_nonneg (by omega), Int.toNat_of_nonneg (by omega), Int.toNat_of_nonneg (by omega), Int.toNat_of_nonneg (by omega), Int.toNat_of_nonneg (by omega), Int.toNat_of_nonneg (by omega)]
  rw [mkV_yes v' ⟨by omega, by omega, by omega, by omega, by omega, by omega⟩, n]
  congr 1
  omega
theorem txt_len {t y m d : Int} (v : Civ.valid y m d) : (txt y m d (t % 86400)).length = 15 := by
  obtain ⟨m1, m2⟩ := Civ.valid_m v
  have l1 := Civ.len_pos y m m1 m2
  obtain ⟨y1, y2, d1, d2⟩ := v
  rw [txt_fx (by omega) (by omega) (by omega) (by omega) (by omega) (by omega) (by omega) (by omega), txtN_len]
theorem mem_extract {s : ByteArray} {L : List UInt8} (h : s = ⟨L.toArray⟩) (a : AllDig s) (b : UInt8) (hb : b ∈ L) : 48 ≤ b.toNat ∧ b.toNat ≤ 57 := by
  subst h
  obtain ⟨k, hk, rfl⟩ := List.mem_iff_getElem.mp hb
  have hs : k < (⟨L.toArray⟩ : ByteArray).size := by rw [ba_size]; exact hk
  have := a k hs hs
  rwa [ba_get L k hs hk] at this
/-- What Parse answers: a moment whose text it is, or none. -/
theorem psV_cases (s : ByteArray) : (∃ t y m d, MayT t ∧ Civ.valid y m d ∧ Civ.num y m d = t / 86400 ∧ s = ⟨(txt y m d (t % 86400)).toArray⟩ ∧ psV s = (t, 0)) ∨ (∃ c, psV s = (0, c) ∧ (c = 1 ∨ c = 2 ∨ c = 4)) := by
  by_cases q : s.size < 15
  · exact .inr ⟨2, by unfold psV; rw [if_pos q], by omega⟩
  by_cases q2 : 15 < s.size ∨ byteAt s 8 ≠ 84
  · exact .inr ⟨4, by unfold psV; rw [if_neg q, if_pos q2], by omega⟩
  by_cases q3 : AllDig (s.extract 0 8) ∧ AllDig (s.extract 9 15)
  · have z : s.size = 15 := by
      have : ¬ 15 < s.size := fun h => q2 (.inl h)
      omega
    have h8 : byteAt s 8 = 84 := Classical.byContradiction fun h => q2 (.inr h)
    obtain ⟨⟨L⟩⟩ := s
    have zL : L.length = 15 := by rw [← z]; rfl
    rw [byteAt_list L 8 (by omega)] at h8
    obtain ⟨P, Q, hL, hP, hQ⟩ : ∃ P Q : List UInt8, L = P ++ 84 :: Q ∧ P.length = 8 ∧ Q.length = 6 := by
      refine ⟨L.take 8, L.drop 9, ?_, by simp; omega, by simp; omega⟩
      have : L[8]'(by omega) = 84 := UInt8.toNat_inj.mp h8
      rw [← this, List.getElem_cons_drop, List.take_append_drop]
    subst hL
    obtain ⟨-, -, p3, p4⟩ := parts (x := 84) hP hQ
    have p3 : ByteArray.extract ⟨⟨P ++ 84 :: Q⟩⟩ 0 8 = ⟨P.toArray⟩ := p3
    have p4 : ByteArray.extract ⟨⟨P ++ 84 :: Q⟩⟩ 9 15 = ⟨Q.toArray⟩ := p4
    have dP := mem_extract p3 q3.1
    have dQ := mem_extract p4 q3.2
    have e : psV ⟨⟨P ++ 84 :: Q⟩⟩ = mk6 (vl P) (vl Q) := psV_form hP hQ dP dQ
    have ef := form_txt hP hQ dP dQ
    obtain ⟨a1, a2⟩ := vl_digits hP dP
    obtain ⟨b1, b2⟩ := vl_digits hQ dQ
    unfold mk6 at e
    by_cases k : Civ.valid (vl P / 10000) (vl P / 100 % 100) (vl P % 100) ∧ Clock (vl Q / 10000) (vl Q / 100 % 100) (vl Q % 100)
    · rw [mkV_yes k.1 k.2] at e
      obtain ⟨v, c1, c2, c3, c4, c5, c6⟩ := k
      obtain ⟨r1, r2⟩ := num_rng v
      refine .inl ⟨_, _, _, _, ⟨by omega, by omega⟩, v, by omega, ?_, e⟩
      have v' := v
      obtain ⟨m1, m2⟩ := Civ.valid_m v
      have l1 := Civ.len_pos (vl P / 10000) (vl P / 100 % 100) m1 m2
      obtain ⟨y1, y2, d1, d2⟩ := v
      rw [txt_fx (by omega) (by omega) (by omega) (by omega) (by omega) (by omega) (by omega) (by omega), ef]
      generalize Civ.num (vl P / 10000) (vl P / 100 % 100) (vl P % 100) = N at *
      have e0 : (N * 86400 + 3600 * (vl Q / 10000) + 60 * (vl Q / 100 % 100) + vl Q % 100) % 86400 = 3600 * (vl Q / 10000) + 60 * (vl Q / 100 % 100) + vl Q % 100 := by omega
      rw [e0]
      rw [show (3600 * (vl Q / 10000) + 60 * (vl Q / 100 % 100) + vl Q % 100) / 3600 = vl Q / 10000 by omega, show (3600 * (vl Q / 10000) + 60 * (vl Q / 100 % 100) + vl Q % 100) / 60 % 60 = vl Q / 100 % 100 by omega, show (3600 * (vl Q / 10000) + 60 * (vl Q / 100 % 100) + vl Q % 100) % 60 = vl Q % 100 by omega]
    · rw [mkV_no k] at e
      exact .inr ⟨1, e, by omega⟩
  · exact .inr ⟨4, by unfold psV; rw [if_neg q, if_neg q2, if_neg q3], by omega⟩
end Go.Proofs.YtkeeocidinnnnaaDoor
