/- voklaw2.StampDurs. -/
import Derived.Test.YtkeeocidinnnnaaDoorBack
import Derived.Test.YtkeeocidinnnnaaDoorRdpar
namespace Go.Proofs.YtkeeocidinnnnaaDoor
open Go.RowKit
set_option linter.unusedVariables false
def rfold (L : List UInt8) (p : Int × Int) : Int × Int := L.foldl (fun p b => rstep p b.toNat) p
theorem rfold_app (a b : List UInt8) (p : Int × Int) : rfold (a ++ b) p = rfold b (rfold a p) := List.foldl_append
theorem rrun_fold (L : List UInt8) : ∀ j, j ≤ L.length → rrun ⟨((80 :: L : List UInt8)).toArray⟩ j = rfold (L.take j) (0, 0)
  | 0, _ => rfl
  | j + 1, h => by
    rw [rrun, rrun_fold L j (by omega), List.take_succ_eq_append_getElem (by omega), rfold_app, byteAt_list _ _ (by simp; omega)]
    rfl
def vf (c : Int) (D : List UInt8) : Int := D.foldl (fun n b => 10 * n + ((b.toNat : Int) - 48)) c
theorem vf_mono : ∀ (D : List UInt8) (c : Int), (∀ b, b ∈ D → 48 ≤ b.toNat ∧ b.toNat ≤ 57) → 0 ≤ c → c ≤ vf c D
  | [], c, _, _ => Int.le_refl c
  | x :: D, c, h, hc => by
    have hx := h x (List.mem_cons_self ..)
    have := vf_mono D (10 * c + ((x.toNat : Int) - 48)) (fun b hb => h b (List.mem_cons_of_mem _ hb)) (by omega)
    show c ≤ vf (10 * c + ((x.toNat : Int) - 48)) D
    omega
theorem rfold_dig : ∀ (D : List UInt8) (T c : Int), (∀ b, b ∈ D → 48 ≤ b.toNat ∧ b.toNat ≤ 57) → 0 ≤ c → vf c D ≤ 8589934592 → rfold D (T, c) = (T, vf c D)
  | [], T, c, _, _, _ => rfl
  | x :: D, T, c, h, hc, hv => by
    have hx := h x (List.mem_cons_self ..)
    have hd : ∀ b, b ∈ D → 48 ≤ b.toNat ∧ b.toNat ≤ 57 := fun b hb => h b (List.mem_cons_of_mem _ hb)
    have hm := vf_mono D (10 * c + ((x.toNat : Int) - 48)) hd (by omega)
    have hv' : vf (10 * c + ((x.toNat : Int) - 48)) D ≤ 8589934592 := hv
    show rfold D (rstep (T, c) x.toNat) = _
    unfold rstep
    rw [if_pos hx]
    show rfold D (T, min (10 * c + ((x.toNat : Int) - 48)) 8589934592) = _
    rw [show min (10 * c + ((x.toNat : Int) - 48)) 8589934592 = 10 * c + ((x.toNat : Int) - 48) by omega, rfold_dig D T _ hd (by omega) hv']
    rfl
theorem rfold_part {v : Int} {u : UInt8} {T : Int} (h0 : 0 ≤ v) (h1 : v ≤ 8589934592) (hu : unit u.toNat ≠ 0) (hT : 0 ≤ T) (hb : T + v * unit u.toNat ≤ 1152921504606846976) : rfold (part v u) (T, 0) = (T + v * unit u.toNat, 0) := by
  by_cases q : v = 0
  · subst q
    rw [show part 0 u = [] from rfl]
    simp [rfold]
  · rw [show part v u = Lib.itoa v ++ [u] from if_neg q, rfold_app, rfold_dig _ _ _ (itoa_dig v h0 (by omega)) (by omega) (by show vl (Lib.itoa v) ≤ _; rw [itoa_val v h0 (by omega)]; exact h1)]
    show rfold [u] (T, vl (Lib.itoa v)) = _
    rw [itoa_val v h0 (by omega)]
    show rstep (T, v) u.toNat = _
    unfold rstep
    rw [if_neg (fun h => hu (unit_digit h).1), if_neg hu]
    show (min (T + v * unit u.toNat) 1152921504606846976, (0 : Int)) = _
    rw [show min (T + v * unit u.toNat) 1152921504606846976 = T + v * unit u.toNat by omega]
theorem rd_dur (n : Int) (h1 : 1 ≤ n) (h2 : n ≤ 2147483648) : rdV ⟨(dur n).toArray⟩ = (n, 0) := by
  have key : ∃ L, dur n = 80 :: L ∧ rfold L (0, 0) = (n, 0) := by
    by_cases q : n % 604800 = 0
    · rw [dur_week n q]
      refine ⟨Lib.itoa (n / 604800) ++ [87], rfl, ?_⟩
      have := rfold_part (v := n / 604800) (u := 87) (T := 0) (by omega) (by omega) (by decide) (by omega) (by rw [show unit (87 : UInt8).toNat = 604800 from rfl]; omega)
      rw [show part (n / 604800) 87 = Lib.itoa (n / 604800) ++ [87] from if_neg (by omega)] at this
      rw [this, show unit (87 : UInt8).toNat = 604800 from rfl, show 0 + n / 604800 * 604800 = n by omega]
    · rw [dur_no2 n q]
      have a1 := rfold_part (v := n / 86400) (u := 68) (T := 0) (by omega) (by omega) (by decide) (by omega) (by rw [show unit (68 : UInt8).toNat = 86400 from rfl]; omega)
      by_cases z : 0 < n % 86400
      · rw [if_pos z]
        refine ⟨part (n / 86400) 68 ++ ([84] ++ part (n % 86400 / 3600) 72 ++ part (n % 86400 / 60 % 60) 77 ++ part (n % 86400 % 60) 83), rfl, ?_⟩
        have u1 : unit (68 : UInt8).toNat = 86400 := rfl
        have u2 : unit (72 : UInt8).toNat = 3600 := rfl
        have u3 : unit (77 : UInt8).toNat = 60 := rfl
        have u4 : unit (83 : UInt8).toNat = 1 := rfl
        rw [rfold_app, a1, rfold_app, rfold_app, rfold_app, u1]
        rw [show rfold [84] (0 + n / 86400 * 86400, 0) = (0 + n / 86400 * 86400, 0) from rfl]
        rw [rfold_part (by omega) (by omega) (by decide) (by omega) (by rw [u2]; omega), u2]
        rw [rfold_part (by omega) (by omega) (by decide) (by omega) (by rw [u3]; omega), u3]
        rw [rfold_part (by omega) (by omega) (by decide) (by omega) (by rw [u4]; omega), u4]
        congr 1
        omega
      · rw [if_neg z]
        refine ⟨part (n / 86400) 68, by simp, ?_⟩
        rw [a1, show unit (68 : UInt8).toNat = 86400 from rfl, show 0 + n / 86400 * 86400 = n by omega]
  obtain ⟨L, hL, hf⟩ := key
  have hr : rrun ⟨(dur n).toArray⟩ ((⟨(dur n).toArray⟩ : ByteArray).size - 1) = (n, 0) := by
    rw [ba_size, hL, show ((80 :: L : List UInt8)).length - 1 = L.length by simp, rrun_fold L L.length (Nat.le_refl _), List.take_length, hf]
  unfold rdV
  rw [hr, if_pos ⟨⟨h1, h2⟩, rfl⟩]
theorem rd_cases (s : ByteArray) : (∃ n, 1 ≤ n ∧ n ≤ 2147483648 ∧ s = ⟨(dur n).toArray⟩ ∧ rdV s = (n, 0)) ∨ ((∀ n, 1 ≤ n → n ≤ 2147483648 → s ≠ ⟨(dur n).toArray⟩) ∧ rdV s = (0, 4)) := by
  by_cases h : ∃ n, 1 ≤ n ∧ n ≤ 2147483648 ∧ s = ⟨(dur n).toArray⟩
  · obtain ⟨n, h1, h2, rfl⟩ := h
    exact .inl ⟨n, h1, h2, rfl, rd_dur n h1 h2⟩
  · refine .inr ⟨fun n h1 h2 e => h ⟨n, h1, h2, e⟩, ?_⟩
    unfold rdV
    rw [if_neg (fun g => h ⟨_, g.1.1, g.1.2, g.2.symm⟩)]
theorem rd_same (s : ByteArray) : rdV s = dpV s := by
  rcases dpV_cases s with ⟨n, h1, h2, rfl, hd⟩ | ⟨h, hd⟩
  · rw [hd]; exact rd_dur n h1 h2
  · rcases rd_cases s with ⟨m, g1, g2, e, -⟩ | ⟨-, hr⟩
    · exact absurd e (h m g1 g2)
    · rw [hr, hd]
theorem itoa_lek (k : Nat) (v : Int) (h0 : 0 ≤ v) (h1 : v.toNat < 10 ^ (k + 1)) : (Lib.itoa v).length ≤ k + 1 := by
  have e : Lib.itoa v = Lib.decDigits v.toNat := by unfold Lib.itoa; rw [if_neg (by omega)]
  have := congrArg List.length (dec_fx k v.toNat h1)
  rw [fx_len, List.length_append, ← e] at this
  omega
theorem part_lek (k : Nat) (v : Int) (u : UInt8) (h0 : 0 ≤ v) (h1 : v.toNat < 10 ^ (k + 1)) : (part v u).length ≤ k + 2 := by
  unfold part
  split
  · simp
  · have := itoa_lek k v h0 h1
    rw [List.length_append, List.length_singleton]
    omega
theorem dur_len30 (n : Int) (h1 : 1 ≤ n) (h2 : n ≤ 2147483648) : (dur n).length ≤ 30 := by
  have a := part_lek 4 (n / 86400) 68 (by omega) (by omega)
  have b := part_lek 1 (n % 86400 / 3600) 72 (by omega) (by omega)
  have c := part_lek 1 (n % 86400 / 60 % 60) 77 (by omega) (by omega)
  have d := part_lek 1 (n % 86400 % 60) 83 (by omega) (by omega)
  have e := itoa_lek 3 (n / 604800) (by omega) (by omega)
  unfold dur
  split
  · simp only [List.length_append, List.length_cons, List.length_nil]; omega
  · split <;> simp only [List.length_append, List.length_cons, List.length_nil] <;> omega
/-- The document's answer is the product's. -/
theorem rdurparse_as (s : ByteArray) (h1 : 1 ≤ s.size) (w : World) : Calls Tryd.prog 21 #[.string s] w fun e w' => e = .returned (.tuple #[.int .i64 (dpV s).1, .int .i64 (dpV s).2]) ∧ Below w.heap.size w w' := by
  by_cases q : s.size ≤ 30
  · have := rdurparse_any s h1 q w
    rwa [rd_same s] at this
  · have e : dpV s = (0, 4) := by
      rcases dpV_cases s with ⟨n, g1, g2, rfl, -⟩ | ⟨-, hd⟩
      · rw [ba_size] at q
        exact absurd (dur_len30 n g1 g2) q
      · exact hd
    rw [e]
    refine (rdurparse_long s h1 (by omega) w).mono ?_
    rintro e w' ⟨rfl, rfl⟩
    exact ⟨rfl, Below.refl _ _⟩
theorem rdurparse_empty (w : World) : Calls Tryd.prog 21 #[.string ⟨#[]⟩] w fun e w' => e = .returned (.tuple #[.int .i64 0, .int .i64 2]) ∧ w = w' := by
  go_enter Tryd.func21, Tryd.ntmps21
  go_wp2_with fail
  go_ret2
  exact ⟨rfl, rfl⟩
set_option maxRecDepth 100000 in
set_option maxHeartbeats 4000000 in
theorem stampDurs_true {n : Int} {s : ByteArray} {w : World} (ht : Tab w)  :
    Calls Tryd.prog 4 #[.int .i64 n, .string s] w fun e w' => e = .returned (.bool true) ∧ Below w.heap.size w w' := by
  by_cases q1 : (2000 : Int) < (s.size : Int)
  · have q1t := decide_eq_true q1
    go_enter Tryd.func4, Tryd.ntmps4
    go_wp2_with fail
    have b := Below.refl w.heap.size w
    refine (first_any _ ht).mono ?_
    rintro e wz ⟨rfl, bb⟩
    replace ht := ht.below bb
    replace b := b.trans (bb.mono b.size)
    clear bb
    go_wp2_with fail
    refine (first_any _ ht).mono ?_
    rintro e wz ⟨rfl, bb⟩
    replace ht := ht.below bb
    replace b := b.trans (bb.mono b.size)
    clear bb
    go_wp2_with fail
    go_ret
    exact ⟨rfl, b⟩
  · have q1t := decide_eq_false q1
    have hd2 : s.size ≤ 2000 := by omega
    by_cases g : 1 ≤ n ∧ n ≤ 2147483648
    · go_enter Tryd.func4, Tryd.ntmps4
      go_wp2_with fail
      have b := Below.refl w.heap.size w
      refine (first_any _ ht).mono ?_
      rintro e wz ⟨rfl, bb⟩
      replace ht := ht.below bb
      replace b := b.trans (bb.mono b.size)
      clear bb
      go_wp2_with fail
      refine (dur_yes n g.1 g.2 _ ht).mono ?_
      rintro e wz ⟨rfl, bb⟩
      replace ht := ht.below bb
      replace b := b.trans (bb.mono b.size)
      clear bb
      go_wp2_with fail
      refine (rdur_yes n g.1 g.2 _).mono ?_
      rintro e wz ⟨rfl, bb⟩
      replace ht := ht.below bb
      replace b := b.trans (bb.mono b.size)
      clear bb
      generalize dur n = D
      go_wp2_with fail
      rcases Nat.eq_zero_or_pos s.size with z | z
      · obtain rfl := empty_of z
        refine (durparse_empty _).mono ?_
        rintro e w9 ⟨rfl, rfl⟩
        go_wp2_with fail
        refine (rdurparse_empty _).mono ?_
        rintro e w9 ⟨rfl, rfl⟩
        go_wp2_with fail
        refine (first_any _ ht).mono ?_
        rintro e wz ⟨rfl, bb⟩
        replace ht := ht.below bb
        replace b := b.trans (bb.mono b.size)
        clear bb
        go_wp2_with fail
        go_ret
        exact ⟨rfl, b⟩
      · have hp := durparse_any s z hd2
        have hr := rdurparse_as s z
        generalize dpV s = r at hp hr
        refine (hp _ ht).mono ?_
        rintro e wz ⟨rfl, bb⟩
        replace ht := ht.below bb
        replace b := b.trans (bb.mono b.size)
        clear bb
        go_wp2_with fail
        refine (hr _).mono ?_
        rintro e wz ⟨rfl, bb⟩
        replace ht := ht.below bb
        replace b := b.trans (bb.mono b.size)
        clear bb
        go_wp2_with fail
        refine (first_any _ ht).mono ?_
        rintro e wz ⟨rfl, bb⟩
        replace ht := ht.below bb
        replace b := b.trans (bb.mono b.size)
        clear bb
        go_wp2_with fail
        go_ret
        exact ⟨rfl, b⟩
    · go_enter Tryd.func4, Tryd.ntmps4
      go_wp2_with fail
      have b := Below.refl w.heap.size w
      refine (first_any _ ht).mono ?_
      rintro e wz ⟨rfl, bb⟩
      replace ht := ht.below bb
      replace b := b.trans (bb.mono b.size)
      clear bb
      go_wp2_with fail
      refine (dur_no n g _).mono ?_
      rintro e w9 ⟨rfl, rfl⟩
      go_wp2_with fail
      refine (rdur_no n g _).mono ?_
      rintro e w9 ⟨rfl, rfl⟩
      go_wp2_with fail
      rcases Nat.eq_zero_or_pos s.size with z | z
      · obtain rfl := empty_of z
        refine (durparse_empty _).mono ?_
        rintro e w9 ⟨rfl, rfl⟩
        go_wp2_with fail
        refine (rdurparse_empty _).mono ?_
        rintro e w9 ⟨rfl, rfl⟩
        go_wp2_with fail
        refine (first_any _ ht).mono ?_
        rintro e wz ⟨rfl, bb⟩
        replace ht := ht.below bb
        replace b := b.trans (bb.mono b.size)
        clear bb
        go_wp2_with fail
        go_ret
        exact ⟨rfl, b⟩
      · have hp := durparse_any s z hd2
        have hr := rdurparse_as s z
        generalize dpV s = r at hp hr
        refine (hp _ ht).mono ?_
        rintro e wz ⟨rfl, bb⟩
        replace ht := ht.below bb
        replace b := b.trans (bb.mono b.size)
        clear bb
        go_wp2_with fail
        refine (hr _).mono ?_
        rintro e wz ⟨rfl, bb⟩
        replace ht := ht.below bb
        replace b := b.trans (bb.mono b.size)
        clear bb
        go_wp2_with fail
        refine (first_any _ ht).mono ?_
        rintro e wz ⟨rfl, bb⟩
        replace ht := ht.below bb
        replace b := b.trans (bb.mono b.size)
        clear bb
        go_wp2_with fail
        go_ret
        exact ⟨rfl, b⟩
end Go.Proofs.YtkeeocidinnnnaaDoor
