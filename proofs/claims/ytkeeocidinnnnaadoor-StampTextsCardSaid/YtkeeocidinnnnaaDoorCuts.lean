/- voklaw2.StampCuts. -/
import Derived.Test.YtkeeocidinnnnaaDoorBad
import Derived.Deep.RegionHeld3
import Derived.Deep.DrawnRows
namespace Go.Proofs.YtkeeocidinnnnaaDoor
open Go.RowKit
set_option linter.unusedVariables false
theorem u8_bd {n : Int} (h : (Lit.int .u8 n).wf = true) : 0 ≤ n ∧ n ≤ 255 := by
  simp [Lit.wf, IntKind.min, IntKind.max, IntKind.signed, IntKind.bits] at h
  omega
theorem fx_dig : ∀ (k u : Nat) (b : UInt8), b ∈ fx k u → 48 ≤ b.toNat ∧ b.toNat ≤ 57
  | 0, u, b, h => by cases h
  | k + 1, u, b, h => by
    rcases List.mem_append.mp h with h | h
    · exact fx_dig k _ b h
    · have e := List.mem_singleton.mp h
      have : ∀ i : Fin 10, 48 ≤ (dc i.val).toNat ∧ (dc i.val).toNat ≤ 57 := by decide +kernel
      rw [e]
      exact this ⟨u % 10, by omega⟩
/-- A moment's text: eight digits, a T, six digits. -/
theorem txt_form {t y m d : Int} (v : Civ.valid y m d) : ∃ P Q : List UInt8, txt y m d (t % 86400) = P ++ 84 :: Q ∧ P.length = 8 ∧ Q.length = 6 ∧ (∀ b, b ∈ P → 48 ≤ b.toNat ∧ b.toNat ≤ 57) ∧ (∀ b, b ∈ Q → 48 ≤ b.toNat ∧ b.toNat ≤ 57) := by
  obtain ⟨m1, m2⟩ := Civ.valid_m v
  have l1 := Civ.len_pos y m m1 m2
  obtain ⟨y1, y2, d1, d2⟩ := v
  rw [txt_fx (by omega) (by omega) (by omega) (by omega) (by omega) (by omega) (by omega) (by omega)]
  refine ⟨fx 4 y.toNat ++ fx 2 m.toNat ++ fx 2 d.toNat, fx 2 (t % 86400 / 3600).toNat ++ fx 2 (t % 86400 / 60 % 60).toNat ++ fx 2 (t % 86400 % 60).toNat, by simp [txtN], by simp [fx_len], by simp [fx_len], fun b h => ?_, fun b h => ?_⟩
  · rcases List.mem_append.mp h with h | h
    · rcases List.mem_append.mp h with h | h
      · exact fx_dig _ _ b h
      · exact fx_dig _ _ b h
    · exact fx_dig _ _ b h
  · rcases List.mem_append.mp h with h | h
    · rcases List.mem_append.mp h with h | h
      · exact fx_dig _ _ b h
      · exact fx_dig _ _ b h
    · exact fx_dig _ _ b h
theorem ba_get (N : List UInt8) (k : Nat) (h : k < (⟨N.toArray⟩ : ByteArray).size) (h' : k < N.length) : (⟨N.toArray⟩ : ByteArray)[k] = N[k] := by
  show N.toArray[k] = N[k]
  simp
theorem ba_size (N : List UInt8) : (⟨N.toArray⟩ : ByteArray).size = N.length := by
  show N.toArray.size = N.length
  simp
theorem dig_all {N : List UInt8} (h : ∀ b, b ∈ N → 48 ≤ b.toNat ∧ b.toNat ≤ 57) (k : Nat) : IsDig ⟨N.toArray⟩ k := fun hk => by
  have hk' : k < N.length := by rw [ba_size] at hk; exact hk
  rw [ba_get N k hk hk']
  exact h _ (List.getElem_mem hk')
theorem dig_not {N : List UInt8} {k : Nat} (hk : k < N.length) (h : ¬ (48 ≤ N[k].toNat ∧ N[k].toNat ≤ 57)) : ¬ IsDig ⟨N.toArray⟩ k := fun g => by
  have hk' : k < (⟨N.toArray⟩ : ByteArray).size := by rw [ba_size]; exact hk
  have := g hk'
  rw [ba_get N k hk' hk] at this
  exact h this
theorem parts {P Q : List UInt8} {x : UInt8} (hP : P.length = 8) (hQ : Q.length = 6) : (⟨(P ++ x :: Q).toArray⟩ : ByteArray).size = 15 ∧ (∀ h : 8 < (⟨(P ++ x :: Q).toArray⟩ : ByteArray).size, (⟨(P ++ x :: Q).toArray⟩ : ByteArray)[8].toNat = x.toNat) ∧ (⟨(P ++ x :: Q).toArray⟩ : ByteArray).extract 0 8 = ⟨P.toArray⟩ ∧ (⟨(P ++ x :: Q).toArray⟩ : ByteArray).extract 9 15 = ⟨Q.toArray⟩ := by
  refine ⟨by rw [ba_size]; simp; omega, fun h => ?_, ?_, ?_⟩
  · rw [ba_get _ 8 h (by simp; omega)]
    rw [List.getElem_append_right (by omega)]
    simp [hP]
  · rw [Lib.extract_eq]
    congr 2
    show List.take (8 - 0) (List.drop 0 (P ++ x :: Q)) = P
    simp [hP]
  · rw [Lib.extract_eq]
    congr 2
    show List.take (15 - 9) (List.drop 9 (P ++ x :: Q)) = Q
    rw [List.drop_append, hP, List.drop_of_length_le (by omega)]
    simp
    exact List.take_of_length_le (by omega)
/-- A text with one sign turned to one that is no digit and no T. -/
theorem turned {P Q : List UInt8} {c : UInt8} (hP : P.length = 8) (hQ : Q.length = 6) (dP : ∀ b, b ∈ P → 48 ≤ b.toNat ∧ b.toNat ≤ 57) (dQ : ∀ b, b ∈ Q → 48 ≤ b.toNat ∧ b.toNat ≤ 57) (hc : ¬ (48 ≤ c.toNat ∧ c.toNat ≤ 57)) (hT : c.toNat ≠ 84) (n : Nat) (hn : n ≤ 14) (w : World) :
    Calls Tryd.prog 16 #[.string ⟨((P ++ 84 :: Q).take n ++ c :: (P ++ 84 :: Q).drop (n + 1)).toArray⟩] w fun e w' => e = .returned (.tuple #[.int .i64 0, .int .i64 4]) ∧ w = w' := by
  rcases Nat.lt_trichotomy n 8 with q | rfl | q
  · have e : (P ++ 84 :: Q).take n ++ c :: (P ++ 84 :: Q).drop (n + 1) = (P.take n ++ c :: P.drop (n + 1)) ++ 84 :: Q := by
      rw [List.take_append, List.drop_append, show n - P.length = 0 by omega, show n + 1 - P.length = 0 by omega]
      simp
    rw [e]
    have hl : (P.take n ++ c :: P.drop (n + 1)).length = 8 := by simp; omega
    obtain ⟨a1, a2, a3, a4⟩ := parts (x := 84) hl hQ
    refine parse_bad _ a1 (fun h => a2 h) n (.inl ⟨q, ?_⟩) (fun _ i _ => by rw [a4]; exact dig_all dQ i) w
    rw [a3]
    refine dig_not (by omega) ?_
    rw [List.getElem_append_right (by simp; omega)]
    simp [show n - min n P.length = 0 by omega]
    simpa using hc
  · have e : (P ++ 84 :: Q).take 8 ++ c :: (P ++ 84 :: Q).drop (8 + 1) = P ++ c :: Q := by
      rw [List.take_append, List.drop_append, hP, List.take_of_length_le (by omega), List.drop_of_length_le (by omega)]
      simp
    rw [e]
    obtain ⟨a1, a2, a3, a4⟩ := parts (x := c) hP hQ
    exact parse_noT _ a1 (fun h => by rw [a2 h]; exact hT) w
  · have e : (P ++ 84 :: Q).take n ++ c :: (P ++ 84 :: Q).drop (n + 1) = P ++ 84 :: (Q.take (n - 9) ++ c :: Q.drop (n - 9 + 1)) := by
      rw [List.take_append, List.drop_append, hP, List.take_of_length_le (by omega), List.drop_of_length_le (l := P) (by omega), show n - 8 = (n - 9) + 1 by omega, show n + 1 - 8 = (n - 9 + 1) + 1 by omega]
      simp
    rw [e]
    have hl : (Q.take (n - 9) ++ c :: Q.drop (n - 9 + 1)).length = 6 := by simp; omega
    obtain ⟨a1, a2, a3, a4⟩ := parts (x := 84) hP hl
    refine parse_bad _ a1 (fun h => a2 h) (n - 9) (.inr ⟨fun i _ => by rw [a3]; exact dig_all dP i, by omega, ?_⟩) (fun h => absurd h.2 (by rw [a3]; exact fun g => g (dig_all dP _))) w
    rw [a4]
    refine dig_not (by omega) ?_
    rw [List.getElem_append_right (by simp; omega)]
    simp [show n - 9 - min (n - 9) Q.length = 0 by omega]
    simpa using hc
theorem cut3 {X : List UInt8} {k : Nat} (h : X.length = 15) (c : UInt8) : (⟨X.toArray⟩ : ByteArray).extract 0 k ++ ⟨[c].toArray⟩ ++ (⟨X.toArray⟩ : ByteArray).extract (k + 1) 15 = ⟨(X.take k ++ c :: X.drop (k + 1)).toArray⟩ := by
  rw [Lib.extract_eq, Lib.extract_eq, ba_app, ba_app]
  congr 2
  simp
  rw [List.take_of_length_le (by simp; omega)]
theorem conv_byte (w : World) {c : Int} (c1 : 0 ≤ c) (c2 : c ≤ 255) : (convert 30 9 (.slice (some ⟨w.heap.size, 0, none⟩) 1 1)).run Tryd.prog (w.alloc (.cells #[.int .u8 c] 5)) = .ok (.string ⟨[UInt8.ofNat c.toNat].toArray⟩) (w.alloc (.cells #[.int .u8 c] 5)) := by
  rw [run_convert_bytes_arg (P := Tryd.prog) (w.alloc (.cells #[.int .u8 c] 5)) 30 5 (by kernel_rfl) (by kernel_rfl) w.heap.size 0 1 1 [c] rfl (fun i hi => by
    obtain rfl : i = 0 := by omega
    show World.cell? _ ⟨w.heap.size, 0 + 0, none⟩ = _
    exact World.cell?_alloc_at _ _ _ _ rfl) 9 (by kernel_rfl)]
  rfl
theorem conv_byte_d (w : World) {c : Int} (c1 : 0 ≤ c) (c2 : c ≤ 255) : (convert 30 9 (.slice (some ⟨w.heap.size, 0, none⟩) 1 1)).run Tryd.prog (w.alloc (.cells #[.int .u8 c] 5)).drew = .ok (.string ⟨[UInt8.ofNat c.toNat].toArray⟩) (w.alloc (.cells #[.int .u8 c] 5)).drew := by
  rw [run_convert_bytes_arg (P := Tryd.prog) (w.alloc (.cells #[.int .u8 c] 5)).drew 30 5 (by kernel_rfl) (by kernel_rfl) w.heap.size 0 1 1 [c] rfl (fun i hi => by
    obtain rfl : i = 0 := by omega
    show World.cell? _ ⟨w.heap.size, 0 + 0, none⟩ = _
    exact World.cell?_alloc_at (w := w) _ _ _ _ rfl) 9 (by kernel_rfl)]
  rfl
set_option maxRecDepth 100000 in
set_option maxHeartbeats 4000000 in
theorem stampCuts_true {t n c : Int} {w : World} (ht : Tab w) (t1 : -9223372036854775808 ≤ t) (t2 : t ≤ 9223372036854775807) (c1 : 0 ≤ c) (c2 : c ≤ 255) :
    Calls Tryd.prog 6 #[.int .i64 t, .int .i64 n, .int .u8 c] w fun e w' => e = .returned (.bool true) ∧ Below w.heap.size w w' := by
  have hba := ba_app
  by_cases p : MayT t
  · by_cases q1 : n < 0
    · have q1t := decide_eq_true q1
      go_enter Tryd.func6, Tryd.ntmps6
      go_wp2_with fail
      have b := Below.refl w.heap.size w
      refine (first_any _ ht).mono ?_
      rintro e wz ⟨rfl, bb⟩
      replace ht := ht.below bb
      replace b := b.trans (bb.mono b.size)
      clear bb
      go_wp2_with fail
      refine (text_yes t p _ ht).mono ?_
      rintro e wz ⟨y, m, d, v, nn, rfl, bb⟩
      replace ht := ht.below bb
      replace b := b.trans (bb.mono b.size)
      clear bb
      obtain ⟨P, Q, eX, hP, hQ, dP, dQ⟩ := txt_form (t := t) v
      rw [eX]
      have hw := Lib.hid (show True from trivial)
      obtain ⟨X, hX⟩ : ∃ l, l = P ++ 84 :: Q := ⟨_, rfl⟩
      have lX : X.length = 15 := by rw [hX]; simp; omega
      rw [← hX]
      replace hX := Lib.hid hX
      clear eX v nn
      go_wp2_with fail
      refine (first_any _ ht).mono ?_
      rintro e wz ⟨rfl, bb⟩
      replace ht := ht.below bb
      replace b := b.trans (bb.mono b.size)
      clear bb
      go_wp2_with fail
      go_ret
      exact ⟨rfl, b⟩
    · have q1t := decide_eq_false q1
      by_cases q2 : 14 < n
      · have q2t := decide_eq_true q2
        go_enter Tryd.func6, Tryd.ntmps6
        go_wp2_with fail
        have b := Below.refl w.heap.size w
        refine (first_any _ ht).mono ?_
        rintro e wz ⟨rfl, bb⟩
        replace ht := ht.below bb
        replace b := b.trans (bb.mono b.size)
        clear bb
        go_wp2_with fail
        refine (text_yes t p _ ht).mono ?_
        rintro e wz ⟨y, m, d, v, nn, rfl, bb⟩
        replace ht := ht.below bb
        replace b := b.trans (bb.mono b.size)
        clear bb
        obtain ⟨P, Q, eX, hP, hQ, dP, dQ⟩ := txt_form (t := t) v
        rw [eX]
        have hw := Lib.hid (show True from trivial)
        obtain ⟨X, hX⟩ : ∃ l, l = P ++ 84 :: Q := ⟨_, rfl⟩
        have lX : X.length = 15 := by rw [hX]; simp; omega
        rw [← hX]
        replace hX := Lib.hid hX
        clear eX v nn
        go_wp2_with fail
        refine (first_any _ ht).mono ?_
        rintro e wz ⟨rfl, bb⟩
        replace ht := ht.below bb
        replace b := b.trans (bb.mono b.size)
        clear bb
        go_wp2_with fail
        go_ret
        exact ⟨rfl, b⟩
      · have q2t := decide_eq_false q2
        by_cases q3 : 48 ≤ c
        · have q3t := decide_eq_true q3
          by_cases q4 : c ≤ 57
          · have q4t := decide_eq_true q4
            go_enter Tryd.func6, Tryd.ntmps6
            go_wp2_with fail
            have b := Below.refl w.heap.size w
            refine (first_any _ ht).mono ?_
            rintro e wz ⟨rfl, bb⟩
            replace ht := ht.below bb
            replace b := b.trans (bb.mono b.size)
            clear bb
            go_wp2_with fail
            refine (text_yes t p _ ht).mono ?_
            rintro e wz ⟨y, m, d, v, nn, rfl, bb⟩
            replace ht := ht.below bb
            replace b := b.trans (bb.mono b.size)
            clear bb
            obtain ⟨P, Q, eX, hP, hQ, dP, dQ⟩ := txt_form (t := t) v
            rw [eX]
            have hw := Lib.hid (show True from trivial)
            obtain ⟨X, hX⟩ : ∃ l, l = P ++ 84 :: Q := ⟨_, rfl⟩
            have lX : X.length = 15 := by rw [hX]; simp; omega
            rw [← hX]
            replace hX := Lib.hid hX
            clear eX v nn
            go_wp2_with fail
            refine (first_any _ ht).mono ?_
            rintro e wz ⟨rfl, bb⟩
            replace ht := ht.below bb
            replace b := b.trans (bb.mono b.size)
            clear bb
            go_wp2_with fail
            go_ret
            exact ⟨rfl, b⟩
          · have q4t := decide_eq_false q4
            by_cases q5 : c = 84
            · subst q5
              go_enter Tryd.func6, Tryd.ntmps6
              go_wp2_with fail
              have b := Below.refl w.heap.size w
              refine (first_any _ ht).mono ?_
              rintro e wz ⟨rfl, bb⟩
              replace ht := ht.below bb
              replace b := b.trans (bb.mono b.size)
              clear bb
              go_wp2_with fail
              refine (text_yes t p _ ht).mono ?_
              rintro e wz ⟨y, m, d, v, nn, rfl, bb⟩
              replace ht := ht.below bb
              replace b := b.trans (bb.mono b.size)
              clear bb
              obtain ⟨P, Q, eX, hP, hQ, dP, dQ⟩ := txt_form (t := t) v
              rw [eX]
              have hw := Lib.hid (show True from trivial)
              obtain ⟨X, hX⟩ : ∃ l, l = P ++ 84 :: Q := ⟨_, rfl⟩
              have lX : X.length = 15 := by rw [hX]; simp; omega
              rw [← hX]
              replace hX := Lib.hid hX
              clear eX v nn
              go_wp2_with fail
              refine (first_any _ ht).mono ?_
              rintro e wz ⟨rfl, bb⟩
              replace ht := ht.below bb
              replace b := b.trans (bb.mono b.size)
              clear bb
              go_wp2_with fail
              go_ret
              exact ⟨rfl, b⟩
            · have q5t : (c == 84) = false := by simpa using q5
              obtain ⟨k, rfl⟩ : ∃ k : Nat, n = (k : Int) := ⟨n.toNat, by omega⟩
              go_enter Tryd.func6, Tryd.ntmps6
              go_wp2_with fail
              have b := Below.refl w.heap.size w
              refine (first_any _ ht).mono ?_
              rintro e wz ⟨rfl, bb⟩
              replace ht := ht.below bb
              replace b := b.trans (bb.mono b.size)
              clear bb
              go_wp2_with fail
              refine (text_yes t p _ ht).mono ?_
              rintro e wz ⟨y, m, d, v, nn, rfl, bb⟩
              replace ht := ht.below bb
              replace b := b.trans (bb.mono b.size)
              clear bb
              obtain ⟨P, Q, eX, hP, hQ, dP, dQ⟩ := txt_form (t := t) v
              rw [eX]
              have hw := Lib.hid (show True from trivial)
              obtain ⟨X, hX⟩ : ∃ l, l = P ++ 84 :: Q := ⟨_, rfl⟩
              have lX : X.length = 15 := by rw [hX]; simp; omega
              rw [← hX]
              replace hX := Lib.hid hX
              clear eX v nn
              go_wp2_with fail
              refine (parse_short _ (by rw [ByteArray.size_extract, ba_size]; omega) _).mono ?_
              rintro e w9 ⟨rfl, rfl⟩
              go_wp2_with fail
              rw [conv_byte _ c1 c2]
              go_simp
              go_wp2_with fail
              refine (parse_long _ (by rw [ba_size]; simp; omega) _).mono ?_
              rintro e wb ⟨rfl, hwb⟩
              replace b := b.alloc b.size (.cells #[.int .u8 c] 5)
              replace ht := ht.below ((Below.refl _ _).alloc (Nat.le_refl _) (.cells #[.int .u8 c] 5))
              rw [hwb] at b ht
              clear hwb
              go_wp2_with fail
              replace b := b.drew
              replace ht : Tab wb.drew := ht
              have k15 : (k : Int) ≤ 15 := by omega
              have k16 : (k : Int) + 1 ≤ 15 := by omega
              have k17 : 0 ≤ (k : Int) + 1 := by omega
              have kw : IntKind.i64.wrap ((k : Int) + 1) = (k : Int) + 1 := by simp [IntKind.wrap, IntKind.bits, IntKind.signed]; omega
              have km : min k 15 = k := by omega
              have kn : ¬ 9223372036854775807 < k + 1 := by omega
              have ko : ¬ 9223372036854775807 < k + 1 + (14 - k) := by omega
              have eu : (UInt8.ofNat c.toNat).toNat = c.toNat := by simp; omega
              have k18 : ((k : Int) + 1).toNat = k + 1 := by omega
              refine wp_region_held_drew (S := fun _ => True) (by kernel_rfl) trivial (fun _ => ?_)
              refine wpAnyH_take (i := 0) (oi := { dst := some 62, op := Op.move (Operand.tmp 7), type := 9, pos := "extra.go:36", after := #[], guard := none }) (v := ?_) rfl (by kernel_rfl) (by kernel_rfl) (by kernel_rfl) (fun _ _ _ h => h) (Or.inl ⟨by rfl, ?_⟩) (by trivial) ?_
              rotate_left
              (focus (intro w9 hSw; skip; go_simp <;> with_reducible rfl))
              try simp only [Act.put, List.setIfInBounds_toArray, List.set_cons_zero, List.set_cons_succ]
              refine wpAnyH_take (i := 1) (oi := { dst := some 63, op := Op.move (Operand.tmp 1), type := 3, pos := "extra.go:36", after := #[], guard := none }) (v := ?_) rfl (by kernel_rfl) (by kernel_rfl) (by kernel_rfl) (fun _ _ _ h => h) (Or.inl ⟨by rfl, ?_⟩) (by trivial) ?_
              rotate_left
              (focus (intro w9 hSw; skip; go_simp <;> with_reducible rfl))
              try simp only [Act.put, List.setIfInBounds_toArray, List.set_cons_zero, List.set_cons_succ]
              refine wpAnyH_take (i := 2) (oi := { dst := some 64, op := Op.slice 9 (Operand.tmp 62) none (some (Operand.tmp 63)) none, type := 9, pos := "extra.go:36", after := #[{ on := 0, ground := Ground.data }, { on := 1, ground := Ground.data }], guard := none }) (v := ?_) rfl (by kernel_rfl) (by kernel_rfl) (by kernel_rfl) (fun _ _ _ h => h) (Or.inl ⟨by rfl, ?_⟩) (by trivial) ?_
              rotate_left
              (focus (intro w9 hSw; skip; go_simp <;> with_reducible rfl))
              try simp only [Act.put, List.setIfInBounds_toArray, List.set_cons_zero, List.set_cons_succ]
              refine wpAnyH_take (i := 3) (oi := { dst := some 65, op := Op.move (Operand.tmp 2), type := 5, pos := "extra.go:36", after := #[], guard := none }) (v := ?_) rfl (by kernel_rfl) (by kernel_rfl) (by kernel_rfl) (fun _ _ _ h => h) (Or.inl ⟨by rfl, ?_⟩) (by trivial) ?_
              rotate_left
              (focus (intro w9 hSw; skip; go_simp <;> with_reducible rfl))
              try simp only [Act.put, List.setIfInBounds_toArray, List.set_cons_zero, List.set_cons_succ]
              refine wpAnyH_take (i := 7) (oi := { dst := some 69, op := Op.move (Operand.tmp 7), type := 9, pos := "extra.go:36", after := #[], guard := none }) (v := ?_) rfl (by kernel_rfl) (by kernel_rfl) (by kernel_rfl) (fun _ _ _ h => h) (Or.inl ⟨by rfl, ?_⟩) (by trivial) ?_
              rotate_left
              (focus (intro w9 hSw; skip; go_simp <;> with_reducible rfl))
              try simp only [Act.put, List.setIfInBounds_toArray, List.set_cons_zero, List.set_cons_succ]
              refine wpAnyH_take (i := 8) (oi := { dst := some 70, op := Op.move (Operand.tmp 1), type := 3, pos := "extra.go:36", after := #[], guard := none }) (v := ?_) rfl (by kernel_rfl) (by kernel_rfl) (by kernel_rfl) (fun _ _ _ h => h) (Or.inl ⟨by rfl, ?_⟩) (by trivial) ?_
              rotate_left
              (focus (intro w9 hSw; skip; go_simp <;> with_reducible rfl))
              try simp only [Act.put, List.setIfInBounds_toArray, List.set_cons_zero, List.set_cons_succ]
              refine wpAnyH_take (i := 9) (oi := { dst := some 71, op := Op.binOp BinOp.add 3 (Operand.tmp 70) (Operand.const (Value.int IntKind.i64 1)) 3, type := 3, pos := "extra.go:36", after := #[{ on := 8, ground := Ground.data }], guard := none }) (v := ?_) rfl (by kernel_rfl) (by kernel_rfl) (by kernel_rfl) (fun _ _ _ h => h) (Or.inl ⟨by rfl, ?_⟩) (by trivial) ?_
              rotate_left
              (focus (intro w9 hSw; skip; go_simp <;> with_reducible rfl))
              try simp only [Act.put, List.setIfInBounds_toArray, List.set_cons_zero, List.set_cons_succ]
              refine wpAnyH_take (i := 10) (oi := { dst := some 72, op := Op.slice 9 (Operand.tmp 69) (some (Operand.tmp 71)) none none, type := 9, pos := "extra.go:36", after := #[{ on := 7, ground := Ground.data }, { on := 9, ground := Ground.data }], guard := none }) (v := ?_) rfl (by kernel_rfl) (by kernel_rfl) (by kernel_rfl) (fun _ _ _ h => h) (Or.inl ⟨by rfl, ?_⟩) (by trivial) ?_
              rotate_left
              (focus (intro w9 hSw; skip; go_simp <;> with_reducible rfl))
              try simp only [Act.put, List.setIfInBounds_toArray, List.set_cons_zero, List.set_cons_succ]
              refine wpAnyH_ready (rs := [4]) (by kernel_rfl) (by simp) ?_
              refine AllReadyH.cons (o := { dst := some 66, op := Op.buildSlice 30 1 #[(0, Operand.tmp 65)], type := 30, pos := "extra.go:36", after := #[{ on := 3, ground := Ground.data }], guard := none }) rfl (fun K hK => ?_) AllReadyH.nil
              go_simp
              go_wp2_with fail
              refine hK.out _ _ trivial (fun _ => ?_)
              clear hK K
              try simp only [Act.put, List.setIfInBounds_toArray, List.set_cons_zero, List.set_cons_succ]
              refine wpAnyH_ready (rs := [5]) (by kernel_rfl) (by simp) ?_
              refine AllReadyH.cons (o := { dst := some 67, op := Op.convert 30 9 (Operand.tmp 66), type := 9, pos := "extra.go:36", after := #[{ on := 4, ground := Ground.data }], guard := none }) rfl (fun K hK => ?_) AllReadyH.nil
              go_simp
              rw [conv_byte_d _ c1 c2]
              go_simp
              go_wp2_with fail
              refine hK.out _ _ trivial (fun _ => ?_)
              clear hK K
              try simp only [Act.put, List.setIfInBounds_toArray, List.set_cons_zero, List.set_cons_succ]
              refine wpAnyH_take (i := 6) (oi := { dst := some 68, op := Op.binOp BinOp.add 9 (Operand.tmp 64) (Operand.tmp 67) 9, type := 9, pos := "extra.go:36", after := #[{ on := 2, ground := Ground.data }, { on := 5, ground := Ground.data }], guard := none }) (v := ?_) rfl (by kernel_rfl) (by kernel_rfl) (by kernel_rfl) (fun _ _ _ h => h) (Or.inl ⟨by rfl, ?_⟩) (by trivial) ?_
              rotate_left
              (focus (intro w9 hSw; skip; go_simp <;> with_reducible rfl))
              try simp only [Act.put, List.setIfInBounds_toArray, List.set_cons_zero, List.set_cons_succ]
              refine wpAnyH_take (i := 11) (oi := { dst := some 73, op := Op.binOp BinOp.add 9 (Operand.tmp 68) (Operand.tmp 72) 9, type := 9, pos := "extra.go:36", after := #[{ on := 6, ground := Ground.data }, { on := 10, ground := Ground.data }], guard := none }) (v := ?_) rfl (by kernel_rfl) (by kernel_rfl) (by kernel_rfl) (fun _ _ _ h => h) (Or.inl ⟨by rfl, ?_⟩) (by trivial) ?_
              rotate_left
              (focus (intro w9 hSw; skip; go_simp <;> with_reducible rfl))
              try simp only [Act.put, List.setIfInBounds_toArray, List.set_cons_zero, List.set_cons_succ]
              refine wpAnyH_ready (rs := [12]) (by kernel_rfl) (by simp) ?_
              refine AllReadyH.cons (o := { dst := some 74, op := Op.call { callee := Callee.value (Operand.func 16), args := #[Operand.tmp 73], argTypes := #[9] }, type := 26, pos := "extra.go:36", after := #[{ on := 11, ground := Ground.data }], guard := none }) rfl (fun K hK => ?_) AllReadyH.nil
              go_simp
              rw [List.take_of_length_le (i := 14 - k) (by simp; omega), hX.out]
              refine (turned (c := UInt8.ofNat c.toNat) hP hQ dP dQ (by rw [eu]; omega) (by rw [eu]; omega) k (by omega) _).mono ?_
              rintro e w9 ⟨rfl, rfl⟩
              go_wp2_with fail
              refine hK.out _ _ trivial (fun _ => ?_)
              clear hK K
              try simp only [Act.put, List.setIfInBounds_toArray, List.set_cons_zero, List.set_cons_succ]
              refine wpAnyH_take (i := 13) (oi := { dst := some 61, op := Op.move (Operand.tmp 74), type := 26, pos := "extra.go:36", after := #[{ on := 12, ground := Ground.data }], guard := none }) (v := ?_) rfl (by kernel_rfl) (by kernel_rfl) (by kernel_rfl) (fun _ _ _ h => h) (Or.inl ⟨by rfl, ?_⟩) (by trivial) ?_
              rotate_left
              (focus (intro w9 hSw; skip; go_simp <;> with_reducible rfl))
              try simp only [Act.put, List.setIfInBounds_toArray, List.set_cons_zero, List.set_cons_succ]
              refine wpAnyH_take (i := 14) (oi := { dst := some 75, op := Op.extract (Operand.tmp 61) 0, type := 3, pos := "extra.go:36", after := #[{ on := 13, ground := Ground.data }], guard := none }) (v := ?_) rfl (by kernel_rfl) (by kernel_rfl) (by kernel_rfl) (fun _ _ _ h => h) (Or.inl ⟨by rfl, ?_⟩) (by trivial) ?_
              rotate_left
              (focus (intro w9 hSw; skip; go_simp <;> with_reducible rfl))
              try simp only [Act.put, List.setIfInBounds_toArray, List.set_cons_zero, List.set_cons_succ]
              refine wpAnyH_take (i := 15) (oi := { dst := some 76, op := Op.extract (Operand.tmp 61) 1, type := 23, pos := "extra.go:36", after := #[{ on := 13, ground := Ground.data }, { on := 16, ground := Ground.gcOnly Departure.lateStores }], guard := none }) (v := ?_) rfl (by kernel_rfl) (by kernel_rfl) (by kernel_rfl) (fun _ _ _ h => h) (Or.inl ⟨by rfl, ?_⟩) (by trivial) ?_
              rotate_left
              (focus (intro w9 hSw; skip; go_simp <;> with_reducible rfl))
              try simp only [Act.put, List.setIfInBounds_toArray, List.set_cons_zero, List.set_cons_succ]
              refine wpAnyH_take (i := 16) (oi := { dst := some 13, op := Op.assign (Operand.tmp 75), type := 3, pos := "extra.go:36", after := #[{ on := 14, ground := Ground.data }, { on := 12, ground := Ground.chain }, { on := 0, ground := Ground.phase }, { on := 1, ground := Ground.phase }, { on := 2, ground := Ground.phase }, { on := 3, ground := Ground.phase }, { on := 4, ground := Ground.phase }, { on := 5, ground := Ground.phase }, { on := 6, ground := Ground.phase }, { on := 7, ground := Ground.phase }, { on := 8, ground := Ground.phase }, { on := 9, ground := Ground.phase }, { on := 10, ground := Ground.phase }, { on := 11, ground := Ground.phase }, { on := 12, ground := Ground.phase }, { on := 13, ground := Ground.phase }, { on := 14, ground := Ground.phase }, { on := 15, ground := Ground.textOnly Departure.lateStores }], guard := none }) (v := ?_) rfl (by kernel_rfl) (by kernel_rfl) (by kernel_rfl) (fun _ _ _ h => h) (Or.inl ⟨by rfl, ?_⟩) (by trivial) ?_
              rotate_left
              (focus (intro w9 hSw; skip; go_simp <;> with_reducible rfl))
              try simp only [Act.put, List.setIfInBounds_toArray, List.set_cons_zero, List.set_cons_succ]
              refine wpAnyH_take (i := 17) (oi := { dst := some 14, op := Op.assign (Operand.tmp 76), type := 23, pos := "extra.go:36", after := #[{ on := 15, ground := Ground.data }, { on := 16, ground := Ground.chain }, { on := 0, ground := Ground.phase }, { on := 1, ground := Ground.phase }, { on := 2, ground := Ground.phase }, { on := 3, ground := Ground.phase }, { on := 4, ground := Ground.phase }, { on := 5, ground := Ground.phase }, { on := 6, ground := Ground.phase }, { on := 7, ground := Ground.phase }, { on := 8, ground := Ground.phase }, { on := 9, ground := Ground.phase }, { on := 10, ground := Ground.phase }, { on := 11, ground := Ground.phase }, { on := 12, ground := Ground.phase }, { on := 13, ground := Ground.phase }, { on := 14, ground := Ground.phase }, { on := 15, ground := Ground.phase }, { on := 16, ground := Ground.phase }], guard := none }) (v := ?_) rfl (by kernel_rfl) (by kernel_rfl) (by kernel_rfl) (fun _ _ _ h => h) (Or.inl ⟨by rfl, ?_⟩) (by trivial) ?_
              rotate_left
              (focus (intro w9 hSw; skip; go_simp <;> with_reducible rfl))
              try simp only [Act.put, List.setIfInBounds_toArray, List.set_cons_zero, List.set_cons_succ]
              refine wpAnyH_done (by kernel_rfl) ?_ _
              go_wp2_with fail
              replace b := b.trans (((Below.refl _ _).alloc (Nat.le_refl _) (.cells #[.int .u8 c] 5)).mono b.size)
              replace ht := ht.below ((Below.refl _ _).alloc (Nat.le_refl _) (.cells #[.int .u8 c] 5))
              refine (first_any _ ht).mono ?_
              rintro e wz ⟨rfl, bb⟩
              replace ht := ht.below bb
              replace b := b.trans (bb.mono b.size)
              clear bb
              go_wp2_with fail
              go_ret
              exact ⟨rfl, b⟩
        · have q3t := decide_eq_false q3
          have q5t : (c == 84) = false := by rw [beq_eq_false_iff_ne]; omega
          obtain ⟨k, rfl⟩ : ∃ k : Nat, n = (k : Int) := ⟨n.toNat, by omega⟩
          go_enter Tryd.func6, Tryd.ntmps6
          go_wp2_with fail
          have b := Below.refl w.heap.size w
          refine (first_any _ ht).mono ?_
          rintro e wz ⟨rfl, bb⟩
          replace ht := ht.below bb
          replace b := b.trans (bb.mono b.size)
          clear bb
          go_wp2_with fail
          refine (text_yes t p _ ht).mono ?_
          rintro e wz ⟨y, m, d, v, nn, rfl, bb⟩
          replace ht := ht.below bb
          replace b := b.trans (bb.mono b.size)
          clear bb
          obtain ⟨P, Q, eX, hP, hQ, dP, dQ⟩ := txt_form (t := t) v
          rw [eX]
          have hw := Lib.hid (show True from trivial)
          obtain ⟨X, hX⟩ : ∃ l, l = P ++ 84 :: Q := ⟨_, rfl⟩
          have lX : X.length = 15 := by rw [hX]; simp; omega
          rw [← hX]
          replace hX := Lib.hid hX
          clear eX v nn
          go_wp2_with fail
          refine (parse_short _ (by rw [ByteArray.size_extract, ba_size]; omega) _).mono ?_
          rintro e w9 ⟨rfl, rfl⟩
          go_wp2_with fail
          rw [conv_byte _ c1 c2]
          go_simp
          go_wp2_with fail
          refine (parse_long _ (by rw [ba_size]; simp; omega) _).mono ?_
          rintro e wb ⟨rfl, hwb⟩
          replace b := b.alloc b.size (.cells #[.int .u8 c] 5)
          replace ht := ht.below ((Below.refl _ _).alloc (Nat.le_refl _) (.cells #[.int .u8 c] 5))
          rw [hwb] at b ht
          clear hwb
          go_wp2_with fail
          replace b := b.drew
          replace ht : Tab wb.drew := ht
          have k15 : (k : Int) ≤ 15 := by omega
          have k16 : (k : Int) + 1 ≤ 15 := by omega
          have k17 : 0 ≤ (k : Int) + 1 := by omega
          have kw : IntKind.i64.wrap ((k : Int) + 1) = (k : Int) + 1 := by simp [IntKind.wrap, IntKind.bits, IntKind.signed]; omega
          have km : min k 15 = k := by omega
          have kn : ¬ 9223372036854775807 < k + 1 := by omega
          have ko : ¬ 9223372036854775807 < k + 1 + (14 - k) := by omega
          have eu : (UInt8.ofNat c.toNat).toNat = c.toNat := by simp; omega
          have k18 : ((k : Int) + 1).toNat = k + 1 := by omega
          refine wp_region_held_drew (S := fun _ => True) (by kernel_rfl) trivial (fun _ => ?_)
          refine wpAnyH_take (i := 0) (oi := { dst := some 62, op := Op.move (Operand.tmp 7), type := 9, pos := "extra.go:36", after := #[], guard := none }) (v := ?_) rfl (by kernel_rfl) (by kernel_rfl) (by kernel_rfl) (fun _ _ _ h => h) (Or.inl ⟨by rfl, ?_⟩) (by trivial) ?_
          rotate_left
          (focus (intro w9 hSw; skip; go_simp <;> with_reducible rfl))
          try simp only [Act.put, List.setIfInBounds_toArray, List.set_cons_zero, List.set_cons_succ]
          refine wpAnyH_take (i := 1) (oi := { dst := some 63, op := Op.move (Operand.tmp 1), type := 3, pos := "extra.go:36", after := #[], guard := none }) (v := ?_) rfl (by kernel_rfl) (by kernel_rfl) (by kernel_rfl) (fun _ _ _ h => h) (Or.inl ⟨by rfl, ?_⟩) (by trivial) ?_
          rotate_left
          (focus (intro w9 hSw; skip; go_simp <;> with_reducible rfl))
          try simp only [Act.put, List.setIfInBounds_toArray, List.set_cons_zero, List.set_cons_succ]
          refine wpAnyH_take (i := 2) (oi := { dst := some 64, op := Op.slice 9 (Operand.tmp 62) none (some (Operand.tmp 63)) none, type := 9, pos := "extra.go:36", after := #[{ on := 0, ground := Ground.data }, { on := 1, ground := Ground.data }], guard := none }) (v := ?_) rfl (by kernel_rfl) (by kernel_rfl) (by kernel_rfl) (fun _ _ _ h => h) (Or.inl ⟨by rfl, ?_⟩) (by trivial) ?_
          rotate_left
          (focus (intro w9 hSw; skip; go_simp <;> with_reducible rfl))
          try simp only [Act.put, List.setIfInBounds_toArray, List.set_cons_zero, List.set_cons_succ]
          refine wpAnyH_take (i := 3) (oi := { dst := some 65, op := Op.move (Operand.tmp 2), type := 5, pos := "extra.go:36", after := #[], guard := none }) (v := ?_) rfl (by kernel_rfl) (by kernel_rfl) (by kernel_rfl) (fun _ _ _ h => h) (Or.inl ⟨by rfl, ?_⟩) (by trivial) ?_
          rotate_left
          (focus (intro w9 hSw; skip; go_simp <;> with_reducible rfl))
          try simp only [Act.put, List.setIfInBounds_toArray, List.set_cons_zero, List.set_cons_succ]
          refine wpAnyH_take (i := 7) (oi := { dst := some 69, op := Op.move (Operand.tmp 7), type := 9, pos := "extra.go:36", after := #[], guard := none }) (v := ?_) rfl (by kernel_rfl) (by kernel_rfl) (by kernel_rfl) (fun _ _ _ h => h) (Or.inl ⟨by rfl, ?_⟩) (by trivial) ?_
          rotate_left
          (focus (intro w9 hSw; skip; go_simp <;> with_reducible rfl))
          try simp only [Act.put, List.setIfInBounds_toArray, List.set_cons_zero, List.set_cons_succ]
          refine wpAnyH_take (i := 8) (oi := { dst := some 70, op := Op.move (Operand.tmp 1), type := 3, pos := "extra.go:36", after := #[], guard := none }) (v := ?_) rfl (by kernel_rfl) (by kernel_rfl) (by kernel_rfl) (fun _ _ _ h => h) (Or.inl ⟨by rfl, ?_⟩) (by trivial) ?_
          rotate_left
          (focus (intro w9 hSw; skip; go_simp <;> with_reducible rfl))
          try simp only [Act.put, List.setIfInBounds_toArray, List.set_cons_zero, List.set_cons_succ]
          refine wpAnyH_take (i := 9) (oi := { dst := some 71, op := Op.binOp BinOp.add 3 (Operand.tmp 70) (Operand.const (Value.int IntKind.i64 1)) 3, type := 3, pos := "extra.go:36", after := #[{ on := 8, ground := Ground.data }], guard := none }) (v := ?_) rfl (by kernel_rfl) (by kernel_rfl) (by kernel_rfl) (fun _ _ _ h => h) (Or.inl ⟨by rfl, ?_⟩) (by trivial) ?_
          rotate_left
          (focus (intro w9 hSw; skip; go_simp <;> with_reducible rfl))
          try simp only [Act.put, List.setIfInBounds_toArray, List.set_cons_zero, List.set_cons_succ]
          refine wpAnyH_take (i := 10) (oi := { dst := some 72, op := Op.slice 9 (Operand.tmp 69) (some (Operand.tmp 71)) none none, type := 9, pos := "extra.go:36", after := #[{ on := 7, ground := Ground.data }, { on := 9, ground := Ground.data }], guard := none }) (v := ?_) rfl (by kernel_rfl) (by kernel_rfl) (by kernel_rfl) (fun _ _ _ h => h) (Or.inl ⟨by rfl, ?_⟩) (by trivial) ?_
          rotate_left
          (focus (intro w9 hSw; skip; go_simp <;> with_reducible rfl))
          try simp only [Act.put, List.setIfInBounds_toArray, List.set_cons_zero, List.set_cons_succ]
          refine wpAnyH_ready (rs := [4]) (by kernel_rfl) (by simp) ?_
          refine AllReadyH.cons (o := { dst := some 66, op := Op.buildSlice 30 1 #[(0, Operand.tmp 65)], type := 30, pos := "extra.go:36", after := #[{ on := 3, ground := Ground.data }], guard := none }) rfl (fun K hK => ?_) AllReadyH.nil
          go_simp
          go_wp2_with fail
          refine hK.out _ _ trivial (fun _ => ?_)
          clear hK K
          try simp only [Act.put, List.setIfInBounds_toArray, List.set_cons_zero, List.set_cons_succ]
          refine wpAnyH_ready (rs := [5]) (by kernel_rfl) (by simp) ?_
          refine AllReadyH.cons (o := { dst := some 67, op := Op.convert 30 9 (Operand.tmp 66), type := 9, pos := "extra.go:36", after := #[{ on := 4, ground := Ground.data }], guard := none }) rfl (fun K hK => ?_) AllReadyH.nil
          go_simp
          rw [conv_byte_d _ c1 c2]
          go_simp
          go_wp2_with fail
          refine hK.out _ _ trivial (fun _ => ?_)
          clear hK K
          try simp only [Act.put, List.setIfInBounds_toArray, List.set_cons_zero, List.set_cons_succ]
          refine wpAnyH_take (i := 6) (oi := { dst := some 68, op := Op.binOp BinOp.add 9 (Operand.tmp 64) (Operand.tmp 67) 9, type := 9, pos := "extra.go:36", after := #[{ on := 2, ground := Ground.data }, { on := 5, ground := Ground.data }], guard := none }) (v := ?_) rfl (by kernel_rfl) (by kernel_rfl) (by kernel_rfl) (fun _ _ _ h => h) (Or.inl ⟨by rfl, ?_⟩) (by trivial) ?_
          rotate_left
          (focus (intro w9 hSw; skip; go_simp <;> with_reducible rfl))
          try simp only [Act.put, List.setIfInBounds_toArray, List.set_cons_zero, List.set_cons_succ]
          refine wpAnyH_take (i := 11) (oi := { dst := some 73, op := Op.binOp BinOp.add 9 (Operand.tmp 68) (Operand.tmp 72) 9, type := 9, pos := "extra.go:36", after := #[{ on := 6, ground := Ground.data }, { on := 10, ground := Ground.data }], guard := none }) (v := ?_) rfl (by kernel_rfl) (by kernel_rfl) (by kernel_rfl) (fun _ _ _ h => h) (Or.inl ⟨by rfl, ?_⟩) (by trivial) ?_
          rotate_left
          (focus (intro w9 hSw; skip; go_simp <;> with_reducible rfl))
          try simp only [Act.put, List.setIfInBounds_toArray, List.set_cons_zero, List.set_cons_succ]
          refine wpAnyH_ready (rs := [12]) (by kernel_rfl) (by simp) ?_
          refine AllReadyH.cons (o := { dst := some 74, op := Op.call { callee := Callee.value (Operand.func 16), args := #[Operand.tmp 73], argTypes := #[9] }, type := 26, pos := "extra.go:36", after := #[{ on := 11, ground := Ground.data }], guard := none }) rfl (fun K hK => ?_) AllReadyH.nil
          go_simp
          rw [List.take_of_length_le (i := 14 - k) (by simp; omega), hX.out]
          refine (turned (c := UInt8.ofNat c.toNat) hP hQ dP dQ (by rw [eu]; omega) (by rw [eu]; omega) k (by omega) _).mono ?_
          rintro e w9 ⟨rfl, rfl⟩
          go_wp2_with fail
          refine hK.out _ _ trivial (fun _ => ?_)
          clear hK K
          try simp only [Act.put, List.setIfInBounds_toArray, List.set_cons_zero, List.set_cons_succ]
          refine wpAnyH_take (i := 13) (oi := { dst := some 61, op := Op.move (Operand.tmp 74), type := 26, pos := "extra.go:36", after := #[{ on := 12, ground := Ground.data }], guard := none }) (v := ?_) rfl (by kernel_rfl) (by kernel_rfl) (by kernel_rfl) (fun _ _ _ h => h) (Or.inl ⟨by rfl, ?_⟩) (by trivial) ?_
          rotate_left
          (focus (intro w9 hSw; skip; go_simp <;> with_reducible rfl))
          try simp only [Act.put, List.setIfInBounds_toArray, List.set_cons_zero, List.set_cons_succ]
          refine wpAnyH_take (i := 14) (oi := { dst := some 75, op := Op.extract (Operand.tmp 61) 0, type := 3, pos := "extra.go:36", after := #[{ on := 13, ground := Ground.data }], guard := none }) (v := ?_) rfl (by kernel_rfl) (by kernel_rfl) (by kernel_rfl) (fun _ _ _ h => h) (Or.inl ⟨by rfl, ?_⟩) (by trivial) ?_
          rotate_left
          (focus (intro w9 hSw; skip; go_simp <;> with_reducible rfl))
          try simp only [Act.put, List.setIfInBounds_toArray, List.set_cons_zero, List.set_cons_succ]
          refine wpAnyH_take (i := 15) (oi := { dst := some 76, op := Op.extract (Operand.tmp 61) 1, type := 23, pos := "extra.go:36", after := #[{ on := 13, ground := Ground.data }, { on := 16, ground := Ground.gcOnly Departure.lateStores }], guard := none }) (v := ?_) rfl (by kernel_rfl) (by kernel_rfl) (by kernel_rfl) (fun _ _ _ h => h) (Or.inl ⟨by rfl, ?_⟩) (by trivial) ?_
          rotate_left
          (focus (intro w9 hSw; skip; go_simp <;> with_reducible rfl))
          try simp only [Act.put, List.setIfInBounds_toArray, List.set_cons_zero, List.set_cons_succ]
          refine wpAnyH_take (i := 16) (oi := { dst := some 13, op := Op.assign (Operand.tmp 75), type := 3, pos := "extra.go:36", after := #[{ on := 14, ground := Ground.data }, { on := 12, ground := Ground.chain }, { on := 0, ground := Ground.phase }, { on := 1, ground := Ground.phase }, { on := 2, ground := Ground.phase }, { on := 3, ground := Ground.phase }, { on := 4, ground := Ground.phase }, { on := 5, ground := Ground.phase }, { on := 6, ground := Ground.phase }, { on := 7, ground := Ground.phase }, { on := 8, ground := Ground.phase }, { on := 9, ground := Ground.phase }, { on := 10, ground := Ground.phase }, { on := 11, ground := Ground.phase }, { on := 12, ground := Ground.phase }, { on := 13, ground := Ground.phase }, { on := 14, ground := Ground.phase }, { on := 15, ground := Ground.textOnly Departure.lateStores }], guard := none }) (v := ?_) rfl (by kernel_rfl) (by kernel_rfl) (by kernel_rfl) (fun _ _ _ h => h) (Or.inl ⟨by rfl, ?_⟩) (by trivial) ?_
          rotate_left
          (focus (intro w9 hSw; skip; go_simp <;> with_reducible rfl))
          try simp only [Act.put, List.setIfInBounds_toArray, List.set_cons_zero, List.set_cons_succ]
          refine wpAnyH_take (i := 17) (oi := { dst := some 14, op := Op.assign (Operand.tmp 76), type := 23, pos := "extra.go:36", after := #[{ on := 15, ground := Ground.data }, { on := 16, ground := Ground.chain }, { on := 0, ground := Ground.phase }, { on := 1, ground := Ground.phase }, { on := 2, ground := Ground.phase }, { on := 3, ground := Ground.phase }, { on := 4, ground := Ground.phase }, { on := 5, ground := Ground.phase }, { on := 6, ground := Ground.phase }, { on := 7, ground := Ground.phase }, { on := 8, ground := Ground.phase }, { on := 9, ground := Ground.phase }, { on := 10, ground := Ground.phase }, { on := 11, ground := Ground.phase }, { on := 12, ground := Ground.phase }, { on := 13, ground := Ground.phase }, { on := 14, ground := Ground.phase }, { on := 15, ground := Ground.phase }, { on := 16, ground := Ground.phase }], guard := none }) (v := ?_) rfl (by kernel_rfl) (by kernel_rfl) (by kernel_rfl) (fun _ _ _ h => h) (Or.inl ⟨by rfl, ?_⟩) (by trivial) ?_
          rotate_left
          (focus (intro w9 hSw; skip; go_simp <;> with_reducible rfl))
          try simp only [Act.put, List.setIfInBounds_toArray, List.set_cons_zero, List.set_cons_succ]
          refine wpAnyH_done (by kernel_rfl) ?_ _
          go_wp2_with fail
          replace b := b.trans (((Below.refl _ _).alloc (Nat.le_refl _) (.cells #[.int .u8 c] 5)).mono b.size)
          replace ht := ht.below ((Below.refl _ _).alloc (Nat.le_refl _) (.cells #[.int .u8 c] 5))
          refine (first_any _ ht).mono ?_
          rintro e wz ⟨rfl, bb⟩
          replace ht := ht.below bb
          replace b := b.trans (bb.mono b.size)
          clear bb
          go_wp2_with fail
          go_ret
          exact ⟨rfl, b⟩
  · go_enter Tryd.func6, Tryd.ntmps6
    go_wp2_with fail
    have b := Below.refl w.heap.size w
    refine (first_any _ ht).mono ?_
    rintro e wz ⟨rfl, bb⟩
    replace ht := ht.below bb
    replace b := b.trans (bb.mono b.size)
    clear bb
    go_wp2_with fail
    refine (text_no t p t1 t2 _).mono ?_
    rintro e w9 ⟨rfl, rfl⟩
    go_wp2_with fail
    refine (first_any _ ht).mono ?_
    rintro e wz ⟨rfl, bb⟩
    replace ht := ht.below bb
    replace b := b.trans (bb.mono b.size)
    clear bb
    go_wp2_with fail
    go_ret
    exact ⟨rfl, b⟩
end Go.Proofs.YtkeeocidinnnnaaDoor
