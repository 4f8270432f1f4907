/- vokref.Dec. -/
import Derived.Test.YtkeeocidinnnnaaDoorDback
import Derived.Deep.RegionHeld3
import Derived.Deep.DrawnRows
namespace Go.Proofs.YtkeeocidinnnnaaDoor
open Go.RowKit
set_option linter.unusedVariables false
/-- The text of a row of one byte. -/
theorem conv_cell {W : World} {p : Nat} {c : Int} (h : W.cell? ⟨p, 0, none⟩ = some (.int .u8 c)) : (convert 30 9 (.slice (some ⟨p, 0, none⟩) 1 1)).run Tryd.prog W = .ok (.string ⟨[UInt8.ofNat c.toNat].toArray⟩) W := by
  rw [run_convert_bytes_arg (P := Tryd.prog) W 30 5 (by kernel_rfl) (by kernel_rfl) p 0 1 1 [c] rfl (fun i hi => by
    obtain rfl : i = 0 := by omega
    exact h) 9 (by kernel_rfl)]
  rfl
theorem dec_one (u : Nat) (h : u < 10) : Lib.decDigits u = [UInt8.ofNat (48 + (u : Int)).toNat] := by
  rw [Lib.decDigits_one h]
  congr 2
theorem dec_more (u : Nat) (h : ¬ u < 10) : Lib.decDigits u = Lib.decDigits (u / 10) ++ [UInt8.ofNat (48 + ((u : Int) % 10)).toNat] := by
  rw [Lib.decDigits, dif_neg h]
  congr 3
set_option maxRecDepth 100000 in
set_option maxHeartbeats 4000000 in
theorem dec_nat (u : Nat) (hu : u ≤ 1000000000000) : ∀ (w : World),
    Calls Tryd.prog 22 #[.int .i64 (u : Int)] w fun e w' => e = .returned (.string ⟨(Lib.decDigits u).toArray⟩) ∧ Below w.heap.size w w' := by
  induction u using Nat.strongRecOn with
  | ind u ihu =>
  intro w
  have hba := ba_app
  by_cases q : u < 10
  · rw [dec_one u q]
    have qt : decide ((u : Int) < 10) = true := decide_eq_true (by omega)
    have c1 : 0 ≤ 48 + (u : Int) := by omega
    have c2 : 48 + (u : Int) ≤ 255 := by omega
    go_enter Tryd.func22, Tryd.ntmps22
    go_wp2_with fail
    rw [conv_byte _ c1 c2]
    go_simp
    go_wp2_with fail
    go_ret
    exact ⟨rfl, (Below.refl _ _).alloc (Nat.le_refl _) _⟩
  · rw [dec_more u q]
    have qt : decide ((u : Int) < 10) = false := decide_eq_false (by omega)
    have ih : ∀ w : World, Calls Tryd.prog 22 #[.int .i64 ((u : Int) / 10)] w fun e w' => e = .returned (.string ⟨(Lib.decDigits (u / 10)).toArray⟩) ∧ Below w.heap.size w w' := fun w => by
      have := ihu (u / 10) (by omega) (by omega) w
      rwa [show ((u / 10 : Nat) : Int) = (u : Int) / 10 by omega] at this
    have ln : (Lib.decDigits (u / 10)).length ≤ 20 := by
      have := itoa_len ((u / 10 : Nat) : Int) (by omega) (by omega)
      rwa [show Lib.itoa ((u / 10 : Nat) : Int) = Lib.decDigits (u / 10) from by unfold Lib.itoa; rw [if_neg (by omega)]; rfl] at this
    have e1 : Int.tdiv (u : Int) 10 = (u : Int) / 10 := Int.tdiv_eq_ediv_of_nonneg (by omega)
    have e2 : Int.tmod (u : Int) 10 = (u : Int) % 10 := Int.tmod_eq_emod_of_nonneg (by omega)
    generalize Lib.decDigits (u / 10) = D at *
    clear ihu
    have hno : ¬ (9223372036854775807 < D.length + 1) := by omega
    have m1 : 0 ≤ (u : Int) % 10 := by omega
    have m2 : (u : Int) % 10 ≤ 9 := by omega
    have hw1 : IntKind.i64.wrap ((u : Int) / 10) = (u : Int) / 10 := by simp [IntKind.wrap, IntKind.bits, IntKind.signed]; omega
    have hw2 : IntKind.i64.wrap (48 + (u : Int) % 10) = 48 + (u : Int) % 10 := by simp [IntKind.wrap, IntKind.bits, IntKind.signed]; omega
    have hmw : IntKind.u8.wrap (48 + (u : Int) % 10) = 48 + (u : Int) % 10 := by simp [IntKind.wrap, IntKind.bits, IntKind.signed]; omega
    go_enter Tryd.func22, Tryd.ntmps22
    go_wp2_with fail
    have b : Below w.heap.size w w.drew := (Below.refl _ _).drew
    obtain ⟨wd, hwd⟩ : ∃ wd, wd = w.drew := ⟨_, rfl⟩
    refine wp_region_held_drew (S := fun _ => True) (by kernel_rfl) trivial (fun _ => ?_)
    rw [← hwd] at b ⊢
    clear hwd
    refine wpAnyH_take (i := 0) (oi := { dst := some 34, op := Op.move (Operand.tmp 0), type := 3, pos := "same.go:166", after := #[], guard := none }) (v := ?_) rfl (by kernel_rfl) (by kernel_rfl) (by kernel_rfl) (fun _ _ _ h => h) (Or.inl ⟨by rfl, ?_⟩) (by trivial) ?_
    rotate_left
    (focus (intro w hSw; go_simp <;> with_reducible rfl))
    try simp only [Act.put, List.setIfInBounds_toArray, List.set_cons_zero, List.set_cons_succ]
    refine wpAnyH_take (i := 1) (oi := { dst := some 35, op := Op.binOp BinOp.quo 3 (Operand.tmp 34) (Operand.const (Value.int IntKind.i64 10)) 3, type := 3, pos := "same.go:166", after := #[{ on := 0, ground := Ground.data }], guard := none }) (v := ?_) rfl (by kernel_rfl) (by kernel_rfl) (by kernel_rfl) (fun _ _ _ h => h) (Or.inl ⟨by rfl, ?_⟩) (by trivial) ?_
    rotate_left
    (focus (intro w hSw; go_simp <;> with_reducible rfl))
    try simp only [Act.put, List.setIfInBounds_toArray, List.set_cons_zero, List.set_cons_succ]
    refine wpAnyH_take (i := 3) (oi := { dst := some 37, op := Op.move (Operand.tmp 0), type := 3, pos := "same.go:166", after := #[], guard := none }) (v := ?_) rfl (by kernel_rfl) (by kernel_rfl) (by kernel_rfl) (fun _ _ _ h => h) (Or.inl ⟨by rfl, ?_⟩) (by trivial) ?_
    rotate_left
    (focus (intro w hSw; go_simp <;> with_reducible rfl))
    try simp only [Act.put, List.setIfInBounds_toArray, List.set_cons_zero, List.set_cons_succ]
    refine wpAnyH_take (i := 4) (oi := { dst := some 38, op := Op.binOp BinOp.rem 3 (Operand.tmp 37) (Operand.const (Value.int IntKind.i64 10)) 3, type := 3, pos := "same.go:166", after := #[{ on := 3, ground := Ground.data }], guard := none }) (v := ?_) rfl (by kernel_rfl) (by kernel_rfl) (by kernel_rfl) (fun _ _ _ h => h) (Or.inl ⟨by rfl, ?_⟩) (by trivial) ?_
    rotate_left
    (focus (intro w hSw; go_simp <;> with_reducible rfl))
    try simp only [Act.put, List.setIfInBounds_toArray, List.set_cons_zero, List.set_cons_succ]
    refine wpAnyH_take (i := 5) (oi := { dst := some 39, op := Op.binOp BinOp.add 3 (Operand.const (Value.int IntKind.i64 48)) (Operand.tmp 38) 3, type := 3, pos := "same.go:166", after := #[{ on := 4, ground := Ground.data }], guard := none }) (v := ?_) rfl (by kernel_rfl) (by kernel_rfl) (by kernel_rfl) (fun _ _ _ h => h) (Or.inl ⟨by rfl, ?_⟩) (by trivial) ?_
    rotate_left
    (focus (intro w hSw; go_simp <;> with_reducible rfl))
    try simp only [Act.put, List.setIfInBounds_toArray, List.set_cons_zero, List.set_cons_succ]
    refine wpAnyH_take (i := 6) (oi := { dst := some 40, op := Op.convert 3 5 (Operand.tmp 39), type := 5, pos := "same.go:166", after := #[{ on := 5, ground := Ground.data }], guard := none }) (v := ?_) rfl (by kernel_rfl) (by kernel_rfl) (by kernel_rfl) (fun _ _ _ h => h) (Or.inl ⟨by rfl, ?_⟩) (by trivial) ?_
    rotate_left
    (focus (intro w hSw; go_simp <;> with_reducible rfl))
    try simp only [Act.put, List.setIfInBounds_toArray, List.set_cons_zero, List.set_cons_succ]
    refine wpAnyH_ready (rs := [2, 7]) (by kernel_rfl) (by simp) ?_
    refine AllReadyH.cons (o := { dst := some 36, op := Op.call { callee := Callee.value (Operand.func 22), args := #[Operand.tmp 35], argTypes := #[3] }, type := 9, pos := "same.go:166", after := #[{ on := 1, ground := Ground.data }], guard := none }) rfl (fun K hK => ?_) (AllReadyH.cons (o := { dst := some 41, op := Op.buildSlice 30 1 #[(0, Operand.tmp 40)], type := 30, pos := "same.go:166", after := #[{ on := 6, ground := Ground.data }], guard := none }) rfl (fun K hK => ?_) (AllReadyH.nil))
    · go_simp
      refine (ih _).mono ?_
      rintro e wz ⟨rfl, bb⟩
      replace b := b.trans (bb.mono b.size)
      go_wp2_with fail
      refine hK.out _ _ trivial (fun _ => ?_)
      clear hK K
      try simp only [Act.put, List.setIfInBounds_toArray, List.set_cons_zero, List.set_cons_succ]
      refine wpAnyH_ready (rs := [7]) (by kernel_rfl) (by simp) ?_
      refine AllReadyH.cons (o := { dst := some 41, op := Op.buildSlice 30 1 #[(0, Operand.tmp 40)], type := 30, pos := "same.go:166", after := #[{ on := 6, ground := Ground.data }], guard := none }) rfl (fun K hK => ?_) (AllReadyH.nil)
      go_simp
      go_wp2_with fail
      have hc : (wz.alloc (.cells #[.int .u8 (48 + (u : Int) % 10)] 5)).cell? ⟨wz.heap.size, 0, none⟩ = some (.int .u8 (48 + (u : Int) % 10)) := World.cell?_alloc_at _ _ _ _ rfl
      replace b := b.alloc b.size (.cells #[.int .u8 (48 + (u : Int) % 10)] 5)
      refine hK.out _ _ trivial (fun _ => ?_)
      clear hK K
      try simp only [Act.put, List.setIfInBounds_toArray, List.set_cons_zero, List.set_cons_succ]
      refine wpAnyH_ready (rs := [8]) (by kernel_rfl) (by simp) ?_
      refine AllReadyH.cons (o := { dst := some 42, op := Op.convert 30 9 (Operand.tmp 41), type := 9, pos := "same.go:166", after := #[{ on := 7, ground := Ground.data }], guard := none }) rfl (fun K hK => ?_) (AllReadyH.nil)
      go_simp
      rw [conv_cell hc]
      go_simp
      go_wp2_with fail
      refine hK.out _ _ trivial (fun _ => ?_)
      clear hK K
      try simp only [Act.put, List.setIfInBounds_toArray, List.set_cons_zero, List.set_cons_succ]
      refine wpAnyH_take (i := 9) (oi := { dst := some 43, op := Op.binOp BinOp.add 9 (Operand.tmp 36) (Operand.tmp 42) 9, type := 9, pos := "same.go:166", after := #[{ on := 2, ground := Ground.data }, { on := 8, ground := Ground.data }], guard := none }) (v := ?_) rfl (by kernel_rfl) (by kernel_rfl) (by kernel_rfl) (fun _ _ _ h => h) (Or.inl ⟨by rfl, ?_⟩) (by trivial) ?_
      rotate_left
      (focus (intro w hSw; go_simp <;> with_reducible rfl))
      try simp only [Act.put, List.setIfInBounds_toArray, List.set_cons_zero, List.set_cons_succ]
      refine wpAnyH_take (i := 10) (oi := { dst := some 2, op := Op.assign (Operand.tmp 43), type := 9, pos := "same.go:166", after := #[{ on := 9, ground := Ground.data }, { on := 2, ground := Ground.chain }, { on := 0, ground := Ground.phase }, { on := 1, ground := Ground.phase }, { on := 2, ground := Ground.phase }, { on := 3, ground := Ground.phase }, { on := 4, ground := Ground.phase }, { on := 5, ground := Ground.phase }, { on := 6, ground := Ground.phase }, { on := 7, ground := Ground.phase }, { on := 8, ground := Ground.phase }, { on := 9, ground := Ground.phase }], guard := none }) (v := ?_) rfl (by kernel_rfl) (by kernel_rfl) (by kernel_rfl) (fun _ _ _ h => h) (Or.inl ⟨by rfl, ?_⟩) (by trivial) ?_
      rotate_left
      (focus (intro w hSw; go_simp <;> with_reducible rfl))
      try simp only [Act.put, List.setIfInBounds_toArray, List.set_cons_zero, List.set_cons_succ]
      refine wpAnyH_done (by kernel_rfl) ?_ _
      go_wp2_with fail
      go_ret
      exact ⟨rfl, b⟩
    · go_simp
      go_wp2_with fail
      have hc : (wd.alloc (.cells #[.int .u8 (48 + (u : Int) % 10)] 5)).cell? ⟨wd.heap.size, 0, none⟩ = some (.int .u8 (48 + (u : Int) % 10)) := World.cell?_alloc_at _ _ _ _ rfl
      replace b := b.alloc b.size (.cells #[.int .u8 (48 + (u : Int) % 10)] 5)
      refine hK.out _ _ trivial (fun _ => ?_)
      clear hK K
      try simp only [Act.put, List.setIfInBounds_toArray, List.set_cons_zero, List.set_cons_succ]
      refine wpAnyH_ready (rs := [2, 8]) (by kernel_rfl) (by simp) ?_
      refine AllReadyH.cons (o := { dst := some 36, op := Op.call { callee := Callee.value (Operand.func 22), args := #[Operand.tmp 35], argTypes := #[3] }, type := 9, pos := "same.go:166", after := #[{ on := 1, ground := Ground.data }], guard := none }) rfl (fun K hK => ?_) (AllReadyH.cons (o := { dst := some 42, op := Op.convert 30 9 (Operand.tmp 41), type := 9, pos := "same.go:166", after := #[{ on := 7, ground := Ground.data }], guard := none }) rfl (fun K hK => ?_) (AllReadyH.nil))
      · go_simp
        refine (ih _).mono ?_
        rintro e wz ⟨rfl, bb⟩
        replace b := b.trans (bb.mono b.size)
        replace hc := (bb.cell (by simp)).trans hc
        go_wp2_with fail
        refine hK.out _ _ trivial (fun _ => ?_)
        clear hK K
        try simp only [Act.put, List.setIfInBounds_toArray, List.set_cons_zero, List.set_cons_succ]
        refine wpAnyH_ready (rs := [8]) (by kernel_rfl) (by simp) ?_
        refine AllReadyH.cons (o := { dst := some 42, op := Op.convert 30 9 (Operand.tmp 41), type := 9, pos := "same.go:166", after := #[{ on := 7, ground := Ground.data }], guard := none }) rfl (fun K hK => ?_) (AllReadyH.nil)
        go_simp
        rw [conv_cell hc]
        go_simp
        go_wp2_with fail
        refine hK.out _ _ trivial (fun _ => ?_)
        clear hK K
        try simp only [Act.put, List.setIfInBounds_toArray, List.set_cons_zero, List.set_cons_succ]
        refine wpAnyH_take (i := 9) (oi := { dst := some 43, op := Op.binOp BinOp.add 9 (Operand.tmp 36) (Operand.tmp 42) 9, type := 9, pos := "same.go:166", after := #[{ on := 2, ground := Ground.data }, { on := 8, ground := Ground.data }], guard := none }) (v := ?_) rfl (by kernel_rfl) (by kernel_rfl) (by kernel_rfl) (fun _ _ _ h => h) (Or.inl ⟨by rfl, ?_⟩) (by trivial) ?_
        rotate_left
        (focus (intro w hSw; go_simp <;> with_reducible rfl))
        try simp only [Act.put, List.setIfInBounds_toArray, List.set_cons_zero, List.set_cons_succ]
        refine wpAnyH_take (i := 10) (oi := { dst := some 2, op := Op.assign (Operand.tmp 43), type := 9, pos := "same.go:166", after := #[{ on := 9, ground := Ground.data }, { on := 2, ground := Ground.chain }, { on := 0, ground := Ground.phase }, { on := 1, ground := Ground.phase }, { on := 2, ground := Ground.phase }, { on := 3, ground := Ground.phase }, { on := 4, ground := Ground.phase }, { on := 5, ground := Ground.phase }, { on := 6, ground := Ground.phase }, { on := 7, ground := Ground.phase }, { on := 8, ground := Ground.phase }, { on := 9, ground := Ground.phase }], guard := none }) (v := ?_) rfl (by kernel_rfl) (by kernel_rfl) (by kernel_rfl) (fun _ _ _ h => h) (Or.inl ⟨by rfl, ?_⟩) (by trivial) ?_
        rotate_left
        (focus (intro w hSw; go_simp <;> with_reducible rfl))
        try simp only [Act.put, List.setIfInBounds_toArray, List.set_cons_zero, List.set_cons_succ]
        refine wpAnyH_done (by kernel_rfl) ?_ _
        go_wp2_with fail
        go_ret
        exact ⟨rfl, b⟩
      · go_simp
        rw [conv_cell hc]
        go_simp
        go_wp2_with fail
        refine hK.out _ _ trivial (fun _ => ?_)
        clear hK K
        try simp only [Act.put, List.setIfInBounds_toArray, List.set_cons_zero, List.set_cons_succ]
        refine wpAnyH_ready (rs := [2]) (by kernel_rfl) (by simp) ?_
        refine AllReadyH.cons (o := { dst := some 36, op := Op.call { callee := Callee.value (Operand.func 22), args := #[Operand.tmp 35], argTypes := #[3] }, type := 9, pos := "same.go:166", after := #[{ on := 1, ground := Ground.data }], guard := none }) rfl (fun K hK => ?_) (AllReadyH.nil)
        go_simp
        refine (ih _).mono ?_
        rintro e wz ⟨rfl, bb⟩
        replace b := b.trans (bb.mono b.size)
        go_wp2_with fail
        refine hK.out _ _ trivial (fun _ => ?_)
        clear hK K
        try simp only [Act.put, List.setIfInBounds_toArray, List.set_cons_zero, List.set_cons_succ]
        refine wpAnyH_take (i := 9) (oi := { dst := some 43, op := Op.binOp BinOp.add 9 (Operand.tmp 36) (Operand.tmp 42) 9, type := 9, pos := "same.go:166", after := #[{ on := 2, ground := Ground.data }, { on := 8, ground := Ground.data }], guard := none }) (v := ?_) rfl (by kernel_rfl) (by kernel_rfl) (by kernel_rfl) (fun _ _ _ h => h) (Or.inl ⟨by rfl, ?_⟩) (by trivial) ?_
        rotate_left
        (focus (intro w hSw; go_simp <;> with_reducible rfl))
        try simp only [Act.put, List.setIfInBounds_toArray, List.set_cons_zero, List.set_cons_succ]
        refine wpAnyH_take (i := 10) (oi := { dst := some 2, op := Op.assign (Operand.tmp 43), type := 9, pos := "same.go:166", after := #[{ on := 9, ground := Ground.data }, { on := 2, ground := Ground.chain }, { on := 0, ground := Ground.phase }, { on := 1, ground := Ground.phase }, { on := 2, ground := Ground.phase }, { on := 3, ground := Ground.phase }, { on := 4, ground := Ground.phase }, { on := 5, ground := Ground.phase }, { on := 6, ground := Ground.phase }, { on := 7, ground := Ground.phase }, { on := 8, ground := Ground.phase }, { on := 9, ground := Ground.phase }], guard := none }) (v := ?_) rfl (by kernel_rfl) (by kernel_rfl) (by kernel_rfl) (fun _ _ _ h => h) (Or.inl ⟨by rfl, ?_⟩) (by trivial) ?_
        rotate_left
        (focus (intro w hSw; go_simp <;> with_reducible rfl))
        try simp only [Act.put, List.setIfInBounds_toArray, List.set_cons_zero, List.set_cons_succ]
        refine wpAnyH_done (by kernel_rfl) ?_ _
        go_wp2_with fail
        go_ret
        exact ⟨rfl, b⟩
theorem dec_any (n : Int) (h0 : 0 ≤ n) (h1 : n ≤ 1000000000000) (w : World) :
    Calls Tryd.prog 22 #[.int .i64 n] w fun e w' => e = .returned (.string ⟨(Lib.itoa n).toArray⟩) ∧ Below w.heap.size w w' := by
  have := dec_nat n.toNat (by omega) w
  rw [show ((n.toNat : Nat) : Int) = n by omega] at this
  rwa [show Lib.itoa n = Lib.decDigits n.toNat from by unfold Lib.itoa; rw [if_neg (by omega)]]
end Go.Proofs.YtkeeocidinnnnaaDoor
