/- DiskSizes: the walk. -/
import Derived.Test.YtelkllhibkefbaaCuts
import Derived.Deep.RegionHeld3
import Derived.Deep.DrawnRows
namespace Go.Proofs.Ytelkllhibkefbaa
open Go.RowKit
set_option linter.unusedVariables false
attribute [local go_sem ↓] Go.wp_at_zero Go.wp_at_succ
set_option maxRecDepth 100000 in
set_option maxHeartbeats 4000000 in
theorem sizes_law (size : Int) (A : Option Addr) (c B : Nat) (L : List Op) (to cut : Int) (w : World) (ha : OpsAt w B A L) (hB : B ≤ w.heap.size) (hl : L.length ≤ maxLen) :
    Calls Try.prog 6 #[.int .i64 size, .slice A L.length c, .int .i64 to, .int .i64 cut] w fun e w' => e = .returned (.bool true) ∧ Below w.heap.size w w' := by
  go_enter Try.func6, Try.ntmps6
  go_wp2_with fail
  refine (first_any _).mono ?_
  rintro e w1 ⟨rfl, b1⟩
  have hP := played_any size A c B L w1 (ha.below (b1.mono hB)) (Nat.le_trans hB b1.size) hl
  go_wp2_with fail
  refine hP.mono ?_
  clear hP
  rintro e w2 (⟨rfl, b2⟩ | ⟨d, A2, c2, rfl, D, b2, hdw, _, hT, z0, z1⟩)
  · replace b2 := b1.trans (b2.mono b1.size)
    clear b1
    go_wp2_with fail
    refine (first_any _).mono ?_
    rintro e w3 ⟨rfl, b3⟩
    replace b3 := b2.trans (b3.mono b2.size)
    clear b2
    go_wp2_with fail
    go_ret
    exact ⟨rfl, b3⟩
  · replace b2 := b1.trans (b2.mono b1.size)
    replace hdw := Nat.le_trans b1.size hdw
    clear b1
    obtain ⟨r0, r1, hs, hn⟩ := run_start z0 z1 hT
    generalize run ⟨size, 0, []⟩ L = S at *
    obtain ⟨r, s, l⟩ := S
    simp only at r0 r1 hs hn
    replace D : DiskAt w2 d r s A2 c2 l := D
    go_wp2_with fail
    refine (bytes_of D (by omega)).mono ?_
    rintro e w3 ⟨A3, c3, rfl, O3, b3⟩
    have D3 := D.quiet (below_quiet2 b3)
    have Of := (O3.file D.lt).2.2
    have hdlt := D.lt
    replace b3 := b2.trans (b3.mono b2.size)
    clear D b2
    have q0 : cut < 0 ∨ (0 ≤ cut ∧ cut ≤ l.length) ∨ (0 ≤ cut ∧ (l.length : Int) < cut) := by omega
    rcases (show (to < 0) ∨ (0 ≤ to ∧ 1073741824 < to) ∨ (0 ≤ to ∧ to ≤ 1073741824 ∧ (l.length : Int) < to) ∨ (0 ≤ to ∧ to ≤ 1073741824 ∧ to ≤ (l.length : Int)) by omega) with p1 | ⟨p0, p1⟩ | ⟨p0, p1, p2⟩ | ⟨p0, p1, p2⟩
    · rcases q0 with q1 | ⟨q1, q2⟩ | ⟨q1, q2⟩
      all_goals
        go_wp2_with fail
        refine (resize_no (d := d) to (by omega)).mono ?_
        rintro e w4 ⟨rfl, rfl⟩
        go_wp2_with fail
        refine (bytes_of D3 (by omega)).mono ?_
        rintro e w4 ⟨A4, c4, rfl, O4, b4⟩
        replace O3 := O3.below b4 (Nat.le_refl _)
        replace b4 := b3.trans (b4.mono b3.size)
        have Q := bytes_any A4 A3 c4 c3 _ _ l l w4 O4.reads O3.reads D3.small D3.small
        rw [decide_eq_true rfl] at Q
        clear O4 O3 D3 b3 Of
        go_wp2_with fail
        refine Q.mono ?_
        rintro e w5 ⟨rfl, rfl⟩
        clear Q
        go_wp2_with fail
        refine (first_any _).mono ?_
        rintro e w6 ⟨rfl, b6⟩
        replace b6 := b4.trans (b6.mono b4.size)
        clear b4
        go_wp2_with fail
        go_ret
        exact ⟨rfl, b6⟩
    · rcases q0 with q1 | ⟨q1, q2⟩ | ⟨q1, q2⟩
      all_goals
        go_wp2_with fail
        refine (resize_no (d := d) to (by omega)).mono ?_
        rintro e w4 ⟨rfl, rfl⟩
        go_wp2_with fail
        refine (bytes_of D3 (by omega)).mono ?_
        rintro e w4 ⟨A4, c4, rfl, O4, b4⟩
        replace O3 := O3.below b4 (Nat.le_refl _)
        replace b4 := b3.trans (b4.mono b3.size)
        have Q := bytes_any A4 A3 c4 c3 _ _ l l w4 O4.reads O3.reads D3.small D3.small
        rw [decide_eq_true rfl] at Q
        clear O4 O3 D3 b3 Of
        go_wp2_with fail
        refine Q.mono ?_
        rintro e w5 ⟨rfl, rfl⟩
        clear Q
        go_wp2_with fail
        refine (first_any _).mono ?_
        rintro e w6 ⟨rfl, b6⟩
        replace b6 := b4.trans (b6.mono b4.size)
        clear b4
        go_wp2_with fail
        go_ret
        exact ⟨rfl, b6⟩
    · go_wp2_with fail
      refine (resize_yes D3 to ⟨p0, p1⟩).mono ?_
      rintro e w4 ⟨rfl, D4, g4⟩
      have O4 := O3.grown g4 (O3.off hdlt)
      have b4 := b3.grown g4 b3.size (fun k hk => by injection hk with hk; omega)
      clear O3 b3 g4 D3
      go_wp2_with fail
      refine (room_any D4).mono ?_
      rintro e w5 ⟨rfl, rfl⟩
      go_wp2_with fail
      refine (bytes_of D4 (by omega)).mono ?_
      rintro e w5 ⟨A5, c5, rfl, O5, b5⟩
      have D5 := D4.quiet (below_quiet2 b5)
      replace O4 := O4.below b5 (Nat.le_refl _)
      replace b5 := b4.trans (b5.mono b4.size)
      have Q := bytes_any A5 A3 c5 c3 _ _ l l w5 O5.reads O4.reads D5.small D5.small
      rw [decide_eq_true rfl] at Q
      clear O5 D4 b4
      go_wp2_with fail
      refine Q.mono ?_
      rintro e w6 ⟨rfl, rfl⟩
      clear Q
      go_wp2_with fail
      refine (first_any _).mono ?_
      rintro e w6 ⟨rfl, b6⟩
      replace b6 := b5.trans (b6.mono b5.size)
      clear b5 O4 D5
      go_wp2_with fail
      go_ret
      exact ⟨rfl, b6⟩
    · go_wp2_with fail
      refine (resize_yes D3 to ⟨p0, p1⟩).mono ?_
      rintro e w4 ⟨rfl, D4, g4⟩
      have O4 := O3.grown g4 (O3.off hdlt)
      have b4 := b3.grown g4 b3.size (fun k hk => by injection hk with hk; omega)
      clear O3 b3 g4 D3
      go_wp2_with fail
      refine (room_any D4).mono ?_
      rintro e w5 ⟨rfl, rfl⟩
      go_wp2_with fail
      refine (bytes_of D4 (by omega)).mono ?_
      rintro e w5 ⟨A5, c5, rfl, O5, b5⟩
      have D5 := D4.quiet (below_quiet2 b5)
      replace O4 := O4.below b5 (Nat.le_refl _)
      replace b5 := b4.trans (b5.mono b4.size)
      have Q := bytes_any A5 A3 c5 c3 _ _ l l w5 O5.reads O4.reads D5.small D5.small
      rw [decide_eq_true rfl] at Q
      clear O5 D4 b4
      go_wp2_with fail
      refine Q.mono ?_
      rintro e w6 ⟨rfl, rfl⟩
      clear Q
      have K := append_no (n := 1) (A2 := some ⟨w5.heap.size, 0, none⟩) (c2 := 1) (D5.quiet (alloc_grown w5 (.cells #[.int .u8 1] 5))) (by simp [maxLen]) (by omega) p0 p1 (by omega)
      have O5 := O4.alloc (.cells #[.int .u8 1] 5)
      have b6 := b5.alloc b5.size (.cells #[.int .u8 1] 5)
      clear b5 O4 D5
      have hw0 : IntKind.i64.wrap (to - (l.length : Int)) = to - (l.length : Int) := by simp [IntKind.wrap, IntKind.bits, IntKind.signed]; omega
      rcases q0 with q1 | ⟨q1, q2⟩ | ⟨q1, q2⟩
      · have z1 : decide (0 ≤ cut) = false := by simp; omega
        go_wp2_with fail
        refine K.mono ?_
        rintro e w6 ⟨rfl, D6, g6⟩
        have O6 := O5.grown g6 (by cases h : (Value.slice A3 l.length c3).ownBlock <;> simp)
        replace b6 := b6.grown g6 b6.size (by simp)
        clear K O5 g6
        go_wp2_with fail
        refine (cut_no D6 cut (by omega) (by omega)).mono ?_
        rintro e w7 ⟨rfl, rfl⟩
        have D7 := D6.quiet (drew_one w6)
        have O7 := O6.grown (drew_one w6) (by cases h : (Value.slice A3 l.length c3).ownBlock <;> simp)
        have b7 := b6.grown (drew_one w6) b6.size (by simp)
        clear D6 O6 b6
        go_wp2_with fail
        refine wp_region_held_drew (S := fun _ => True) (by kernel_rfl) trivial (fun _ => ?_)
        refine wpAnyH_ready (rs := [0]) (by kernel_rfl) (by simp) ?_
        refine AllReadyH.cons (o := { dst := some 86, op := Op.call { callee := Callee.value (Operand.func 8), args := #[], argTypes := #[] }, type := 4, pos := "extra.go:56", after := #[], guard := none }) rfl (fun K hK => ?_) AllReadyH.nil
        go_simp
        refine (first_any _).mono ?_
        rintro e w8 ⟨rfl, b8⟩
        have D8 := D7.quiet (below_quiet2 b8)
        have O8 := O7.below b8 (Nat.le_refl _)
        have e8 := b7.trans (b8.mono b7.size)
        clear D7 O7 b7 b8
        go_wp2_with fail
        refine hK.out _ _ trivial (fun _ => ?_)
        clear hK K
        try simp only [Act.put, List.setIfInBounds_toArray, List.set_cons_zero, List.set_cons_succ]
        refine wpAnyH_take (i := 1) (oi := { dst := some 87, op := Op.move (Operand.tmp 86), type := 4, pos := "extra.go:56", after := #[{ on := 0, ground := Ground.data }, { on := 0, ground := Ground.chain }], guard := none }) (v := ?_) rfl (by kernel_rfl) (by kernel_rfl) (by kernel_rfl) (fun _ _ _ h => h) (Or.inl ⟨by rfl, ?_⟩) (by trivial) ?_
        rotate_left
        (focus (intro w hSw; go_simp <;> with_reducible rfl))
        try simp only [Act.put, List.setIfInBounds_toArray, List.set_cons_zero, List.set_cons_succ]
        refine wpAnyH_take (i := 2) (oi := { dst := some 88, op := Op.move (Operand.tmp 13), type := 4, pos := "extra.go:56", after := #[{ on := 1, ground := Ground.guard }], guard := some (1, true) }) (v := ?_) rfl (by kernel_rfl) (by kernel_rfl) (by kernel_rfl) (fun _ _ _ h => h) (Or.inl ⟨by rfl, ?_⟩) (by trivial) ?_
        rotate_left
        (focus (intro w hSw; go_simp <;> with_reducible rfl))
        try simp only [Act.put, List.setIfInBounds_toArray, List.set_cons_zero, List.set_cons_succ]
        refine wpAnyH_take (i := 3) (oi := { dst := some 89, op := Op.move (Operand.tmp 12), type := 4, pos := "extra.go:56", after := #[{ on := 1, ground := Ground.guard }], guard := some (1, true) }) (v := ?_) rfl (by kernel_rfl) (by kernel_rfl) (by kernel_rfl) (fun _ _ _ h => h) (Or.inl ⟨by rfl, ?_⟩) (by trivial) ?_
        rotate_left
        (focus (intro w hSw; go_simp <;> with_reducible rfl))
        try simp only [Act.put, List.setIfInBounds_toArray, List.set_cons_zero, List.set_cons_succ]
        refine wpAnyH_take (i := 4) (oi := { dst := some 90, op := Op.binOp BinOp.eql 4 (Operand.tmp 88) (Operand.tmp 89) 4, type := 4, pos := "extra.go:56", after := #[{ on := 2, ground := Ground.data }, { on := 3, ground := Ground.data }, { on := 1, ground := Ground.guard }], guard := some (1, true) }) (v := ?_) rfl (by kernel_rfl) (by kernel_rfl) (by kernel_rfl) (fun _ _ _ h => h) (Or.inl ⟨by rfl, ?_⟩) (by trivial) ?_
        rotate_left
        (focus (intro w hSw; go_simp <;> with_reducible rfl))
        try simp only [Act.put, List.setIfInBounds_toArray, List.set_cons_zero, List.set_cons_succ]
        refine wpAnyH_take (i := 5) (oi := { dst := some 91, op := Op.pick (Operand.tmp 87) (Operand.tmp 90) (Operand.const (Value.bool false)), type := 4, pos := "extra.go:56", after := #[{ on := 1, ground := Ground.data }, { on := 4, ground := Ground.data }], guard := none }) (v := ?_) rfl (by kernel_rfl) (by kernel_rfl) (by kernel_rfl) (fun _ _ _ h => h) (Or.inl ⟨by rfl, ?_⟩) (by trivial) ?_
        rotate_left
        (focus (intro w hSw; go_simp <;> with_reducible rfl))
        try simp only [Act.put, List.setIfInBounds_toArray, List.set_cons_zero, List.set_cons_succ]
        refine wpAnyH_take (i := 6) (oi := { dst := some 92, op := Op.move (Operand.tmp 91), type := 4, pos := "extra.go:56", after := #[{ on := 5, ground := Ground.data }, { on := 1, ground := Ground.chain }], guard := none }) (v := ?_) rfl (by kernel_rfl) (by kernel_rfl) (by kernel_rfl) (fun _ _ _ h => h) (Or.inl ⟨by rfl, ?_⟩) (by trivial) ?_
        rotate_left
        (focus (intro w hSw; go_simp <;> with_reducible rfl))
        try simp only [Act.put, List.setIfInBounds_toArray, List.set_cons_zero, List.set_cons_succ]
        refine wpAnyH_take (i := 7) (oi := { dst := some 93, op := Op.move (Operand.tmp 12), type := 4, pos := "extra.go:56", after := #[{ on := 6, ground := Ground.guard }], guard := some (6, true) }) (v := ?_) rfl (by kernel_rfl) (by kernel_rfl) (by kernel_rfl) (fun _ _ _ h => h) (Or.inl ⟨by rfl, ?_⟩) (by trivial) ?_
        rotate_left
        (focus (intro w hSw; go_simp <;> with_reducible rfl))
        try simp only [Act.put, List.setIfInBounds_toArray, List.set_cons_zero, List.set_cons_succ]
        refine wpAnyH_take (i := 8) (oi := { dst := some 94, op := Op.unOp UnOp.not 4 (Operand.tmp 93), type := 4, pos := "extra.go:56", after := #[{ on := 7, ground := Ground.data }, { on := 6, ground := Ground.guard }], guard := some (6, true) }) (v := ?_) rfl (by kernel_rfl) (by kernel_rfl) (by kernel_rfl) (fun _ _ _ h => h) (Or.inl ⟨by rfl, ?_⟩) (by trivial) ?_
        rotate_left
        (focus (intro w hSw; go_simp <;> with_reducible rfl))
        try simp only [Act.put, List.setIfInBounds_toArray, List.set_cons_zero, List.set_cons_succ]
        refine wpAnyH_take (i := 9) (oi := { dst := some 95, op := Op.move (Operand.tmp 94), type := 4, pos := "extra.go:56", after := #[{ on := 8, ground := Ground.data }, { on := 6, ground := Ground.chain }, { on := 6, ground := Ground.guard }], guard := some (6, true) }) (v := ?_) rfl (by kernel_rfl) (by kernel_rfl) (by kernel_rfl) (fun _ _ _ h => h) (Or.inl ⟨by rfl, ?_⟩) (by trivial) ?_
        rotate_left
        (focus (intro w hSw; go_simp <;> with_reducible rfl))
        try simp only [Act.put, List.setIfInBounds_toArray, List.set_cons_zero, List.set_cons_succ]
        refine wpAnyH_take (i := 10) (oi := { dst := some 96, op := Op.move (Operand.tmp 9), type := 24, pos := "extra.go:56", after := #[{ on := 9, ground := Ground.guard }], guard := some (9, false) }) (v := undef) rfl (by kernel_rfl) (by kernel_rfl) (by kernel_rfl) (fun _ _ _ h => h) (Or.inr ⟨by rfl, rfl⟩) (by trivial) ?_
        try simp only [Act.put, List.setIfInBounds_toArray, List.set_cons_zero, List.set_cons_succ]
        refine wpAnyH_take (i := 11) (oi := { dst := some 97, op := Op.call { callee := Callee.value (Operand.func 10), args := #[Operand.tmp 96], argTypes := #[24] }, type := 26, pos := "extra.go:56", after := #[{ on := 10, ground := Ground.data }, { on := 9, ground := Ground.chain }, { on := 9, ground := Ground.guard }], guard := some (9, false) }) (v := undef) rfl (by kernel_rfl) (by kernel_rfl) (by kernel_rfl) (fun _ _ _ h => h) (Or.inr ⟨by rfl, rfl⟩) (by trivial) ?_
        try simp only [Act.put, List.setIfInBounds_toArray, List.set_cons_zero, List.set_cons_succ]
        refine wpAnyH_take (i := 12) (oi := { dst := some 98, op := Op.move (Operand.tmp 10), type := 26, pos := "extra.go:56", after := #[{ on := 9, ground := Ground.guard }], guard := some (9, false) }) (v := undef) rfl (by kernel_rfl) (by kernel_rfl) (by kernel_rfl) (fun _ _ _ h => h) (Or.inr ⟨by rfl, rfl⟩) (by trivial) ?_
        try simp only [Act.put, List.setIfInBounds_toArray, List.set_cons_zero, List.set_cons_succ]
        refine wpAnyH_take (i := 13) (oi := { dst := some 99, op := Op.move (Operand.tmp 3), type := 3, pos := "extra.go:56", after := #[{ on := 9, ground := Ground.guard }], guard := some (9, false) }) (v := undef) rfl (by kernel_rfl) (by kernel_rfl) (by kernel_rfl) (fun _ _ _ h => h) (Or.inr ⟨by rfl, rfl⟩) (by trivial) ?_
        try simp only [Act.put, List.setIfInBounds_toArray, List.set_cons_zero, List.set_cons_succ]
        refine wpAnyH_take (i := 14) (oi := { dst := some 100, op := Op.slice 26 (Operand.tmp 98) none (some (Operand.tmp 99)) none, type := 26, pos := "extra.go:56", after := #[{ on := 12, ground := Ground.data }, { on := 13, ground := Ground.data }, { on := 9, ground := Ground.guard }], guard := some (9, false) }) (v := undef) rfl (by kernel_rfl) (by kernel_rfl) (by kernel_rfl) (fun _ _ _ h => h) (Or.inr ⟨by rfl, rfl⟩) (by trivial) ?_
        try simp only [Act.put, List.setIfInBounds_toArray, List.set_cons_zero, List.set_cons_succ]
        refine wpAnyH_take (i := 15) (oi := { dst := some 101, op := Op.call { callee := Callee.value (Operand.func 13), args := #[Operand.tmp 97, Operand.tmp 100], argTypes := #[26, 26] }, type := 4, pos := "extra.go:56", after := #[{ on := 11, ground := Ground.data }, { on := 14, ground := Ground.data }, { on := 11, ground := Ground.chain }, { on := 9, ground := Ground.guard }], guard := some (9, false) }) (v := undef) rfl (by kernel_rfl) (by kernel_rfl) (by kernel_rfl) (fun _ _ _ h => h) (Or.inr ⟨by rfl, rfl⟩) (by trivial) ?_
        try simp only [Act.put, List.setIfInBounds_toArray, List.set_cons_zero, List.set_cons_succ]
        refine wpAnyH_take (i := 16) (oi := { dst := some 102, op := Op.pick (Operand.tmp 95) (Operand.const (Value.bool true)) (Operand.tmp 101), type := 4, pos := "extra.go:56", after := #[{ on := 9, ground := Ground.data }, { on := 15, ground := Ground.data }, { on := 6, ground := Ground.guard }], guard := some (6, true) }) (v := ?_) rfl (by kernel_rfl) (by kernel_rfl) (by kernel_rfl) (fun _ _ _ h => h) (Or.inl ⟨by rfl, ?_⟩) (by trivial) ?_
        rotate_left
        (focus (intro w hSw; go_simp <;> with_reducible rfl))
        try simp only [Act.put, List.setIfInBounds_toArray, List.set_cons_zero, List.set_cons_succ]
        refine wpAnyH_take (i := 17) (oi := { dst := some 103, op := Op.pick (Operand.tmp 92) (Operand.tmp 102) (Operand.const (Value.bool false)), type := 4, pos := "extra.go:56", after := #[{ on := 6, ground := Ground.data }, { on := 16, ground := Ground.data }], guard := none }) (v := ?_) rfl (by kernel_rfl) (by kernel_rfl) (by kernel_rfl) (fun _ _ _ h => h) (Or.inl ⟨by rfl, ?_⟩) (by trivial) ?_
        rotate_left
        (focus (intro w hSw; go_simp <;> with_reducible rfl))
        try simp only [Act.put, List.setIfInBounds_toArray, List.set_cons_zero, List.set_cons_succ]
        refine wpAnyH_take (i := 18) (oi := { dst := some 104, op := Op.move (Operand.tmp 103), type := 4, pos := "extra.go:56", after := #[{ on := 17, ground := Ground.data }, { on := 15, ground := Ground.chain }], guard := none }) (v := ?_) rfl (by kernel_rfl) (by kernel_rfl) (by kernel_rfl) (fun _ _ _ h => h) (Or.inl ⟨by rfl, ?_⟩) (by trivial) ?_
        rotate_left
        (focus (intro w hSw; go_simp <;> with_reducible rfl))
        try simp only [Act.put, List.setIfInBounds_toArray, List.set_cons_zero, List.set_cons_succ]
        refine wpAnyH_take (i := 19) (oi := { dst := some 105, op := Op.move (Operand.tmp 12), type := 4, pos := "extra.go:56", after := #[{ on := 18, ground := Ground.guard }], guard := some (18, true) }) (v := ?_) rfl (by kernel_rfl) (by kernel_rfl) (by kernel_rfl) (fun _ _ _ h => h) (Or.inl ⟨by rfl, ?_⟩) (by trivial) ?_
        rotate_left
        (focus (intro w hSw; go_simp <;> with_reducible rfl))
        try simp only [Act.put, List.setIfInBounds_toArray, List.set_cons_zero, List.set_cons_succ]
        refine wpAnyH_take (i := 20) (oi := { dst := some 106, op := Op.move (Operand.tmp 105), type := 4, pos := "extra.go:56", after := #[{ on := 19, ground := Ground.data }, { on := 18, ground := Ground.chain }, { on := 18, ground := Ground.guard }], guard := some (18, true) }) (v := ?_) rfl (by kernel_rfl) (by kernel_rfl) (by kernel_rfl) (fun _ _ _ h => h) (Or.inl ⟨by rfl, ?_⟩) (by trivial) ?_
        rotate_left
        (focus (intro w hSw; go_simp <;> with_reducible rfl))
        try simp only [Act.put, List.setIfInBounds_toArray, List.set_cons_zero, List.set_cons_succ]
        refine wpAnyH_take (i := 21) (oi := { dst := some 107, op := Op.move (Operand.tmp 9), type := 24, pos := "extra.go:56", after := #[{ on := 20, ground := Ground.guard }], guard := some (20, false) }) (v := ?_) rfl (by kernel_rfl) (by kernel_rfl) (by kernel_rfl) (fun _ _ _ h => h) (Or.inl ⟨by rfl, ?_⟩) (by trivial) ?_
        rotate_left
        (focus (intro w hSw; go_simp <;> with_reducible rfl))
        try simp only [Act.put, List.setIfInBounds_toArray, List.set_cons_zero, List.set_cons_succ]
        refine wpAnyH_take (i := 23) (oi := { dst := some 109, op := Op.move (Operand.tmp 10), type := 26, pos := "extra.go:56", after := #[{ on := 20, ground := Ground.guard }], guard := some (20, false) }) (v := ?_) rfl (by kernel_rfl) (by kernel_rfl) (by kernel_rfl) (fun _ _ _ h => h) (Or.inl ⟨by rfl, ?_⟩) (by trivial) ?_
        rotate_left
        (focus (intro w hSw; go_simp <;> with_reducible rfl))
        try simp only [Act.put, List.setIfInBounds_toArray, List.set_cons_zero, List.set_cons_succ]
        refine wpAnyH_ready (rs := [22]) (by kernel_rfl) (by simp) ?_
        refine AllReadyH.cons (o := { dst := some 108, op := Op.call { callee := Callee.value (Operand.func 10), args := #[Operand.tmp 107], argTypes := #[24] }, type := 26, pos := "extra.go:56", after := #[{ on := 21, ground := Ground.data }, { on := 20, ground := Ground.chain }, { on := 20, ground := Ground.guard }], guard := some (20, false) }) rfl (fun K hK => ?_) AllReadyH.nil
        go_simp
        refine (bytes_of D8 (by omega)).mono ?_
        rintro e w9 ⟨A9, c9, rfl, O9, b9⟩
        have D9 := D8.quiet (below_quiet2 b9)
        have O10 := O8.below b9 (Nat.le_refl _)
        have e10 := e8.trans (b9.mono e8.size)
        clear D8 O8 e8 b9
        go_wp2_with fail
        refine hK.out _ _ trivial (fun _ => ?_)
        clear hK K
        try simp only [Act.put, List.setIfInBounds_toArray, List.set_cons_zero, List.set_cons_succ]
        refine wpAnyH_ready (rs := [24]) (by kernel_rfl) (by simp) ?_
        refine AllReadyH.cons (o := { dst := some 110, op := Op.call { callee := Callee.value (Operand.func 13), args := #[Operand.tmp 108, Operand.tmp 109], argTypes := #[26, 26] }, type := 4, pos := "extra.go:56", after := #[{ on := 22, ground := Ground.data }, { on := 23, ground := Ground.data }, { on := 22, ground := Ground.chain }, { on := 20, ground := Ground.guard }], guard := some (20, false) }) rfl (fun K hK => ?_) AllReadyH.nil
        go_simp
        have Q := bytes_any A9 A3 c9 c3 _ _ l l _ O9.reads O10.reads D9.small D9.small
        rw [decide_eq_true rfl] at Q
        refine Q.mono ?_
        rintro e w11 ⟨rfl, rfl⟩
        clear Q
        go_wp2_with fail
        refine hK.out _ _ trivial (fun _ => ?_)
        clear hK K
        try simp only [Act.put, List.setIfInBounds_toArray, List.set_cons_zero, List.set_cons_succ]
        refine wpAnyH_take (i := 25) (oi := { dst := some 111, op := Op.pick (Operand.tmp 106) (Operand.const (Value.bool true)) (Operand.tmp 110), type := 4, pos := "extra.go:56", after := #[{ on := 20, ground := Ground.data }, { on := 24, ground := Ground.data }, { on := 18, ground := Ground.guard }], guard := some (18, true) }) (v := ?_) rfl (by kernel_rfl) (by kernel_rfl) (by kernel_rfl) (fun _ _ _ h => h) (Or.inl ⟨by rfl, ?_⟩) (by trivial) ?_
        rotate_left
        (focus (intro w hSw; go_simp <;> with_reducible rfl))
        try simp only [Act.put, List.setIfInBounds_toArray, List.set_cons_zero, List.set_cons_succ]
        refine wpAnyH_take (i := 26) (oi := { dst := some 112, op := Op.pick (Operand.tmp 104) (Operand.tmp 111) (Operand.const (Value.bool false)), type := 4, pos := "extra.go:56", after := #[{ on := 18, ground := Ground.data }, { on := 25, ground := Ground.data }], guard := none }) (v := ?_) rfl (by kernel_rfl) (by kernel_rfl) (by kernel_rfl) (fun _ _ _ h => h) (Or.inl ⟨by rfl, ?_⟩) (by trivial) ?_
        rotate_left
        (focus (intro w hSw; go_simp <;> with_reducible rfl))
        try simp only [Act.put, List.setIfInBounds_toArray, List.set_cons_zero, List.set_cons_succ]
        refine wpAnyH_take (i := 27) (oi := { dst := some 113, op := Op.move (Operand.tmp 112), type := 4, pos := "extra.go:56", after := #[{ on := 26, ground := Ground.data }, { on := 24, ground := Ground.chain }], guard := none }) (v := ?_) rfl (by kernel_rfl) (by kernel_rfl) (by kernel_rfl) (fun _ _ _ h => h) (Or.inl ⟨by rfl, ?_⟩) (by trivial) ?_
        rotate_left
        (focus (intro w hSw; go_simp <;> with_reducible rfl))
        try simp only [Act.put, List.setIfInBounds_toArray, List.set_cons_zero, List.set_cons_succ]
        refine wpAnyH_take (i := 28) (oi := { dst := some 114, op := Op.move (Operand.tmp 9), type := 24, pos := "extra.go:56", after := #[{ on := 27, ground := Ground.guard }], guard := some (27, true) }) (v := ?_) rfl (by kernel_rfl) (by kernel_rfl) (by kernel_rfl) (fun _ _ _ h => h) (Or.inl ⟨by rfl, ?_⟩) (by trivial) ?_
        rotate_left
        (focus (intro w hSw; go_simp <;> with_reducible rfl))
        try simp only [Act.put, List.setIfInBounds_toArray, List.set_cons_zero, List.set_cons_succ]
        refine wpAnyH_take (i := 30) (oi := { dst := some 116, op := Op.move (Operand.tmp 9), type := 24, pos := "extra.go:56", after := #[{ on := 27, ground := Ground.guard }], guard := some (27, true) }) (v := ?_) rfl (by kernel_rfl) (by kernel_rfl) (by kernel_rfl) (fun _ _ _ h => h) (Or.inl ⟨by rfl, ?_⟩) (by trivial) ?_
        rotate_left
        (focus (intro w hSw; go_simp <;> with_reducible rfl))
        try simp only [Act.put, List.setIfInBounds_toArray, List.set_cons_zero, List.set_cons_succ]
        refine wpAnyH_ready (rs := [29]) (by kernel_rfl) (by simp) ?_
        refine AllReadyH.cons (o := { dst := some 115, op := Op.call { callee := Callee.value (Operand.func 11), args := #[Operand.tmp 114], argTypes := #[24] }, type := 3, pos := "extra.go:56", after := #[{ on := 28, ground := Ground.data }, { on := 27, ground := Ground.chain }, { on := 27, ground := Ground.guard }], guard := some (27, true) }) rfl (fun K hK => ?_) AllReadyH.nil
        go_simp
        refine (synced_any D9).mono ?_
        rintro e w11 ⟨rfl, rfl⟩
        go_wp2_with fail
        refine hK.out _ _ trivial (fun _ => ?_)
        clear hK K
        try simp only [Act.put, List.setIfInBounds_toArray, List.set_cons_zero, List.set_cons_succ]
        refine wpAnyH_ready (rs := [31]) (by kernel_rfl) (by simp) ?_
        refine AllReadyH.cons (o := { dst := some 117, op := Op.call { callee := Callee.value (Operand.func 10), args := #[Operand.tmp 116], argTypes := #[24] }, type := 26, pos := "extra.go:56", after := #[{ on := 30, ground := Ground.data }, { on := 29, ground := Ground.chain }, { on := 27, ground := Ground.guard }], guard := some (27, true) }) rfl (fun K hK => ?_) AllReadyH.nil
        go_simp
        refine (bytes_of D9 (by omega)).mono ?_
        rintro e w12 ⟨A12, c12, rfl, O12, b12⟩
        have e13 := e10.trans (b12.mono e10.size)
        clear e10 b12 D9
        go_wp2_with fail
        refine hK.out _ _ trivial (fun _ => ?_)
        clear hK K
        try simp only [Act.put, List.setIfInBounds_toArray, List.set_cons_zero, List.set_cons_succ]
        refine wpAnyH_take (i := 32) (oi := { dst := some 118, op := Op.call { callee := Callee.builtin Builtin.len, args := #[Operand.tmp 117], argTypes := #[26] }, type := 3, pos := "extra.go:56", after := #[{ on := 31, ground := Ground.data }, { on := 27, ground := Ground.guard }], guard := some (27, true) }) (v := ?_) rfl (by kernel_rfl) (by kernel_rfl) (by kernel_rfl) (fun _ _ _ h => h) (Or.inl ⟨by rfl, ?_⟩) (by trivial) ?_
        rotate_left
        (focus (intro w hSw; go_simp <;> with_reducible rfl))
        try simp only [Act.put, List.setIfInBounds_toArray, List.set_cons_zero, List.set_cons_succ]
        refine wpAnyH_take (i := 33) (oi := { dst := some 119, op := Op.binOp BinOp.leq 3 (Operand.tmp 115) (Operand.tmp 118) 3, type := 4, pos := "extra.go:56", after := #[{ on := 29, ground := Ground.data }, { on := 32, ground := Ground.data }, { on := 27, ground := Ground.guard }], guard := some (27, true) }) (v := ?_) rfl (by kernel_rfl) (by kernel_rfl) (by kernel_rfl) (fun _ _ _ h => h) (Or.inl ⟨by rfl, ?_⟩) (by trivial) ?_
        rotate_left
        (focus (intro w hSw; go_simp <;> with_reducible rfl))
        try simp only [Act.put, List.setIfInBounds_toArray, List.set_cons_zero, List.set_cons_succ]
        refine wpAnyH_take (i := 34) (oi := { dst := some 120, op := Op.pick (Operand.tmp 113) (Operand.tmp 119) (Operand.const (Value.bool false)), type := 4, pos := "extra.go:56", after := #[{ on := 27, ground := Ground.data }, { on := 33, ground := Ground.data }], guard := none }) (v := ?_) rfl (by kernel_rfl) (by kernel_rfl) (by kernel_rfl) (fun _ _ _ h => h) (Or.inl ⟨by rfl, ?_⟩) (by trivial) ?_
        rotate_left
        (focus (intro w hSw; go_simp <;> with_reducible rfl))
        try simp only [Act.put, List.setIfInBounds_toArray, List.set_cons_zero, List.set_cons_succ]
        refine wpAnyH_take (i := 35) (oi := { dst := some 8, op := Op.assign (Operand.tmp 120), type := 4, pos := "extra.go:56", after := #[{ on := 34, ground := Ground.data }, { on := 31, ground := Ground.chain }, { on := 0, ground := Ground.phase }, { on := 1, ground := Ground.phase }, { on := 2, ground := Ground.phase }, { on := 3, ground := Ground.phase }, { on := 4, ground := Ground.phase }, { on := 5, ground := Ground.phase }, { on := 6, ground := Ground.phase }, { on := 7, ground := Ground.phase }, { on := 8, ground := Ground.phase }, { on := 9, ground := Ground.phase }, { on := 10, ground := Ground.phase }, { on := 11, ground := Ground.phase }, { on := 12, ground := Ground.phase }, { on := 13, ground := Ground.phase }, { on := 14, ground := Ground.phase }, { on := 15, ground := Ground.phase }, { on := 16, ground := Ground.phase }, { on := 17, ground := Ground.phase }, { on := 18, ground := Ground.phase }, { on := 19, ground := Ground.phase }, { on := 20, ground := Ground.phase }, { on := 21, ground := Ground.phase }, { on := 22, ground := Ground.phase }, { on := 23, ground := Ground.phase }, { on := 24, ground := Ground.phase }, { on := 25, ground := Ground.phase }, { on := 26, ground := Ground.phase }, { on := 27, ground := Ground.phase }, { on := 28, ground := Ground.phase }, { on := 29, ground := Ground.phase }, { on := 30, ground := Ground.phase }, { on := 31, ground := Ground.phase }, { on := 32, ground := Ground.phase }, { on := 33, ground := Ground.phase }, { on := 34, ground := Ground.phase }], guard := none }) (v := ?_) rfl (by kernel_rfl) (by kernel_rfl) (by kernel_rfl) (fun _ _ _ h => h) (Or.inl ⟨by rfl, ?_⟩) (by trivial) ?_
        rotate_left
        (focus (intro w hSw; go_simp <;> with_reducible rfl))
        try simp only [Act.put, List.setIfInBounds_toArray, List.set_cons_zero, List.set_cons_succ]
        refine wpAnyH_done (by kernel_rfl) ?_ _
        go_wp2_with fail
        go_ret
        exact ⟨ret_bool (by first | rfl | (simp; done) | (simp; omega)), e13⟩
      · have z1 : decide (0 ≤ cut) = true := by simp; omega
        have z2 : decide (cut ≤ (l.length : Int)) = true := by simp; omega
        go_wp2_with fail
        refine K.mono ?_
        rintro e w6 ⟨rfl, D6, g6⟩
        have O6 := O5.grown g6 (by cases h : (Value.slice A3 l.length c3).ownBlock <;> simp)
        replace b6 := b6.grown g6 b6.size (by simp)
        clear K O5 g6
        obtain ⟨m, rfl⟩ := Int.eq_ofNat_of_zero_le q1
        have hml : m ≤ l.length := by omega
        have HL := Lib.hid (show (l.take m).length = m by rw [List.length_take]; omega)
        go_wp2_with fail
        refine (cut_yes D6 m hml (by omega) (by omega) (by omega)).mono ?_
        rintro e w7 ⟨A7, c7, rfl, D7, g7⟩
        have O7 := O6.grown g7 (O6.off hdlt)
        have b7 := b6.grown g7 b6.size (fun k hk => by injection hk with hk; omega)
        clear D6 O6 b6 g7
        have D8 := D7.quiet (drew_one w7)
        have O8 := O7.grown (drew_one w7) (by cases h : (Value.slice A3 l.length c3).ownBlock <;> simp)
        have b8 := b7.grown (drew_one w7) b7.size (by simp)
        clear D7 O7 b7
        have hmin : (min s m : Int) ≤ m := Int.min_le_right _ _
        generalize (min s m : Int) = t at *
        have hlm := Of.max
        have hlc := Of.le
        have hln := Of.nil
        have hmc : m ≤ c3 := by omega
        unfold maxLen at hlm
        clear Of
        have BB : ∀ (w : World), DiskAt w d to t A7 c7 (l.take m) → Calls Try.prog 10 #[.pointer (some ⟨d, 0, none⟩)] w fun e w' => ∃ A' c', e = .returned (.slice A' m c') ∧ BytesAt w' w'.heap.size A' (l.take m) ∧ Below w.heap.size w w' := by
          intro w D
          have := bytes_of D (by rw [HL.out]; omega)
          rw [HL.out] at this
          refine this.mono ?_
          rintro e w' ⟨A', c', h1, h2, h3⟩
          exact ⟨A', c', h1, Own.reads (by rw [HL.out]; exact h2), h3⟩
        have EE : ∀ (w : World) (A9 : Option Addr) (c9 : Nat), BytesAt w w.heap.size A9 (l.take m) → Own w w2.heap.size (.slice A3 l.length c3) l → Small (l.take m) → Calls Try.prog 13 #[.slice A9 m c9, .slice A3 m c3] w fun e w' => e = .returned (.bool true) ∧ w = w' := by
          intro w A9 c9 h1 h2 h3
          have Q := bytes_any A9 A3 c9 c3 _ _ (l.take m) (l.take m) w h1 (h2.reads.take_ m) h3 h3
          rw [decide_eq_true rfl, HL.out] at Q
          exact Q
        cases A3
        case' none =>
          have := hln rfl
          subst this
          obtain rfl : l = [] := List.eq_nil_of_length_eq_zero (by omega)
          obtain rfl : m = 0 := by simpa using hml
        all_goals
          clear hln
          go_wp2_with fail
          refine wp_region_held_drew (S := fun _ => True) (by kernel_rfl) trivial (fun _ => ?_)
          refine wpAnyH_ready (rs := [0]) (by kernel_rfl) (by simp) ?_
          refine AllReadyH.cons (o := { dst := some 86, op := Op.call { callee := Callee.value (Operand.func 8), args := #[], argTypes := #[] }, type := 4, pos := "extra.go:56", after := #[], guard := none }) rfl (fun K hK => ?_) AllReadyH.nil
          go_simp
          refine (first_any _).mono ?_
          rintro e w9 ⟨rfl, b9⟩
          have D9 := D8.quiet (below_quiet2 b9)
          have O9 := O8.below b9 (Nat.le_refl _)
          have e9 := b8.trans (b9.mono b8.size)
          clear D8 O8 b8 b9
          go_wp2_with fail
          refine hK.out _ _ trivial (fun _ => ?_)
          clear hK K
          try simp only [Act.put, List.setIfInBounds_toArray, List.set_cons_zero, List.set_cons_succ]
          refine wpAnyH_take (i := 1) (oi := { dst := some 87, op := Op.move (Operand.tmp 86), type := 4, pos := "extra.go:56", after := #[{ on := 0, ground := Ground.data }, { on := 0, ground := Ground.chain }], guard := none }) (v := ?_) rfl (by kernel_rfl) (by kernel_rfl) (by kernel_rfl) (fun _ _ _ h => h) (Or.inl ⟨by rfl, ?_⟩) (by trivial) ?_
          rotate_left
          (focus (intro w hSw; go_simp <;> with_reducible rfl))
          try simp only [Act.put, List.setIfInBounds_toArray, List.set_cons_zero, List.set_cons_succ]
          refine wpAnyH_take (i := 2) (oi := { dst := some 88, op := Op.move (Operand.tmp 13), type := 4, pos := "extra.go:56", after := #[{ on := 1, ground := Ground.guard }], guard := some (1, true) }) (v := ?_) rfl (by kernel_rfl) (by kernel_rfl) (by kernel_rfl) (fun _ _ _ h => h) (Or.inl ⟨by rfl, ?_⟩) (by trivial) ?_
          rotate_left
          (focus (intro w hSw; go_simp <;> with_reducible rfl))
          try simp only [Act.put, List.setIfInBounds_toArray, List.set_cons_zero, List.set_cons_succ]
          refine wpAnyH_take (i := 3) (oi := { dst := some 89, op := Op.move (Operand.tmp 12), type := 4, pos := "extra.go:56", after := #[{ on := 1, ground := Ground.guard }], guard := some (1, true) }) (v := ?_) rfl (by kernel_rfl) (by kernel_rfl) (by kernel_rfl) (fun _ _ _ h => h) (Or.inl ⟨by rfl, ?_⟩) (by trivial) ?_
          rotate_left
          (focus (intro w hSw; go_simp <;> with_reducible rfl))
          try simp only [Act.put, List.setIfInBounds_toArray, List.set_cons_zero, List.set_cons_succ]
          refine wpAnyH_take (i := 4) (oi := { dst := some 90, op := Op.binOp BinOp.eql 4 (Operand.tmp 88) (Operand.tmp 89) 4, type := 4, pos := "extra.go:56", after := #[{ on := 2, ground := Ground.data }, { on := 3, ground := Ground.data }, { on := 1, ground := Ground.guard }], guard := some (1, true) }) (v := ?_) rfl (by kernel_rfl) (by kernel_rfl) (by kernel_rfl) (fun _ _ _ h => h) (Or.inl ⟨by rfl, ?_⟩) (by trivial) ?_
          rotate_left
          (focus (intro w hSw; go_simp <;> with_reducible rfl))
          try simp only [Act.put, List.setIfInBounds_toArray, List.set_cons_zero, List.set_cons_succ]
          refine wpAnyH_take (i := 5) (oi := { dst := some 91, op := Op.pick (Operand.tmp 87) (Operand.tmp 90) (Operand.const (Value.bool false)), type := 4, pos := "extra.go:56", after := #[{ on := 1, ground := Ground.data }, { on := 4, ground := Ground.data }], guard := none }) (v := ?_) rfl (by kernel_rfl) (by kernel_rfl) (by kernel_rfl) (fun _ _ _ h => h) (Or.inl ⟨by rfl, ?_⟩) (by trivial) ?_
          rotate_left
          (focus (intro w hSw; go_simp <;> with_reducible rfl))
          try simp only [Act.put, List.setIfInBounds_toArray, List.set_cons_zero, List.set_cons_succ]
          refine wpAnyH_take (i := 6) (oi := { dst := some 92, op := Op.move (Operand.tmp 91), type := 4, pos := "extra.go:56", after := #[{ on := 5, ground := Ground.data }, { on := 1, ground := Ground.chain }], guard := none }) (v := ?_) rfl (by kernel_rfl) (by kernel_rfl) (by kernel_rfl) (fun _ _ _ h => h) (Or.inl ⟨by rfl, ?_⟩) (by trivial) ?_
          rotate_left
          (focus (intro w hSw; go_simp <;> with_reducible rfl))
          try simp only [Act.put, List.setIfInBounds_toArray, List.set_cons_zero, List.set_cons_succ]
          refine wpAnyH_take (i := 7) (oi := { dst := some 93, op := Op.move (Operand.tmp 12), type := 4, pos := "extra.go:56", after := #[{ on := 6, ground := Ground.guard }], guard := some (6, true) }) (v := ?_) rfl (by kernel_rfl) (by kernel_rfl) (by kernel_rfl) (fun _ _ _ h => h) (Or.inl ⟨by rfl, ?_⟩) (by trivial) ?_
          rotate_left
          (focus (intro w hSw; go_simp <;> with_reducible rfl))
          try simp only [Act.put, List.setIfInBounds_toArray, List.set_cons_zero, List.set_cons_succ]
          refine wpAnyH_take (i := 8) (oi := { dst := some 94, op := Op.unOp UnOp.not 4 (Operand.tmp 93), type := 4, pos := "extra.go:56", after := #[{ on := 7, ground := Ground.data }, { on := 6, ground := Ground.guard }], guard := some (6, true) }) (v := ?_) rfl (by kernel_rfl) (by kernel_rfl) (by kernel_rfl) (fun _ _ _ h => h) (Or.inl ⟨by rfl, ?_⟩) (by trivial) ?_
          rotate_left
          (focus (intro w hSw; go_simp <;> with_reducible rfl))
          try simp only [Act.put, List.setIfInBounds_toArray, List.set_cons_zero, List.set_cons_succ]
          refine wpAnyH_take (i := 9) (oi := { dst := some 95, op := Op.move (Operand.tmp 94), type := 4, pos := "extra.go:56", after := #[{ on := 8, ground := Ground.data }, { on := 6, ground := Ground.chain }, { on := 6, ground := Ground.guard }], guard := some (6, true) }) (v := ?_) rfl (by kernel_rfl) (by kernel_rfl) (by kernel_rfl) (fun _ _ _ h => h) (Or.inl ⟨by rfl, ?_⟩) (by trivial) ?_
          rotate_left
          (focus (intro w hSw; go_simp <;> with_reducible rfl))
          try simp only [Act.put, List.setIfInBounds_toArray, List.set_cons_zero, List.set_cons_succ]
          refine wpAnyH_take (i := 10) (oi := { dst := some 96, op := Op.move (Operand.tmp 9), type := 24, pos := "extra.go:56", after := #[{ on := 9, ground := Ground.guard }], guard := some (9, false) }) (v := ?_) rfl (by kernel_rfl) (by kernel_rfl) (by kernel_rfl) (fun _ _ _ h => h) (Or.inl ⟨by rfl, ?_⟩) (by trivial) ?_
          rotate_left
          (focus (intro w hSw; go_simp <;> with_reducible rfl))
          try simp only [Act.put, List.setIfInBounds_toArray, List.set_cons_zero, List.set_cons_succ]
          refine wpAnyH_take (i := 12) (oi := { dst := some 98, op := Op.move (Operand.tmp 10), type := 26, pos := "extra.go:56", after := #[{ on := 9, ground := Ground.guard }], guard := some (9, false) }) (v := ?_) rfl (by kernel_rfl) (by kernel_rfl) (by kernel_rfl) (fun _ _ _ h => h) (Or.inl ⟨by rfl, ?_⟩) (by trivial) ?_
          rotate_left
          (focus (intro w hSw; go_simp <;> with_reducible rfl))
          try simp only [Act.put, List.setIfInBounds_toArray, List.set_cons_zero, List.set_cons_succ]
          refine wpAnyH_take (i := 13) (oi := { dst := some 99, op := Op.move (Operand.tmp 3), type := 3, pos := "extra.go:56", after := #[{ on := 9, ground := Ground.guard }], guard := some (9, false) }) (v := ?_) rfl (by kernel_rfl) (by kernel_rfl) (by kernel_rfl) (fun _ _ _ h => h) (Or.inl ⟨by rfl, ?_⟩) (by trivial) ?_
          rotate_left
          (focus (intro w hSw; go_simp <;> with_reducible rfl))
          try simp only [Act.put, List.setIfInBounds_toArray, List.set_cons_zero, List.set_cons_succ]
          refine wpAnyH_take (i := 14) (oi := { dst := some 100, op := Op.slice 26 (Operand.tmp 98) none (some (Operand.tmp 99)) none, type := 26, pos := "extra.go:56", after := #[{ on := 12, ground := Ground.data }, { on := 13, ground := Ground.data }, { on := 9, ground := Ground.guard }], guard := some (9, false) }) (v := ?_) rfl (by kernel_rfl) (by kernel_rfl) (by kernel_rfl) (fun _ _ _ h => h) (Or.inl ⟨by rfl, ?_⟩) (by trivial) ?_
          rotate_left
          (focus (intro w hSw; go_simp <;> with_reducible rfl))
          try simp only [Act.put, List.setIfInBounds_toArray, List.set_cons_zero, List.set_cons_succ]
          refine wpAnyH_ready (rs := [11]) (by kernel_rfl) (by simp) ?_
          refine AllReadyH.cons (o := { dst := some 97, op := Op.call { callee := Callee.value (Operand.func 10), args := #[Operand.tmp 96], argTypes := #[24] }, type := 26, pos := "extra.go:56", after := #[{ on := 10, ground := Ground.data }, { on := 9, ground := Ground.chain }, { on := 9, ground := Ground.guard }], guard := some (9, false) }) rfl (fun K hK => ?_) AllReadyH.nil
          go_simp
          refine (BB _ D9).mono ?_
          rintro e w10 ⟨A10, c10, rfl, R10, b10⟩
          have D10 := D9.quiet (below_quiet2 b10)
          have O10 := O9.below b10 (Nat.le_refl _)
          have e10 := e9.trans (b10.mono e9.size)
          clear D9 O9 e9 b10
          go_wp2_with fail
          refine hK.out _ _ trivial (fun _ => ?_)
          clear hK K
          try simp only [Act.put, List.setIfInBounds_toArray, List.set_cons_zero, List.set_cons_succ]
          refine wpAnyH_ready (rs := [15]) (by kernel_rfl) (by simp) ?_
          refine AllReadyH.cons (o := { dst := some 101, op := Op.call { callee := Callee.value (Operand.func 13), args := #[Operand.tmp 97, Operand.tmp 100], argTypes := #[26, 26] }, type := 4, pos := "extra.go:56", after := #[{ on := 11, ground := Ground.data }, { on := 14, ground := Ground.data }, { on := 11, ground := Ground.chain }, { on := 9, ground := Ground.guard }], guard := some (9, false) }) rfl (fun K hK => ?_) AllReadyH.nil
          go_simp
          refine (EE _ _ _ R10 O10 D10.small).mono ?_
          rintro e w11 ⟨rfl, rfl⟩
          go_wp2_with fail
          refine hK.out _ _ trivial (fun _ => ?_)
          clear hK K
          try simp only [Act.put, List.setIfInBounds_toArray, List.set_cons_zero, List.set_cons_succ]
          refine wpAnyH_take (i := 16) (oi := { dst := some 102, op := Op.pick (Operand.tmp 95) (Operand.const (Value.bool true)) (Operand.tmp 101), type := 4, pos := "extra.go:56", after := #[{ on := 9, ground := Ground.data }, { on := 15, ground := Ground.data }, { on := 6, ground := Ground.guard }], guard := some (6, true) }) (v := ?_) rfl (by kernel_rfl) (by kernel_rfl) (by kernel_rfl) (fun _ _ _ h => h) (Or.inl ⟨by rfl, ?_⟩) (by trivial) ?_
          rotate_left
          (focus (intro w hSw; go_simp <;> with_reducible rfl))
          try simp only [Act.put, List.setIfInBounds_toArray, List.set_cons_zero, List.set_cons_succ]
          refine wpAnyH_take (i := 17) (oi := { dst := some 103, op := Op.pick (Operand.tmp 92) (Operand.tmp 102) (Operand.const (Value.bool false)), type := 4, pos := "extra.go:56", after := #[{ on := 6, ground := Ground.data }, { on := 16, ground := Ground.data }], guard := none }) (v := ?_) rfl (by kernel_rfl) (by kernel_rfl) (by kernel_rfl) (fun _ _ _ h => h) (Or.inl ⟨by rfl, ?_⟩) (by trivial) ?_
          rotate_left
          (focus (intro w hSw; go_simp <;> with_reducible rfl))
          try simp only [Act.put, List.setIfInBounds_toArray, List.set_cons_zero, List.set_cons_succ]
          refine wpAnyH_take (i := 18) (oi := { dst := some 104, op := Op.move (Operand.tmp 103), type := 4, pos := "extra.go:56", after := #[{ on := 17, ground := Ground.data }, { on := 15, ground := Ground.chain }], guard := none }) (v := ?_) rfl (by kernel_rfl) (by kernel_rfl) (by kernel_rfl) (fun _ _ _ h => h) (Or.inl ⟨by rfl, ?_⟩) (by trivial) ?_
          rotate_left
          (focus (intro w hSw; go_simp <;> with_reducible rfl))
          try simp only [Act.put, List.setIfInBounds_toArray, List.set_cons_zero, List.set_cons_succ]
          refine wpAnyH_take (i := 19) (oi := { dst := some 105, op := Op.move (Operand.tmp 12), type := 4, pos := "extra.go:56", after := #[{ on := 18, ground := Ground.guard }], guard := some (18, true) }) (v := ?_) rfl (by kernel_rfl) (by kernel_rfl) (by kernel_rfl) (fun _ _ _ h => h) (Or.inl ⟨by rfl, ?_⟩) (by trivial) ?_
          rotate_left
          (focus (intro w hSw; go_simp <;> with_reducible rfl))
          try simp only [Act.put, List.setIfInBounds_toArray, List.set_cons_zero, List.set_cons_succ]
          refine wpAnyH_take (i := 20) (oi := { dst := some 106, op := Op.move (Operand.tmp 105), type := 4, pos := "extra.go:56", after := #[{ on := 19, ground := Ground.data }, { on := 18, ground := Ground.chain }, { on := 18, ground := Ground.guard }], guard := some (18, true) }) (v := ?_) rfl (by kernel_rfl) (by kernel_rfl) (by kernel_rfl) (fun _ _ _ h => h) (Or.inl ⟨by rfl, ?_⟩) (by trivial) ?_
          rotate_left
          (focus (intro w hSw; go_simp <;> with_reducible rfl))
          try simp only [Act.put, List.setIfInBounds_toArray, List.set_cons_zero, List.set_cons_succ]
          refine wpAnyH_take (i := 21) (oi := { dst := some 107, op := Op.move (Operand.tmp 9), type := 24, pos := "extra.go:56", after := #[{ on := 20, ground := Ground.guard }], guard := some (20, false) }) (v := undef) rfl (by kernel_rfl) (by kernel_rfl) (by kernel_rfl) (fun _ _ _ h => h) (Or.inr ⟨by rfl, rfl⟩) (by trivial) ?_
          try simp only [Act.put, List.setIfInBounds_toArray, List.set_cons_zero, List.set_cons_succ]
          refine wpAnyH_take (i := 22) (oi := { dst := some 108, op := Op.call { callee := Callee.value (Operand.func 10), args := #[Operand.tmp 107], argTypes := #[24] }, type := 26, pos := "extra.go:56", after := #[{ on := 21, ground := Ground.data }, { on := 20, ground := Ground.chain }, { on := 20, ground := Ground.guard }], guard := some (20, false) }) (v := undef) rfl (by kernel_rfl) (by kernel_rfl) (by kernel_rfl) (fun _ _ _ h => h) (Or.inr ⟨by rfl, rfl⟩) (by trivial) ?_
          try simp only [Act.put, List.setIfInBounds_toArray, List.set_cons_zero, List.set_cons_succ]
          refine wpAnyH_take (i := 23) (oi := { dst := some 109, op := Op.move (Operand.tmp 10), type := 26, pos := "extra.go:56", after := #[{ on := 20, ground := Ground.guard }], guard := some (20, false) }) (v := undef) rfl (by kernel_rfl) (by kernel_rfl) (by kernel_rfl) (fun _ _ _ h => h) (Or.inr ⟨by rfl, rfl⟩) (by trivial) ?_
          try simp only [Act.put, List.setIfInBounds_toArray, List.set_cons_zero, List.set_cons_succ]
          refine wpAnyH_take (i := 24) (oi := { dst := some 110, op := Op.call { callee := Callee.value (Operand.func 13), args := #[Operand.tmp 108, Operand.tmp 109], argTypes := #[26, 26] }, type := 4, pos := "extra.go:56", after := #[{ on := 22, ground := Ground.data }, { on := 23, ground := Ground.data }, { on := 22, ground := Ground.chain }, { on := 20, ground := Ground.guard }], guard := some (20, false) }) (v := undef) rfl (by kernel_rfl) (by kernel_rfl) (by kernel_rfl) (fun _ _ _ h => h) (Or.inr ⟨by rfl, rfl⟩) (by trivial) ?_
          try simp only [Act.put, List.setIfInBounds_toArray, List.set_cons_zero, List.set_cons_succ]
          refine wpAnyH_take (i := 25) (oi := { dst := some 111, op := Op.pick (Operand.tmp 106) (Operand.const (Value.bool true)) (Operand.tmp 110), type := 4, pos := "extra.go:56", after := #[{ on := 20, ground := Ground.data }, { on := 24, ground := Ground.data }, { on := 18, ground := Ground.guard }], guard := some (18, true) }) (v := ?_) rfl (by kernel_rfl) (by kernel_rfl) (by kernel_rfl) (fun _ _ _ h => h) (Or.inl ⟨by rfl, ?_⟩) (by trivial) ?_
          rotate_left
          (focus (intro w hSw; go_simp <;> with_reducible rfl))
          try simp only [Act.put, List.setIfInBounds_toArray, List.set_cons_zero, List.set_cons_succ]
          refine wpAnyH_take (i := 26) (oi := { dst := some 112, op := Op.pick (Operand.tmp 104) (Operand.tmp 111) (Operand.const (Value.bool false)), type := 4, pos := "extra.go:56", after := #[{ on := 18, ground := Ground.data }, { on := 25, ground := Ground.data }], guard := none }) (v := ?_) rfl (by kernel_rfl) (by kernel_rfl) (by kernel_rfl) (fun _ _ _ h => h) (Or.inl ⟨by rfl, ?_⟩) (by trivial) ?_
          rotate_left
          (focus (intro w hSw; go_simp <;> with_reducible rfl))
          try simp only [Act.put, List.setIfInBounds_toArray, List.set_cons_zero, List.set_cons_succ]
          refine wpAnyH_take (i := 27) (oi := { dst := some 113, op := Op.move (Operand.tmp 112), type := 4, pos := "extra.go:56", after := #[{ on := 26, ground := Ground.data }, { on := 24, ground := Ground.chain }], guard := none }) (v := ?_) rfl (by kernel_rfl) (by kernel_rfl) (by kernel_rfl) (fun _ _ _ h => h) (Or.inl ⟨by rfl, ?_⟩) (by trivial) ?_
          rotate_left
          (focus (intro w hSw; go_simp <;> with_reducible rfl))
          try simp only [Act.put, List.setIfInBounds_toArray, List.set_cons_zero, List.set_cons_succ]
          refine wpAnyH_take (i := 28) (oi := { dst := some 114, op := Op.move (Operand.tmp 9), type := 24, pos := "extra.go:56", after := #[{ on := 27, ground := Ground.guard }], guard := some (27, true) }) (v := ?_) rfl (by kernel_rfl) (by kernel_rfl) (by kernel_rfl) (fun _ _ _ h => h) (Or.inl ⟨by rfl, ?_⟩) (by trivial) ?_
          rotate_left
          (focus (intro w hSw; go_simp <;> with_reducible rfl))
          try simp only [Act.put, List.setIfInBounds_toArray, List.set_cons_zero, List.set_cons_succ]
          refine wpAnyH_take (i := 30) (oi := { dst := some 116, op := Op.move (Operand.tmp 9), type := 24, pos := "extra.go:56", after := #[{ on := 27, ground := Ground.guard }], guard := some (27, true) }) (v := ?_) rfl (by kernel_rfl) (by kernel_rfl) (by kernel_rfl) (fun _ _ _ h => h) (Or.inl ⟨by rfl, ?_⟩) (by trivial) ?_
          rotate_left
          (focus (intro w hSw; go_simp <;> with_reducible rfl))
          try simp only [Act.put, List.setIfInBounds_toArray, List.set_cons_zero, List.set_cons_succ]
          refine wpAnyH_ready (rs := [29]) (by kernel_rfl) (by simp) ?_
          refine AllReadyH.cons (o := { dst := some 115, op := Op.call { callee := Callee.value (Operand.func 11), args := #[Operand.tmp 114], argTypes := #[24] }, type := 3, pos := "extra.go:56", after := #[{ on := 28, ground := Ground.data }, { on := 27, ground := Ground.chain }, { on := 27, ground := Ground.guard }], guard := some (27, true) }) rfl (fun K hK => ?_) AllReadyH.nil
          go_simp
          refine (synced_any D10).mono ?_
          rintro e w11 ⟨rfl, rfl⟩
          go_wp2_with fail
          refine hK.out _ _ trivial (fun _ => ?_)
          clear hK K
          try simp only [Act.put, List.setIfInBounds_toArray, List.set_cons_zero, List.set_cons_succ]
          refine wpAnyH_ready (rs := [31]) (by kernel_rfl) (by simp) ?_
          refine AllReadyH.cons (o := { dst := some 117, op := Op.call { callee := Callee.value (Operand.func 10), args := #[Operand.tmp 116], argTypes := #[24] }, type := 26, pos := "extra.go:56", after := #[{ on := 30, ground := Ground.data }, { on := 29, ground := Ground.chain }, { on := 27, ground := Ground.guard }], guard := some (27, true) }) rfl (fun K hK => ?_) AllReadyH.nil
          go_simp
          refine (BB _ D10).mono ?_
          rintro e w12 ⟨A12, c12, rfl, R12, b12⟩
          have e13 := e10.trans (b12.mono e10.size)
          clear e10 b12 D10
          go_wp2_with fail
          refine hK.out _ _ trivial (fun _ => ?_)
          clear hK K
          try simp only [Act.put, List.setIfInBounds_toArray, List.set_cons_zero, List.set_cons_succ]
          refine wpAnyH_take (i := 32) (oi := { dst := some 118, op := Op.call { callee := Callee.builtin Builtin.len, args := #[Operand.tmp 117], argTypes := #[26] }, type := 3, pos := "extra.go:56", after := #[{ on := 31, ground := Ground.data }, { on := 27, ground := Ground.guard }], guard := some (27, true) }) (v := ?_) rfl (by kernel_rfl) (by kernel_rfl) (by kernel_rfl) (fun _ _ _ h => h) (Or.inl ⟨by rfl, ?_⟩) (by trivial) ?_
          rotate_left
          (focus (intro w hSw; go_simp <;> with_reducible rfl))
          try simp only [Act.put, List.setIfInBounds_toArray, List.set_cons_zero, List.set_cons_succ]
          refine wpAnyH_take (i := 33) (oi := { dst := some 119, op := Op.binOp BinOp.leq 3 (Operand.tmp 115) (Operand.tmp 118) 3, type := 4, pos := "extra.go:56", after := #[{ on := 29, ground := Ground.data }, { on := 32, ground := Ground.data }, { on := 27, ground := Ground.guard }], guard := some (27, true) }) (v := ?_) rfl (by kernel_rfl) (by kernel_rfl) (by kernel_rfl) (fun _ _ _ h => h) (Or.inl ⟨by rfl, ?_⟩) (by trivial) ?_
          rotate_left
          (focus (intro w hSw; go_simp <;> with_reducible rfl))
          try simp only [Act.put, List.setIfInBounds_toArray, List.set_cons_zero, List.set_cons_succ]
          refine wpAnyH_take (i := 34) (oi := { dst := some 120, op := Op.pick (Operand.tmp 113) (Operand.tmp 119) (Operand.const (Value.bool false)), type := 4, pos := "extra.go:56", after := #[{ on := 27, ground := Ground.data }, { on := 33, ground := Ground.data }], guard := none }) (v := ?_) rfl (by kernel_rfl) (by kernel_rfl) (by kernel_rfl) (fun _ _ _ h => h) (Or.inl ⟨by rfl, ?_⟩) (by trivial) ?_
          rotate_left
          (focus (intro w hSw; go_simp <;> with_reducible rfl))
          try simp only [Act.put, List.setIfInBounds_toArray, List.set_cons_zero, List.set_cons_succ]
          refine wpAnyH_take (i := 35) (oi := { dst := some 8, op := Op.assign (Operand.tmp 120), type := 4, pos := "extra.go:56", after := #[{ on := 34, ground := Ground.data }, { on := 31, ground := Ground.chain }, { on := 0, ground := Ground.phase }, { on := 1, ground := Ground.phase }, { on := 2, ground := Ground.phase }, { on := 3, ground := Ground.phase }, { on := 4, ground := Ground.phase }, { on := 5, ground := Ground.phase }, { on := 6, ground := Ground.phase }, { on := 7, ground := Ground.phase }, { on := 8, ground := Ground.phase }, { on := 9, ground := Ground.phase }, { on := 10, ground := Ground.phase }, { on := 11, ground := Ground.phase }, { on := 12, ground := Ground.phase }, { on := 13, ground := Ground.phase }, { on := 14, ground := Ground.phase }, { on := 15, ground := Ground.phase }, { on := 16, ground := Ground.phase }, { on := 17, ground := Ground.phase }, { on := 18, ground := Ground.phase }, { on := 19, ground := Ground.phase }, { on := 20, ground := Ground.phase }, { on := 21, ground := Ground.phase }, { on := 22, ground := Ground.phase }, { on := 23, ground := Ground.phase }, { on := 24, ground := Ground.phase }, { on := 25, ground := Ground.phase }, { on := 26, ground := Ground.phase }, { on := 27, ground := Ground.phase }, { on := 28, ground := Ground.phase }, { on := 29, ground := Ground.phase }, { on := 30, ground := Ground.phase }, { on := 31, ground := Ground.phase }, { on := 32, ground := Ground.phase }, { on := 33, ground := Ground.phase }, { on := 34, ground := Ground.phase }], guard := none }) (v := ?_) rfl (by kernel_rfl) (by kernel_rfl) (by kernel_rfl) (fun _ _ _ h => h) (Or.inl ⟨by rfl, ?_⟩) (by trivial) ?_
          rotate_left
          (focus (intro w hSw; go_simp <;> with_reducible rfl))
          try simp only [Act.put, List.setIfInBounds_toArray, List.set_cons_zero, List.set_cons_succ]
          refine wpAnyH_done (by kernel_rfl) ?_ _
          go_wp2_with fail
          go_ret
          exact ⟨ret_bool (by first | rfl | (simp; done) | (simp; omega)), e13⟩
      · have z1 : decide (0 ≤ cut) = true := by simp; omega
        have z2 : decide (cut ≤ (l.length : Int)) = false := by simp; omega
        go_wp2_with fail
        refine K.mono ?_
        rintro e w6 ⟨rfl, D6, g6⟩
        have O6 := O5.grown g6 (by cases h : (Value.slice A3 l.length c3).ownBlock <;> simp)
        replace b6 := b6.grown g6 b6.size (by simp)
        clear K O5 g6
        go_wp2_with fail
        refine (cut_no D6 cut (by omega) (by omega)).mono ?_
        rintro e w7 ⟨rfl, rfl⟩
        have D7 := D6.quiet (drew_one w6)
        have O7 := O6.grown (drew_one w6) (by cases h : (Value.slice A3 l.length c3).ownBlock <;> simp)
        have b7 := b6.grown (drew_one w6) b6.size (by simp)
        clear D6 O6 b6
        go_wp2_with fail
        refine wp_region_held_drew (S := fun _ => True) (by kernel_rfl) trivial (fun _ => ?_)
        refine wpAnyH_ready (rs := [0]) (by kernel_rfl) (by simp) ?_
        refine AllReadyH.cons (o := { dst := some 86, op := Op.call { callee := Callee.value (Operand.func 8), args := #[], argTypes := #[] }, type := 4, pos := "extra.go:56", after := #[], guard := none }) rfl (fun K hK => ?_) AllReadyH.nil
        go_simp
        refine (first_any _).mono ?_
        rintro e w8 ⟨rfl, b8⟩
        have D8 := D7.quiet (below_quiet2 b8)
        have O8 := O7.below b8 (Nat.le_refl _)
        have e8 := b7.trans (b8.mono b7.size)
        clear D7 O7 b7 b8
        go_wp2_with fail
        refine hK.out _ _ trivial (fun _ => ?_)
        clear hK K
        try simp only [Act.put, List.setIfInBounds_toArray, List.set_cons_zero, List.set_cons_succ]
        refine wpAnyH_take (i := 1) (oi := { dst := some 87, op := Op.move (Operand.tmp 86), type := 4, pos := "extra.go:56", after := #[{ on := 0, ground := Ground.data }, { on := 0, ground := Ground.chain }], guard := none }) (v := ?_) rfl (by kernel_rfl) (by kernel_rfl) (by kernel_rfl) (fun _ _ _ h => h) (Or.inl ⟨by rfl, ?_⟩) (by trivial) ?_
        rotate_left
        (focus (intro w hSw; go_simp <;> with_reducible rfl))
        try simp only [Act.put, List.setIfInBounds_toArray, List.set_cons_zero, List.set_cons_succ]
        refine wpAnyH_take (i := 2) (oi := { dst := some 88, op := Op.move (Operand.tmp 13), type := 4, pos := "extra.go:56", after := #[{ on := 1, ground := Ground.guard }], guard := some (1, true) }) (v := ?_) rfl (by kernel_rfl) (by kernel_rfl) (by kernel_rfl) (fun _ _ _ h => h) (Or.inl ⟨by rfl, ?_⟩) (by trivial) ?_
        rotate_left
        (focus (intro w hSw; go_simp <;> with_reducible rfl))
        try simp only [Act.put, List.setIfInBounds_toArray, List.set_cons_zero, List.set_cons_succ]
        refine wpAnyH_take (i := 3) (oi := { dst := some 89, op := Op.move (Operand.tmp 12), type := 4, pos := "extra.go:56", after := #[{ on := 1, ground := Ground.guard }], guard := some (1, true) }) (v := ?_) rfl (by kernel_rfl) (by kernel_rfl) (by kernel_rfl) (fun _ _ _ h => h) (Or.inl ⟨by rfl, ?_⟩) (by trivial) ?_
        rotate_left
        (focus (intro w hSw; go_simp <;> with_reducible rfl))
        try simp only [Act.put, List.setIfInBounds_toArray, List.set_cons_zero, List.set_cons_succ]
        refine wpAnyH_take (i := 4) (oi := { dst := some 90, op := Op.binOp BinOp.eql 4 (Operand.tmp 88) (Operand.tmp 89) 4, type := 4, pos := "extra.go:56", after := #[{ on := 2, ground := Ground.data }, { on := 3, ground := Ground.data }, { on := 1, ground := Ground.guard }], guard := some (1, true) }) (v := ?_) rfl (by kernel_rfl) (by kernel_rfl) (by kernel_rfl) (fun _ _ _ h => h) (Or.inl ⟨by rfl, ?_⟩) (by trivial) ?_
        rotate_left
        (focus (intro w hSw; go_simp <;> with_reducible rfl))
        try simp only [Act.put, List.setIfInBounds_toArray, List.set_cons_zero, List.set_cons_succ]
        refine wpAnyH_take (i := 5) (oi := { dst := some 91, op := Op.pick (Operand.tmp 87) (Operand.tmp 90) (Operand.const (Value.bool false)), type := 4, pos := "extra.go:56", after := #[{ on := 1, ground := Ground.data }, { on := 4, ground := Ground.data }], guard := none }) (v := ?_) rfl (by kernel_rfl) (by kernel_rfl) (by kernel_rfl) (fun _ _ _ h => h) (Or.inl ⟨by rfl, ?_⟩) (by trivial) ?_
        rotate_left
        (focus (intro w hSw; go_simp <;> with_reducible rfl))
        try simp only [Act.put, List.setIfInBounds_toArray, List.set_cons_zero, List.set_cons_succ]
        refine wpAnyH_take (i := 6) (oi := { dst := some 92, op := Op.move (Operand.tmp 91), type := 4, pos := "extra.go:56", after := #[{ on := 5, ground := Ground.data }, { on := 1, ground := Ground.chain }], guard := none }) (v := ?_) rfl (by kernel_rfl) (by kernel_rfl) (by kernel_rfl) (fun _ _ _ h => h) (Or.inl ⟨by rfl, ?_⟩) (by trivial) ?_
        rotate_left
        (focus (intro w hSw; go_simp <;> with_reducible rfl))
        try simp only [Act.put, List.setIfInBounds_toArray, List.set_cons_zero, List.set_cons_succ]
        refine wpAnyH_take (i := 7) (oi := { dst := some 93, op := Op.move (Operand.tmp 12), type := 4, pos := "extra.go:56", after := #[{ on := 6, ground := Ground.guard }], guard := some (6, true) }) (v := ?_) rfl (by kernel_rfl) (by kernel_rfl) (by kernel_rfl) (fun _ _ _ h => h) (Or.inl ⟨by rfl, ?_⟩) (by trivial) ?_
        rotate_left
        (focus (intro w hSw; go_simp <;> with_reducible rfl))
        try simp only [Act.put, List.setIfInBounds_toArray, List.set_cons_zero, List.set_cons_succ]
        refine wpAnyH_take (i := 8) (oi := { dst := some 94, op := Op.unOp UnOp.not 4 (Operand.tmp 93), type := 4, pos := "extra.go:56", after := #[{ on := 7, ground := Ground.data }, { on := 6, ground := Ground.guard }], guard := some (6, true) }) (v := ?_) rfl (by kernel_rfl) (by kernel_rfl) (by kernel_rfl) (fun _ _ _ h => h) (Or.inl ⟨by rfl, ?_⟩) (by trivial) ?_
        rotate_left
        (focus (intro w hSw; go_simp <;> with_reducible rfl))
        try simp only [Act.put, List.setIfInBounds_toArray, List.set_cons_zero, List.set_cons_succ]
        refine wpAnyH_take (i := 9) (oi := { dst := some 95, op := Op.move (Operand.tmp 94), type := 4, pos := "extra.go:56", after := #[{ on := 8, ground := Ground.data }, { on := 6, ground := Ground.chain }, { on := 6, ground := Ground.guard }], guard := some (6, true) }) (v := ?_) rfl (by kernel_rfl) (by kernel_rfl) (by kernel_rfl) (fun _ _ _ h => h) (Or.inl ⟨by rfl, ?_⟩) (by trivial) ?_
        rotate_left
        (focus (intro w hSw; go_simp <;> with_reducible rfl))
        try simp only [Act.put, List.setIfInBounds_toArray, List.set_cons_zero, List.set_cons_succ]
        refine wpAnyH_take (i := 10) (oi := { dst := some 96, op := Op.move (Operand.tmp 9), type := 24, pos := "extra.go:56", after := #[{ on := 9, ground := Ground.guard }], guard := some (9, false) }) (v := undef) rfl (by kernel_rfl) (by kernel_rfl) (by kernel_rfl) (fun _ _ _ h => h) (Or.inr ⟨by rfl, rfl⟩) (by trivial) ?_
        try simp only [Act.put, List.setIfInBounds_toArray, List.set_cons_zero, List.set_cons_succ]
        refine wpAnyH_take (i := 11) (oi := { dst := some 97, op := Op.call { callee := Callee.value (Operand.func 10), args := #[Operand.tmp 96], argTypes := #[24] }, type := 26, pos := "extra.go:56", after := #[{ on := 10, ground := Ground.data }, { on := 9, ground := Ground.chain }, { on := 9, ground := Ground.guard }], guard := some (9, false) }) (v := undef) rfl (by kernel_rfl) (by kernel_rfl) (by kernel_rfl) (fun _ _ _ h => h) (Or.inr ⟨by rfl, rfl⟩) (by trivial) ?_
        try simp only [Act.put, List.setIfInBounds_toArray, List.set_cons_zero, List.set_cons_succ]
        refine wpAnyH_take (i := 12) (oi := { dst := some 98, op := Op.move (Operand.tmp 10), type := 26, pos := "extra.go:56", after := #[{ on := 9, ground := Ground.guard }], guard := some (9, false) }) (v := undef) rfl (by kernel_rfl) (by kernel_rfl) (by kernel_rfl) (fun _ _ _ h => h) (Or.inr ⟨by rfl, rfl⟩) (by trivial) ?_
        try simp only [Act.put, List.setIfInBounds_toArray, List.set_cons_zero, List.set_cons_succ]
        refine wpAnyH_take (i := 13) (oi := { dst := some 99, op := Op.move (Operand.tmp 3), type := 3, pos := "extra.go:56", after := #[{ on := 9, ground := Ground.guard }], guard := some (9, false) }) (v := undef) rfl (by kernel_rfl) (by kernel_rfl) (by kernel_rfl) (fun _ _ _ h => h) (Or.inr ⟨by rfl, rfl⟩) (by trivial) ?_
        try simp only [Act.put, List.setIfInBounds_toArray, List.set_cons_zero, List.set_cons_succ]
        refine wpAnyH_take (i := 14) (oi := { dst := some 100, op := Op.slice 26 (Operand.tmp 98) none (some (Operand.tmp 99)) none, type := 26, pos := "extra.go:56", after := #[{ on := 12, ground := Ground.data }, { on := 13, ground := Ground.data }, { on := 9, ground := Ground.guard }], guard := some (9, false) }) (v := undef) rfl (by kernel_rfl) (by kernel_rfl) (by kernel_rfl) (fun _ _ _ h => h) (Or.inr ⟨by rfl, rfl⟩) (by trivial) ?_
        try simp only [Act.put, List.setIfInBounds_toArray, List.set_cons_zero, List.set_cons_succ]
        refine wpAnyH_take (i := 15) (oi := { dst := some 101, op := Op.call { callee := Callee.value (Operand.func 13), args := #[Operand.tmp 97, Operand.tmp 100], argTypes := #[26, 26] }, type := 4, pos := "extra.go:56", after := #[{ on := 11, ground := Ground.data }, { on := 14, ground := Ground.data }, { on := 11, ground := Ground.chain }, { on := 9, ground := Ground.guard }], guard := some (9, false) }) (v := undef) rfl (by kernel_rfl) (by kernel_rfl) (by kernel_rfl) (fun _ _ _ h => h) (Or.inr ⟨by rfl, rfl⟩) (by trivial) ?_
        try simp only [Act.put, List.setIfInBounds_toArray, List.set_cons_zero, List.set_cons_succ]
        refine wpAnyH_take (i := 16) (oi := { dst := some 102, op := Op.pick (Operand.tmp 95) (Operand.const (Value.bool true)) (Operand.tmp 101), type := 4, pos := "extra.go:56", after := #[{ on := 9, ground := Ground.data }, { on := 15, ground := Ground.data }, { on := 6, ground := Ground.guard }], guard := some (6, true) }) (v := ?_) rfl (by kernel_rfl) (by kernel_rfl) (by kernel_rfl) (fun _ _ _ h => h) (Or.inl ⟨by rfl, ?_⟩) (by trivial) ?_
        rotate_left
        (focus (intro w hSw; go_simp <;> with_reducible rfl))
        try simp only [Act.put, List.setIfInBounds_toArray, List.set_cons_zero, List.set_cons_succ]
        refine wpAnyH_take (i := 17) (oi := { dst := some 103, op := Op.pick (Operand.tmp 92) (Operand.tmp 102) (Operand.const (Value.bool false)), type := 4, pos := "extra.go:56", after := #[{ on := 6, ground := Ground.data }, { on := 16, ground := Ground.data }], guard := none }) (v := ?_) rfl (by kernel_rfl) (by kernel_rfl) (by kernel_rfl) (fun _ _ _ h => h) (Or.inl ⟨by rfl, ?_⟩) (by trivial) ?_
        rotate_left
        (focus (intro w hSw; go_simp <;> with_reducible rfl))
        try simp only [Act.put, List.setIfInBounds_toArray, List.set_cons_zero, List.set_cons_succ]
        refine wpAnyH_take (i := 18) (oi := { dst := some 104, op := Op.move (Operand.tmp 103), type := 4, pos := "extra.go:56", after := #[{ on := 17, ground := Ground.data }, { on := 15, ground := Ground.chain }], guard := none }) (v := ?_) rfl (by kernel_rfl) (by kernel_rfl) (by kernel_rfl) (fun _ _ _ h => h) (Or.inl ⟨by rfl, ?_⟩) (by trivial) ?_
        rotate_left
        (focus (intro w hSw; go_simp <;> with_reducible rfl))
        try simp only [Act.put, List.setIfInBounds_toArray, List.set_cons_zero, List.set_cons_succ]
        refine wpAnyH_take (i := 19) (oi := { dst := some 105, op := Op.move (Operand.tmp 12), type := 4, pos := "extra.go:56", after := #[{ on := 18, ground := Ground.guard }], guard := some (18, true) }) (v := ?_) rfl (by kernel_rfl) (by kernel_rfl) (by kernel_rfl) (fun _ _ _ h => h) (Or.inl ⟨by rfl, ?_⟩) (by trivial) ?_
        rotate_left
        (focus (intro w hSw; go_simp <;> with_reducible rfl))
        try simp only [Act.put, List.setIfInBounds_toArray, List.set_cons_zero, List.set_cons_succ]
        refine wpAnyH_take (i := 20) (oi := { dst := some 106, op := Op.move (Operand.tmp 105), type := 4, pos := "extra.go:56", after := #[{ on := 19, ground := Ground.data }, { on := 18, ground := Ground.chain }, { on := 18, ground := Ground.guard }], guard := some (18, true) }) (v := ?_) rfl (by kernel_rfl) (by kernel_rfl) (by kernel_rfl) (fun _ _ _ h => h) (Or.inl ⟨by rfl, ?_⟩) (by trivial) ?_
        rotate_left
        (focus (intro w hSw; go_simp <;> with_reducible rfl))
        try simp only [Act.put, List.setIfInBounds_toArray, List.set_cons_zero, List.set_cons_succ]
        refine wpAnyH_take (i := 21) (oi := { dst := some 107, op := Op.move (Operand.tmp 9), type := 24, pos := "extra.go:56", after := #[{ on := 20, ground := Ground.guard }], guard := some (20, false) }) (v := ?_) rfl (by kernel_rfl) (by kernel_rfl) (by kernel_rfl) (fun _ _ _ h => h) (Or.inl ⟨by rfl, ?_⟩) (by trivial) ?_
        rotate_left
        (focus (intro w hSw; go_simp <;> with_reducible rfl))
        try simp only [Act.put, List.setIfInBounds_toArray, List.set_cons_zero, List.set_cons_succ]
        refine wpAnyH_take (i := 23) (oi := { dst := some 109, op := Op.move (Operand.tmp 10), type := 26, pos := "extra.go:56", after := #[{ on := 20, ground := Ground.guard }], guard := some (20, false) }) (v := ?_) rfl (by kernel_rfl) (by kernel_rfl) (by kernel_rfl) (fun _ _ _ h => h) (Or.inl ⟨by rfl, ?_⟩) (by trivial) ?_
        rotate_left
        (focus (intro w hSw; go_simp <;> with_reducible rfl))
        try simp only [Act.put, List.setIfInBounds_toArray, List.set_cons_zero, List.set_cons_succ]
        refine wpAnyH_ready (rs := [22]) (by kernel_rfl) (by simp) ?_
        refine AllReadyH.cons (o := { dst := some 108, op := Op.call { callee := Callee.value (Operand.func 10), args := #[Operand.tmp 107], argTypes := #[24] }, type := 26, pos := "extra.go:56", after := #[{ on := 21, ground := Ground.data }, { on := 20, ground := Ground.chain }, { on := 20, ground := Ground.guard }], guard := some (20, false) }) rfl (fun K hK => ?_) AllReadyH.nil
        go_simp
        refine (bytes_of D8 (by omega)).mono ?_
        rintro e w9 ⟨A9, c9, rfl, O9, b9⟩
        have D9 := D8.quiet (below_quiet2 b9)
        have O10 := O8.below b9 (Nat.le_refl _)
        have e10 := e8.trans (b9.mono e8.size)
        clear D8 O8 e8 b9
        go_wp2_with fail
        refine hK.out _ _ trivial (fun _ => ?_)
        clear hK K
        try simp only [Act.put, List.setIfInBounds_toArray, List.set_cons_zero, List.set_cons_succ]
        refine wpAnyH_ready (rs := [24]) (by kernel_rfl) (by simp) ?_
        refine AllReadyH.cons (o := { dst := some 110, op := Op.call { callee := Callee.value (Operand.func 13), args := #[Operand.tmp 108, Operand.tmp 109], argTypes := #[26, 26] }, type := 4, pos := "extra.go:56", after := #[{ on := 22, ground := Ground.data }, { on := 23, ground := Ground.data }, { on := 22, ground := Ground.chain }, { on := 20, ground := Ground.guard }], guard := some (20, false) }) rfl (fun K hK => ?_) AllReadyH.nil
        go_simp
        have Q := bytes_any A9 A3 c9 c3 _ _ l l _ O9.reads O10.reads D9.small D9.small
        rw [decide_eq_true rfl] at Q
        refine Q.mono ?_
        rintro e w11 ⟨rfl, rfl⟩
        clear Q
        go_wp2_with fail
        refine hK.out _ _ trivial (fun _ => ?_)
        clear hK K
        try simp only [Act.put, List.setIfInBounds_toArray, List.set_cons_zero, List.set_cons_succ]
        refine wpAnyH_take (i := 25) (oi := { dst := some 111, op := Op.pick (Operand.tmp 106) (Operand.const (Value.bool true)) (Operand.tmp 110), type := 4, pos := "extra.go:56", after := #[{ on := 20, ground := Ground.data }, { on := 24, ground := Ground.data }, { on := 18, ground := Ground.guard }], guard := some (18, true) }) (v := ?_) rfl (by kernel_rfl) (by kernel_rfl) (by kernel_rfl) (fun _ _ _ h => h) (Or.inl ⟨by rfl, ?_⟩) (by trivial) ?_
        rotate_left
        (focus (intro w hSw; go_simp <;> with_reducible rfl))
        try simp only [Act.put, List.setIfInBounds_toArray, List.set_cons_zero, List.set_cons_succ]
        refine wpAnyH_take (i := 26) (oi := { dst := some 112, op := Op.pick (Operand.tmp 104) (Operand.tmp 111) (Operand.const (Value.bool false)), type := 4, pos := "extra.go:56", after := #[{ on := 18, ground := Ground.data }, { on := 25, ground := Ground.data }], guard := none }) (v := ?_) rfl (by kernel_rfl) (by kernel_rfl) (by kernel_rfl) (fun _ _ _ h => h) (Or.inl ⟨by rfl, ?_⟩) (by trivial) ?_
        rotate_left
        (focus (intro w hSw; go_simp <;> with_reducible rfl))
        try simp only [Act.put, List.setIfInBounds_toArray, List.set_cons_zero, List.set_cons_succ]
        refine wpAnyH_take (i := 27) (oi := { dst := some 113, op := Op.move (Operand.tmp 112), type := 4, pos := "extra.go:56", after := #[{ on := 26, ground := Ground.data }, { on := 24, ground := Ground.chain }], guard := none }) (v := ?_) rfl (by kernel_rfl) (by kernel_rfl) (by kernel_rfl) (fun _ _ _ h => h) (Or.inl ⟨by rfl, ?_⟩) (by trivial) ?_
        rotate_left
        (focus (intro w hSw; go_simp <;> with_reducible rfl))
        try simp only [Act.put, List.setIfInBounds_toArray, List.set_cons_zero, List.set_cons_succ]
        refine wpAnyH_take (i := 28) (oi := { dst := some 114, op := Op.move (Operand.tmp 9), type := 24, pos := "extra.go:56", after := #[{ on := 27, ground := Ground.guard }], guard := some (27, true) }) (v := ?_) rfl (by kernel_rfl) (by kernel_rfl) (by kernel_rfl) (fun _ _ _ h => h) (Or.inl ⟨by rfl, ?_⟩) (by trivial) ?_
        rotate_left
        (focus (intro w hSw; go_simp <;> with_reducible rfl))
        try simp only [Act.put, List.setIfInBounds_toArray, List.set_cons_zero, List.set_cons_succ]
        refine wpAnyH_take (i := 30) (oi := { dst := some 116, op := Op.move (Operand.tmp 9), type := 24, pos := "extra.go:56", after := #[{ on := 27, ground := Ground.guard }], guard := some (27, true) }) (v := ?_) rfl (by kernel_rfl) (by kernel_rfl) (by kernel_rfl) (fun _ _ _ h => h) (Or.inl ⟨by rfl, ?_⟩) (by trivial) ?_
        rotate_left
        (focus (intro w hSw; go_simp <;> with_reducible rfl))
        try simp only [Act.put, List.setIfInBounds_toArray, List.set_cons_zero, List.set_cons_succ]
        refine wpAnyH_ready (rs := [29]) (by kernel_rfl) (by simp) ?_
        refine AllReadyH.cons (o := { dst := some 115, op := Op.call { callee := Callee.value (Operand.func 11), args := #[Operand.tmp 114], argTypes := #[24] }, type := 3, pos := "extra.go:56", after := #[{ on := 28, ground := Ground.data }, { on := 27, ground := Ground.chain }, { on := 27, ground := Ground.guard }], guard := some (27, true) }) rfl (fun K hK => ?_) AllReadyH.nil
        go_simp
        refine (synced_any D9).mono ?_
        rintro e w11 ⟨rfl, rfl⟩
        go_wp2_with fail
        refine hK.out _ _ trivial (fun _ => ?_)
        clear hK K
        try simp only [Act.put, List.setIfInBounds_toArray, List.set_cons_zero, List.set_cons_succ]
        refine wpAnyH_ready (rs := [31]) (by kernel_rfl) (by simp) ?_
        refine AllReadyH.cons (o := { dst := some 117, op := Op.call { callee := Callee.value (Operand.func 10), args := #[Operand.tmp 116], argTypes := #[24] }, type := 26, pos := "extra.go:56", after := #[{ on := 30, ground := Ground.data }, { on := 29, ground := Ground.chain }, { on := 27, ground := Ground.guard }], guard := some (27, true) }) rfl (fun K hK => ?_) AllReadyH.nil
        go_simp
        refine (bytes_of D9 (by omega)).mono ?_
        rintro e w12 ⟨A12, c12, rfl, O12, b12⟩
        have e13 := e10.trans (b12.mono e10.size)
        clear e10 b12 D9
        go_wp2_with fail
        refine hK.out _ _ trivial (fun _ => ?_)
        clear hK K
        try simp only [Act.put, List.setIfInBounds_toArray, List.set_cons_zero, List.set_cons_succ]
        refine wpAnyH_take (i := 32) (oi := { dst := some 118, op := Op.call { callee := Callee.builtin Builtin.len, args := #[Operand.tmp 117], argTypes := #[26] }, type := 3, pos := "extra.go:56", after := #[{ on := 31, ground := Ground.data }, { on := 27, ground := Ground.guard }], guard := some (27, true) }) (v := ?_) rfl (by kernel_rfl) (by kernel_rfl) (by kernel_rfl) (fun _ _ _ h => h) (Or.inl ⟨by rfl, ?_⟩) (by trivial) ?_
        rotate_left
        (focus (intro w hSw; go_simp <;> with_reducible rfl))
        try simp only [Act.put, List.setIfInBounds_toArray, List.set_cons_zero, List.set_cons_succ]
        refine wpAnyH_take (i := 33) (oi := { dst := some 119, op := Op.binOp BinOp.leq 3 (Operand.tmp 115) (Operand.tmp 118) 3, type := 4, pos := "extra.go:56", after := #[{ on := 29, ground := Ground.data }, { on := 32, ground := Ground.data }, { on := 27, ground := Ground.guard }], guard := some (27, true) }) (v := ?_) rfl (by kernel_rfl) (by kernel_rfl) (by kernel_rfl) (fun _ _ _ h => h) (Or.inl ⟨by rfl, ?_⟩) (by trivial) ?_
        rotate_left
        (focus (intro w hSw; go_simp <;> with_reducible rfl))
        try simp only [Act.put, List.setIfInBounds_toArray, List.set_cons_zero, List.set_cons_succ]
        refine wpAnyH_take (i := 34) (oi := { dst := some 120, op := Op.pick (Operand.tmp 113) (Operand.tmp 119) (Operand.const (Value.bool false)), type := 4, pos := "extra.go:56", after := #[{ on := 27, ground := Ground.data }, { on := 33, ground := Ground.data }], guard := none }) (v := ?_) rfl (by kernel_rfl) (by kernel_rfl) (by kernel_rfl) (fun _ _ _ h => h) (Or.inl ⟨by rfl, ?_⟩) (by trivial) ?_
        rotate_left
        (focus (intro w hSw; go_simp <;> with_reducible rfl))
        try simp only [Act.put, List.setIfInBounds_toArray, List.set_cons_zero, List.set_cons_succ]
        refine wpAnyH_take (i := 35) (oi := { dst := some 8, op := Op.assign (Operand.tmp 120), type := 4, pos := "extra.go:56", after := #[{ on := 34, ground := Ground.data }, { on := 31, ground := Ground.chain }, { on := 0, ground := Ground.phase }, { on := 1, ground := Ground.phase }, { on := 2, ground := Ground.phase }, { on := 3, ground := Ground.phase }, { on := 4, ground := Ground.phase }, { on := 5, ground := Ground.phase }, { on := 6, ground := Ground.phase }, { on := 7, ground := Ground.phase }, { on := 8, ground := Ground.phase }, { on := 9, ground := Ground.phase }, { on := 10, ground := Ground.phase }, { on := 11, ground := Ground.phase }, { on := 12, ground := Ground.phase }, { on := 13, ground := Ground.phase }, { on := 14, ground := Ground.phase }, { on := 15, ground := Ground.phase }, { on := 16, ground := Ground.phase }, { on := 17, ground := Ground.phase }, { on := 18, ground := Ground.phase }, { on := 19, ground := Ground.phase }, { on := 20, ground := Ground.phase }, { on := 21, ground := Ground.phase }, { on := 22, ground := Ground.phase }, { on := 23, ground := Ground.phase }, { on := 24, ground := Ground.phase }, { on := 25, ground := Ground.phase }, { on := 26, ground := Ground.phase }, { on := 27, ground := Ground.phase }, { on := 28, ground := Ground.phase }, { on := 29, ground := Ground.phase }, { on := 30, ground := Ground.phase }, { on := 31, ground := Ground.phase }, { on := 32, ground := Ground.phase }, { on := 33, ground := Ground.phase }, { on := 34, ground := Ground.phase }], guard := none }) (v := ?_) rfl (by kernel_rfl) (by kernel_rfl) (by kernel_rfl) (fun _ _ _ h => h) (Or.inl ⟨by rfl, ?_⟩) (by trivial) ?_
        rotate_left
        (focus (intro w hSw; go_simp <;> with_reducible rfl))
        try simp only [Act.put, List.setIfInBounds_toArray, List.set_cons_zero, List.set_cons_succ]
        refine wpAnyH_done (by kernel_rfl) ?_ _
        go_wp2_with fail
        go_ret
        exact ⟨ret_bool (by first | rfl | (simp; done) | (simp; omega)), e13⟩
end Go.Proofs.Ytelkllhibkefbaa
