/- The document's log: Append, Write. -/
import Derived.Test.YtkhbpaloicefdaaRLog1
namespace Go.Proofs.Ytkhbpaloicefdaa.Ref
open Go.RowKit
set_option linter.unusedVariables false
attribute [local go_sem ↓] Go.wp_at_zero Go.wp_at_succ
section
variable {w w' : World} {W p d c cL : Nat} {S : Lg} {A AL : Option Addr} {xs : List Value} {R : List (List Nat)}
set_option maxRecDepth 100000 in
set_option maxHeartbeats 4000000 in
theorem log_add (h : LogAt w W p d S A c AL cL xs) (hF : Fine S 300000) {B : Nat} {A2 : Option Addr} {c2 : Nat} {k : List Nat} (hk : BytesAt w B A2 k) (hB : B ≤ w.heap.size) (hne : ∀ ad, A2 = some ad → ad.block < B → ad.block ≠ d) (hr : Roomy A2 k.length c2) (hs : Small k) :
    Calls Try.prog 26 #[.pointer (some ⟨p, 0, none⟩), .slice A2 k.length c2] w fun e w' => ∃ A' c' AL' cL' xs', e = .returned (.int .i64 (addL S k).2) ∧ LogAt w' W p d (addL S k).1 A' c' AL' cL' xs' ∧ Trip (addL S k).2 w w' d p (.slice AL S.R.length cL) (.slice AL' (addL S k).1.R.length cL') := by
  obtain ⟨f0, f1, f2, f3⟩ := hF
  have hWw : W ≤ w.heap.size := Nat.le_trans h.wp (Nat.le_of_lt h.lt)
  by_cases h8 : 8192 < k.length
  · have e1 : addL S k = (S, 3) := if_pos h8
    rw [e1]
    have hP := rput_no A2 c2 k.length w h8 (Nat.le_trans hr.le hr.max)
    clear e1
    go_enter Try.func26, Try.ntmps26
    go_wp2_with fail
    refine hP.mono ?_
    rintro e w1 ⟨rfl, rfl⟩
    go_wp2_with fail
    go_ret
    exact ⟨A, c, AL, cL, xs, rfl, h, Trip.quiet (World.grownBy.refl _ _)⟩
  · have hP := rput_yes A2 c2 B k w hk hB hs (by omega)
    have hrl := recd_length k
    by_cases hfit : (k.length : Int) + 6 ≤ S.r - (joined S.R).length
    · have e1 : addL S k = (⟨S.r, S.s, S.R ++ [k]⟩, 0) := (if_neg h8).trans (if_pos hfit)
      have E1 := Lib.hid e1
      obtain ⟨i0, hi, hz0, hz1, hz2⟩ := info_parts list_row
      have hR1 : 6 * S.R.length ≤ 300000 := Nat.le_trans (joined_len S.R) f3
      clear e1
      go_enter Try.func26, Try.ntmps26
      go_wp2_with fail
      refine hP.mono ?_
      rintro e w1 ⟨A5, c5, rfl, O5, b1⟩
      have g1 := below_quiet2 b1
      have H1 := h.half.quiet g1
      have D1 := h.disk.quiet g1
      have hcc := H1.cell0
      have hA := append_new D1 O5.reads (Nat.le_refl _) O5.roomy (recd_small hs (by omega)) (by omega) (by omega) f0 f1 (by omega)
      go_wp2_with fail
      refine hA.mono ?_
      rintro e w3 ⟨A6, c6, rfl, D3, g3, F3⟩
      have H3 := H1.beside D1 g3
      have g03 := grown_to g1 g3
      have b3 : Below W w w3 := (Below.refl W w).grown g03 hWw (fun k e => by injection e with e; have := h.wd; omega)
      have hk3 := hk.past hB g03 (fun ad e hb e2 => hne ad e hb (by injection e2))
      have hW3 := Nat.le_trans hWw b3.size
      have hB3 : B ≤ w3.heap.size := Nat.le_trans hB g03.size
      clear hP hA H1 D1 O5 hcc b1 g1 g3
      have H3' := H3.quiet (drew_one w3)
      have D3' := D3.quiet (drew_one w3)
      have hk3' : BytesAt w3.drew B A2 k := hk3
      have hK9 := copy_any A2 c2 B k w3.drew hk3' (by omega)
      have hc1 := H3'.cell1
      have hc1' := H3.cell1
      have GD := Lib.hid (fun (w4 w6 : World) (o : Obj) (row : Option Nat) (g4 : w3.drew.grownBy w4 none) (g6 : (w4.alloc o).grownBy w6 row) => grown_to (drew_one w3) (grown_to g4 (grown_to (alloc_grown w4 o) g6)))
      have h63 : S.R.length + 1 ≤ maxLen := by unfold maxLen; omega
      have h47 : (S.R.length + 1) * 24 ≤ 140737488355328 := by omega
      have hW3' : W ≤ w3.drew.heap.size := hW3
      go_wp2_with fail
      refine wp_region_held_drew (S := fun _ => True) (by kernel_rfl) trivial (fun _ => ?_)
      refine wpAnyH_take (i := 0) (oi := { dst := some 23, op := Op.move (Operand.tmp 0), type := 53, pos := "ref.go:348", after := #[], guard := none }) (v := ?_) rfl (by kernel_rfl) (by kernel_rfl) (by kernel_rfl) (fun _ _ _ h => h) (Or.inl ⟨by rfl, ?_⟩) (by trivial) ?_
      rotate_left
      (focus (intro w hSw; go_simp <;> with_reducible rfl))
      try simp only [Act.put, List.setIfInBounds_toArray, List.set_cons_zero, List.set_cons_succ]
      refine wpAnyH_take (i := 1) (oi := { dst := some 24, op := Op.move (Operand.tmp 0), type := 53, pos := "ref.go:348", after := #[], guard := none }) (v := ?_) rfl (by kernel_rfl) (by kernel_rfl) (by kernel_rfl) (fun _ _ _ h => h) (Or.inl ⟨by rfl, ?_⟩) (by trivial) ?_
      rotate_left
      (focus (intro w hSw; go_simp <;> with_reducible rfl))
      try simp only [Act.put, List.setIfInBounds_toArray, List.set_cons_zero, List.set_cons_succ]
      refine wpAnyH_take (i := 2) (oi := { dst := some 25, op := Op.nilCheck (Operand.tmp 24), type := 0, pos := "ref.go:348", after := #[{ on := 1, ground := Ground.data }], guard := none }) (v := ?_) rfl (by kernel_rfl) (by kernel_rfl) (by kernel_rfl) (fun _ _ _ h => h) (Or.inl ⟨by rfl, ?_⟩) (by trivial) ?_
      rotate_left
      (focus (intro w hSw; go_simp <;> with_reducible rfl))
      try simp only [Act.put, List.setIfInBounds_toArray, List.set_cons_zero, List.set_cons_succ]
      refine wpAnyH_take (i := 3) (oi := { dst := some 26, op := Op.fieldAddr 57 (Operand.tmp 25) 1, type := 0, pos := "ref.go:348", after := #[{ on := 2, ground := Ground.data }], guard := none }) (v := ?_) rfl (by kernel_rfl) (by kernel_rfl) (by kernel_rfl) (fun _ _ _ h => h) (Or.inl ⟨by rfl, ?_⟩) (by trivial) ?_
      rotate_left
      (focus (intro w hSw; go_simp <;> with_reducible rfl))
      try simp only [Act.put, List.setIfInBounds_toArray, List.set_cons_zero, List.set_cons_succ]
      refine wpAnyH_take (i := 5) (oi := { dst := some 28, op := Op.move (Operand.tmp 1), type := 32, pos := "ref.go:348", after := #[], guard := none }) (v := ?_) rfl (by kernel_rfl) (by kernel_rfl) (by kernel_rfl) (fun _ _ _ h => h) (Or.inl ⟨by rfl, ?_⟩) (by trivial) ?_
      rotate_left
      (focus (intro w hSw; go_simp <;> with_reducible rfl))
      try simp only [Act.put, List.setIfInBounds_toArray, List.set_cons_zero, List.set_cons_succ]
      refine wpAnyH_ready (rs := [4, 6]) (by kernel_rfl) (by simp) ?_
      refine AllReadyH.cons (o := { dst := some 27, op := Op.load 33 (Operand.tmp 26), type := 33, pos := "ref.go:348", after := #[{ on := 3, ground := Ground.data }], guard := none }) rfl (fun K hK => ?_) (AllReadyH.cons (o := { dst := some 29, op := Op.call { callee := Callee.value (Operand.func 42), args := #[Operand.tmp 28], argTypes := #[32] }, type := 32, pos := "ref.go:348", after := #[{ on := 5, ground := Ground.data }], guard := none }) rfl (fun K hK => ?_) (AllReadyH.nil))
      · go_simp
        go_wp2_with fail
        refine hK.out _ _ trivial (fun _ => ?_)
        clear hK K
        try simp only [Act.put, List.setIfInBounds_toArray, List.set_cons_zero, List.set_cons_succ]
        refine wpAnyH_ready (rs := [6]) (by kernel_rfl) (by simp) ?_
        refine AllReadyH.cons (o := { dst := some 29, op := Op.call { callee := Callee.value (Operand.func 42), args := #[Operand.tmp 28], argTypes := #[32] }, type := 32, pos := "ref.go:348", after := #[{ on := 5, ground := Ground.data }], guard := none }) rfl (fun K hK => ?_) (AllReadyH.nil)
        go_simp
        go_at_call 42; refine hK9.mono ?_; rintro e w4 ⟨A9, c9, rfl, O9, b4⟩; have g4 := below_quiet2 b4; have H4 := H3'.quiet g4; have D4 := D3'.quiet g4; have hW4 := Nat.le_trans hW3' b4.size; have H5 := H4.quiet (alloc_grown w4 (.cells #[.slice A9 k.length c9] 32)); have D5 := D4.quiet (alloc_grown w4 (.cells #[.slice A9 k.length c9] 32)); have O9a := (O9.alloc (.cells #[.slice A9 k.length c9] 32)).mono hW3'; have nw := slice_reads w4 (.slice A9 k.length c9); have one9 := slice_one A9 k.length c9; have c14 := H4.cell1; have c15 := H5.cell1; have hW5 : W ≤ (w4.alloc (.cells #[.slice A9 k.length c9] 32)).heap.size := Nat.le_trans hW4 (by simp)
        go_wp2_with fail
        refine hK.out _ _ trivial (fun _ => ?_)
        clear hK K
        try simp only [Act.put, List.setIfInBounds_toArray, List.set_cons_zero, List.set_cons_succ]
        refine wpAnyH_ready (rs := [7]) (by kernel_rfl) (by simp) ?_
        refine AllReadyH.cons (o := { dst := some 30, op := Op.buildSlice 33 1 #[(0, Operand.tmp 29)], type := 33, pos := "ref.go:348", after := #[{ on := 6, ground := Ground.data }], guard := none }) rfl (fun K hK => ?_) (AllReadyH.nil)
        go_simp
        go_wp2_with fail
        refine hK.out _ _ trivial (fun _ => ?_)
        clear hK K
        try simp only [Act.put, List.setIfInBounds_toArray, List.set_cons_zero, List.set_cons_succ]
        refine wpAnyH_ready (rs := [8]) (by kernel_rfl) (by simp) ?_
        refine AllReadyH.cons (o := { dst := some 31, op := Op.call { callee := Callee.builtin Builtin.append, args := #[Operand.tmp 27, Operand.tmp 30], argTypes := #[33, 33] }, type := 33, pos := "ref.go:348", after := #[{ on := 4, ground := Ground.data }, { on := 7, ground := Ground.data }, { on := 6, ground := Ground.chain }], guard := none }) rfl (fun K hK => ?_) (AllReadyH.nil)
        refine step_append_any _ rfl (.tmp 27) (.tmp 30) 33 rfl W 32 i0 _ 1 24 Try.underlying33 hi hz0 hz1 hz2 rfl (by omega) _ _ _ (by rfl) H5.list _ _ _ _ _ (by rfl) nw one9 h63 h47 hW5 ?_; intro v6 w6 o6 g6 at6; have blk6 := (g6.block p (Array.getElem?_eq_some_iff.1 H5.blk).1 (Ne.symm (own_blk' H5.list H5.blk (by decide)))).trans H5.blk; have R6 := (H5.rows.grown H5.list g6).snoc (O9a.grown g6 (own_ne_lists O9a H5.list)); have D6 := D5.grown g6 (own_blk' H5.list D5.blk (by decide)) (off_lists H5.list D5); obtain ⟨A7, c7, rfl⟩ := lists_form o6; have c16 := blk_cell1 blk6; have f16 := blk_free blk6 1
        refine hK.out _ _ trivial (fun _ => ?_)
        clear hK K
        try simp only [Act.put, List.setIfInBounds_toArray, List.set_cons_zero, List.set_cons_succ]
        refine wpAnyH_take (i := 9) (oi := { dst := some 32, op := Op.nilCheck (Operand.tmp 23), type := 0, pos := "ref.go:348", after := #[{ on := 0, ground := Ground.data }, { on := 0, ground := Ground.phase }, { on := 1, ground := Ground.phase }, { on := 2, ground := Ground.phase }, { on := 3, ground := Ground.phase }, { on := 4, ground := Ground.phase }, { on := 5, ground := Ground.phase }, { on := 6, ground := Ground.phase }, { on := 7, ground := Ground.phase }, { on := 8, ground := Ground.phase }], guard := none }) (v := ?_) rfl (by kernel_rfl) (by kernel_rfl) (by kernel_rfl) (fun _ _ _ h => h) (Or.inl ⟨by rfl, ?_⟩) (by trivial) ?_
        rotate_left
        (focus (intro w hSw; go_simp <;> with_reducible rfl))
        try simp only [Act.put, List.setIfInBounds_toArray, List.set_cons_zero, List.set_cons_succ]
        refine wpAnyH_take (i := 10) (oi := { dst := some 33, op := Op.fieldAddr 57 (Operand.tmp 32) 1, type := 0, pos := "ref.go:348", after := #[{ on := 9, ground := Ground.data }, { on := 0, ground := Ground.phase }, { on := 1, ground := Ground.phase }, { on := 2, ground := Ground.phase }, { on := 3, ground := Ground.phase }, { on := 4, ground := Ground.phase }, { on := 5, ground := Ground.phase }, { on := 6, ground := Ground.phase }, { on := 7, ground := Ground.phase }, { on := 8, ground := Ground.phase }], guard := none }) (v := ?_) rfl (by kernel_rfl) (by kernel_rfl) (by kernel_rfl) (fun _ _ _ h => h) (Or.inl ⟨by rfl, ?_⟩) (by trivial) ?_
        rotate_left
        (focus (intro w hSw; go_simp <;> with_reducible rfl))
        try simp only [Act.put, List.setIfInBounds_toArray, List.set_cons_zero, List.set_cons_succ]
        refine wpAnyH_ready (rs := [11]) (by kernel_rfl) (by simp) ?_
        refine AllReadyH.cons (o := { dst := none, op := Op.store 33 (Operand.tmp 33) (Operand.tmp 31), type := 0, pos := "ref.go:348", after := #[{ on := 10, ground := Ground.data }, { on := 8, ground := Ground.data }, { on := 8, ground := Ground.chain }, { on := 0, ground := Ground.phase }, { on := 1, ground := Ground.phase }, { on := 2, ground := Ground.phase }, { on := 3, ground := Ground.phase }, { on := 4, ground := Ground.phase }, { on := 5, ground := Ground.phase }, { on := 6, ground := Ground.phase }, { on := 7, ground := Ground.phase }, { on := 8, ground := Ground.phase }], guard := none }) rfl (fun K hK => ?_) (AllReadyH.nil)
        go_simp
        go_wp2_with fail
        refine hK.out _ _ trivial (fun _ => ?_)
        clear hK K
        try simp only [Act.put, List.setIfInBounds_toArray, List.set_cons_zero, List.set_cons_succ]
        refine wpAnyH_done (by kernel_rfl) ?_ _
        go_wp2_with fail
        go_ret
        refine ⟨A6, c6, A7, c7, _, by rw [E1.out]; rfl, by rw [E1.out]; exact add_done h.few hs (by omega) h.wp h.wd blk6 o6 R6 D6, ⟨w3, w6, _, g03, GD.out w4 w6 _ _ g4 g6, set_grown _ _ _ _, World.grownBy.refl _ _, ?_⟩, fun hz => absurd (by rw [E1.out]) hz⟩
        rw [own_len A7 _ (S.R.length + 1) c7 c7]
        rcases at6 with at6 | at6
        · exact .inl at6
        · refine .inr fun g hg => ?_
          have e3 := at6.symm.trans hg
          injection e3 with e3
          have := b4.size
          have := g03.size
          have e4 : w3.drew.heap.size = w3.heap.size := rfl
          simp at e3
          omega
      · go_simp
        go_at_call 42; refine hK9.mono ?_; rintro e w4 ⟨A9, c9, rfl, O9, b4⟩; have g4 := below_quiet2 b4; have H4 := H3'.quiet g4; have D4 := D3'.quiet g4; have hW4 := Nat.le_trans hW3' b4.size; have H5 := H4.quiet (alloc_grown w4 (.cells #[.slice A9 k.length c9] 32)); have D5 := D4.quiet (alloc_grown w4 (.cells #[.slice A9 k.length c9] 32)); have O9a := (O9.alloc (.cells #[.slice A9 k.length c9] 32)).mono hW3'; have nw := slice_reads w4 (.slice A9 k.length c9); have one9 := slice_one A9 k.length c9; have c14 := H4.cell1; have c15 := H5.cell1; have hW5 : W ≤ (w4.alloc (.cells #[.slice A9 k.length c9] 32)).heap.size := Nat.le_trans hW4 (by simp)
        go_wp2_with fail
        refine hK.out _ _ trivial (fun _ => ?_)
        clear hK K
        try simp only [Act.put, List.setIfInBounds_toArray, List.set_cons_zero, List.set_cons_succ]
        refine wpAnyH_ready (rs := [4, 7]) (by kernel_rfl) (by simp) ?_
        refine AllReadyH.cons (o := { dst := some 27, op := Op.load 33 (Operand.tmp 26), type := 33, pos := "ref.go:348", after := #[{ on := 3, ground := Ground.data }], guard := none }) rfl (fun K hK => ?_) (AllReadyH.cons (o := { dst := some 30, op := Op.buildSlice 33 1 #[(0, Operand.tmp 29)], type := 33, pos := "ref.go:348", after := #[{ on := 6, ground := Ground.data }], guard := none }) rfl (fun K hK => ?_) (AllReadyH.nil))
        · go_simp
          go_wp2_with fail
          refine hK.out _ _ trivial (fun _ => ?_)
          clear hK K
          try simp only [Act.put, List.setIfInBounds_toArray, List.set_cons_zero, List.set_cons_succ]
          refine wpAnyH_ready (rs := [7]) (by kernel_rfl) (by simp) ?_
          refine AllReadyH.cons (o := { dst := some 30, op := Op.buildSlice 33 1 #[(0, Operand.tmp 29)], type := 33, pos := "ref.go:348", after := #[{ on := 6, ground := Ground.data }], guard := none }) rfl (fun K hK => ?_) (AllReadyH.nil)
          go_simp
          go_wp2_with fail
          refine hK.out _ _ trivial (fun _ => ?_)
          clear hK K
          try simp only [Act.put, List.setIfInBounds_toArray, List.set_cons_zero, List.set_cons_succ]
          refine wpAnyH_ready (rs := [8]) (by kernel_rfl) (by simp) ?_
          refine AllReadyH.cons (o := { dst := some 31, op := Op.call { callee := Callee.builtin Builtin.append, args := #[Operand.tmp 27, Operand.tmp 30], argTypes := #[33, 33] }, type := 33, pos := "ref.go:348", after := #[{ on := 4, ground := Ground.data }, { on := 7, ground := Ground.data }, { on := 6, ground := Ground.chain }], guard := none }) rfl (fun K hK => ?_) (AllReadyH.nil)
          refine step_append_any _ rfl (.tmp 27) (.tmp 30) 33 rfl W 32 i0 _ 1 24 Try.underlying33 hi hz0 hz1 hz2 rfl (by omega) _ _ _ (by rfl) H5.list _ _ _ _ _ (by rfl) nw one9 h63 h47 hW5 ?_; intro v6 w6 o6 g6 at6; have blk6 := (g6.block p (Array.getElem?_eq_some_iff.1 H5.blk).1 (Ne.symm (own_blk' H5.list H5.blk (by decide)))).trans H5.blk; have R6 := (H5.rows.grown H5.list g6).snoc (O9a.grown g6 (own_ne_lists O9a H5.list)); have D6 := D5.grown g6 (own_blk' H5.list D5.blk (by decide)) (off_lists H5.list D5); obtain ⟨A7, c7, rfl⟩ := lists_form o6; have c16 := blk_cell1 blk6; have f16 := blk_free blk6 1
          refine hK.out _ _ trivial (fun _ => ?_)
          clear hK K
          try simp only [Act.put, List.setIfInBounds_toArray, List.set_cons_zero, List.set_cons_succ]
          refine wpAnyH_take (i := 9) (oi := { dst := some 32, op := Op.nilCheck (Operand.tmp 23), type := 0, pos := "ref.go:348", after := #[{ on := 0, ground := Ground.data }, { on := 0, ground := Ground.phase }, { on := 1, ground := Ground.phase }, { on := 2, ground := Ground.phase }, { on := 3, ground := Ground.phase }, { on := 4, ground := Ground.phase }, { on := 5, ground := Ground.phase }, { on := 6, ground := Ground.phase }, { on := 7, ground := Ground.phase }, { on := 8, ground := Ground.phase }], guard := none }) (v := ?_) rfl (by kernel_rfl) (by kernel_rfl) (by kernel_rfl) (fun _ _ _ h => h) (Or.inl ⟨by rfl, ?_⟩) (by trivial) ?_
          rotate_left
          (focus (intro w hSw; go_simp <;> with_reducible rfl))
          try simp only [Act.put, List.setIfInBounds_toArray, List.set_cons_zero, List.set_cons_succ]
          refine wpAnyH_take (i := 10) (oi := { dst := some 33, op := Op.fieldAddr 57 (Operand.tmp 32) 1, type := 0, pos := "ref.go:348", after := #[{ on := 9, ground := Ground.data }, { on := 0, ground := Ground.phase }, { on := 1, ground := Ground.phase }, { on := 2, ground := Ground.phase }, { on := 3, ground := Ground.phase }, { on := 4, ground := Ground.phase }, { on := 5, ground := Ground.phase }, { on := 6, ground := Ground.phase }, { on := 7, ground := Ground.phase }, { on := 8, ground := Ground.phase }], guard := none }) (v := ?_) rfl (by kernel_rfl) (by kernel_rfl) (by kernel_rfl) (fun _ _ _ h => h) (Or.inl ⟨by rfl, ?_⟩) (by trivial) ?_
          rotate_left
          (focus (intro w hSw; go_simp <;> with_reducible rfl))
          try simp only [Act.put, List.setIfInBounds_toArray, List.set_cons_zero, List.set_cons_succ]
          refine wpAnyH_ready (rs := [11]) (by kernel_rfl) (by simp) ?_
          refine AllReadyH.cons (o := { dst := none, op := Op.store 33 (Operand.tmp 33) (Operand.tmp 31), type := 0, pos := "ref.go:348", after := #[{ on := 10, ground := Ground.data }, { on := 8, ground := Ground.data }, { on := 8, ground := Ground.chain }, { on := 0, ground := Ground.phase }, { on := 1, ground := Ground.phase }, { on := 2, ground := Ground.phase }, { on := 3, ground := Ground.phase }, { on := 4, ground := Ground.phase }, { on := 5, ground := Ground.phase }, { on := 6, ground := Ground.phase }, { on := 7, ground := Ground.phase }, { on := 8, ground := Ground.phase }], guard := none }) rfl (fun K hK => ?_) (AllReadyH.nil)
          go_simp
          go_wp2_with fail
          refine hK.out _ _ trivial (fun _ => ?_)
          clear hK K
          try simp only [Act.put, List.setIfInBounds_toArray, List.set_cons_zero, List.set_cons_succ]
          refine wpAnyH_done (by kernel_rfl) ?_ _
          go_wp2_with fail
          go_ret
          refine ⟨A6, c6, A7, c7, _, by rw [E1.out]; rfl, by rw [E1.out]; exact add_done h.few hs (by omega) h.wp h.wd blk6 o6 R6 D6, ⟨w3, w6, _, g03, GD.out w4 w6 _ _ g4 g6, set_grown _ _ _ _, World.grownBy.refl _ _, ?_⟩, fun hz => absurd (by rw [E1.out]) hz⟩
          rw [own_len A7 _ (S.R.length + 1) c7 c7]
          rcases at6 with at6 | at6
          · exact .inl at6
          · refine .inr fun g hg => ?_
            have e3 := at6.symm.trans hg
            injection e3 with e3
            have := b4.size
            have := g03.size
            have e4 : w3.drew.heap.size = w3.heap.size := rfl
            simp at e3
            omega
        · go_simp
          go_wp2_with fail
          refine hK.out _ _ trivial (fun _ => ?_)
          clear hK K
          try simp only [Act.put, List.setIfInBounds_toArray, List.set_cons_zero, List.set_cons_succ]
          refine wpAnyH_ready (rs := [4]) (by kernel_rfl) (by simp) ?_
          refine AllReadyH.cons (o := { dst := some 27, op := Op.load 33 (Operand.tmp 26), type := 33, pos := "ref.go:348", after := #[{ on := 3, ground := Ground.data }], guard := none }) rfl (fun K hK => ?_) (AllReadyH.nil)
          go_simp
          go_wp2_with fail
          refine hK.out _ _ trivial (fun _ => ?_)
          clear hK K
          try simp only [Act.put, List.setIfInBounds_toArray, List.set_cons_zero, List.set_cons_succ]
          refine wpAnyH_ready (rs := [8]) (by kernel_rfl) (by simp) ?_
          refine AllReadyH.cons (o := { dst := some 31, op := Op.call { callee := Callee.builtin Builtin.append, args := #[Operand.tmp 27, Operand.tmp 30], argTypes := #[33, 33] }, type := 33, pos := "ref.go:348", after := #[{ on := 4, ground := Ground.data }, { on := 7, ground := Ground.data }, { on := 6, ground := Ground.chain }], guard := none }) rfl (fun K hK => ?_) (AllReadyH.nil)
          refine step_append_any _ rfl (.tmp 27) (.tmp 30) 33 rfl W 32 i0 _ 1 24 Try.underlying33 hi hz0 hz1 hz2 rfl (by omega) _ _ _ (by rfl) H5.list _ _ _ _ _ (by rfl) nw one9 h63 h47 hW5 ?_; intro v6 w6 o6 g6 at6; have blk6 := (g6.block p (Array.getElem?_eq_some_iff.1 H5.blk).1 (Ne.symm (own_blk' H5.list H5.blk (by decide)))).trans H5.blk; have R6 := (H5.rows.grown H5.list g6).snoc (O9a.grown g6 (own_ne_lists O9a H5.list)); have D6 := D5.grown g6 (own_blk' H5.list D5.blk (by decide)) (off_lists H5.list D5); obtain ⟨A7, c7, rfl⟩ := lists_form o6; have c16 := blk_cell1 blk6; have f16 := blk_free blk6 1
          refine hK.out _ _ trivial (fun _ => ?_)
          clear hK K
          try simp only [Act.put, List.setIfInBounds_toArray, List.set_cons_zero, List.set_cons_succ]
          refine wpAnyH_take (i := 9) (oi := { dst := some 32, op := Op.nilCheck (Operand.tmp 23), type := 0, pos := "ref.go:348", after := #[{ on := 0, ground := Ground.data }, { on := 0, ground := Ground.phase }, { on := 1, ground := Ground.phase }, { on := 2, ground := Ground.phase }, { on := 3, ground := Ground.phase }, { on := 4, ground := Ground.phase }, { on := 5, ground := Ground.phase }, { on := 6, ground := Ground.phase }, { on := 7, ground := Ground.phase }, { on := 8, ground := Ground.phase }], guard := none }) (v := ?_) rfl (by kernel_rfl) (by kernel_rfl) (by kernel_rfl) (fun _ _ _ h => h) (Or.inl ⟨by rfl, ?_⟩) (by trivial) ?_
          rotate_left
          (focus (intro w hSw; go_simp <;> with_reducible rfl))
          try simp only [Act.put, List.setIfInBounds_toArray, List.set_cons_zero, List.set_cons_succ]
          refine wpAnyH_take (i := 10) (oi := { dst := some 33, op := Op.fieldAddr 57 (Operand.tmp 32) 1, type := 0, pos := "ref.go:348", after := #[{ on := 9, ground := Ground.data }, { on := 0, ground := Ground.phase }, { on := 1, ground := Ground.phase }, { on := 2, ground := Ground.phase }, { on := 3, ground := Ground.phase }, { on := 4, ground := Ground.phase }, { on := 5, ground := Ground.phase }, { on := 6, ground := Ground.phase }, { on := 7, ground := Ground.phase }, { on := 8, ground := Ground.phase }], guard := none }) (v := ?_) rfl (by kernel_rfl) (by kernel_rfl) (by kernel_rfl) (fun _ _ _ h => h) (Or.inl ⟨by rfl, ?_⟩) (by trivial) ?_
          rotate_left
          (focus (intro w hSw; go_simp <;> with_reducible rfl))
          try simp only [Act.put, List.setIfInBounds_toArray, List.set_cons_zero, List.set_cons_succ]
          refine wpAnyH_ready (rs := [11]) (by kernel_rfl) (by simp) ?_
          refine AllReadyH.cons (o := { dst := none, op := Op.store 33 (Operand.tmp 33) (Operand.tmp 31), type := 0, pos := "ref.go:348", after := #[{ on := 10, ground := Ground.data }, { on := 8, ground := Ground.data }, { on := 8, ground := Ground.chain }, { on := 0, ground := Ground.phase }, { on := 1, ground := Ground.phase }, { on := 2, ground := Ground.phase }, { on := 3, ground := Ground.phase }, { on := 4, ground := Ground.phase }, { on := 5, ground := Ground.phase }, { on := 6, ground := Ground.phase }, { on := 7, ground := Ground.phase }, { on := 8, ground := Ground.phase }], guard := none }) rfl (fun K hK => ?_) (AllReadyH.nil)
          go_simp
          go_wp2_with fail
          refine hK.out _ _ trivial (fun _ => ?_)
          clear hK K
          try simp only [Act.put, List.setIfInBounds_toArray, List.set_cons_zero, List.set_cons_succ]
          refine wpAnyH_done (by kernel_rfl) ?_ _
          go_wp2_with fail
          go_ret
          refine ⟨A6, c6, A7, c7, _, by rw [E1.out]; rfl, by rw [E1.out]; exact add_done h.few hs (by omega) h.wp h.wd blk6 o6 R6 D6, ⟨w3, w6, _, g03, GD.out w4 w6 _ _ g4 g6, set_grown _ _ _ _, World.grownBy.refl _ _, ?_⟩, fun hz => absurd (by rw [E1.out]) hz⟩
          rw [own_len A7 _ (S.R.length + 1) c7 c7]
          rcases at6 with at6 | at6
          · exact .inl at6
          · refine .inr fun g hg => ?_
            have e3 := at6.symm.trans hg
            injection e3 with e3
            have := b4.size
            have := g03.size
            have e4 : w3.drew.heap.size = w3.heap.size := rfl
            simp at e3
            omega
    · have e1 : addL S k = (S, 9) := (if_neg h8).trans (if_neg hfit)
      have E1 := Lib.hid e1
      clear e1
      go_enter Try.func26, Try.ntmps26
      go_wp2_with fail
      refine hP.mono ?_
      rintro e w1 ⟨A5, c5, rfl, O5, b1⟩
      have g1 := below_quiet2 b1
      have D1 := h.disk.quiet g1
      have hcc := (h.half.quiet g1).cell0
      have hA := append_no (A2 := A5) (c2 := c5) D1 (Nat.le_trans O5.roomy.le O5.roomy.max) (by omega) f0 f1 (show ¬ ((recd k).length : Int) ≤ _ by omega)
      go_wp2_with fail
      refine hA.mono ?_
      rintro e w3 ⟨rfl, D3, g3⟩
      go_wp2_with fail
      go_ret
      refine ⟨A, c, AL, cL, xs, by rw [E1.out]; rfl, by rw [E1.out]; exact (h.quiet g1).quiet g3, by rw [E1.out]; exact Trip.quiet (grown_to g1 g3)⟩
set_option maxRecDepth 100000 in
set_option maxHeartbeats 1000000 in
theorem log_write (h : LogAt w W p d S A c AL cL xs) (hF : Fine S 300000) {B : Nat} {A2 : Option Addr} {c2 : Nat} {k : List Nat} (hk : BytesAt w B A2 k) (hB : B ≤ w.heap.size) (hne : ∀ ad, A2 = some ad → ad.block < B → ad.block ≠ d) (hr : Roomy A2 k.length c2) (hs : Small k) :
    Calls Try.prog 28 #[.pointer (some ⟨p, 0, none⟩), .slice A2 k.length c2] w fun e w' => ∃ A' c' AL' cL' xs', e = .returned (.int .i64 (putL S k).2) ∧ LogAt w' W p d (putL S k).1 A' c' AL' cL' xs' ∧ Trip (putL S k).2 w w' d p (.slice AL S.R.length cL) (.slice AL' (putL S k).1.R.length cL') := by
  have K := log_add h hF hk hB hne hr hs
  have hcase : (addL S k).2 = 0 ∨ ((addL S k).2 = 3 ∨ (addL S k).2 = 9) := by unfold addL; split <;> (try split) <;> simp
  have hu : putL S k = if (addL S k).2 = 0 then (syncL (addL S k).1, 0) else addL S k := rfl
  have HU := Lib.hid hu
  clear hu
  generalize addL S k = Z at K hcase HU
  obtain ⟨S1, z⟩ := Z
  simp only at K hcase HU
  rcases hcase with rfl | hz
  · have e1 := HU.out
    rw [if_pos rfl] at e1
    rw [e1]
    clear e1
    go_enter Try.func28, Try.ntmps28
    go_wp2_with fail
    refine K.mono ?_
    rintro e w1 ⟨A1, c1, AL1, cL1, xs1, rfl, H1, T1⟩
    have hcc := H1.cell0
    go_wp2_with fail
    refine (sync_any H1.disk).mono ?_
    rintro e w2 ⟨rfl, D2, g2⟩
    have H2 := H1.turn g2 (S' := syncL S1) rfl D2
    go_wp2_with fail
    go_ret
    exact ⟨A1, c1, AL1, cL1, xs1, rfl, H2, T1.sync g2⟩
  · have hne : z ≠ 0 := by omega
    have e1 := HU.out
    rw [if_neg hne] at e1
    rw [e1]
    have hb : (z == 0) = false := by simpa using hne
    clear e1 hz
    go_enter Try.func28, Try.ntmps28
    go_wp2_with fail
    refine K.mono ?_
    rintro e w1 ⟨A1, c1, AL1, cL1, xs1, rfl, H1, T1⟩
    go_wp2_with fail
    go_ret
    exact ⟨A1, c1, AL1, cL1, xs1, rfl, H1, T1⟩
end
end Go.Proofs.Ytkhbpaloicefdaa.Ref
