/- wal.Append, Put. -/
import Derived.Test.YtkhbpaloicefdaaLog1
namespace Go.Proofs.Ytkhbpaloicefdaa
open Go.RowKit
set_option linter.unusedVariables false
attribute [local go_sem ↓] Go.wp_at_zero Go.wp_at_succ
/-- A log but for its disk. -/
structure Half (w : World) (W p d : Nat) (R : List (List Nat)) (AL : Option Addr) (cL : Nat) (xs : List Value) : Prop where
  blk : w.heap[p]? = some (.cells #[.pointer (some ⟨d, 0, none⟩), .slice AL R.length cL] 66 (0, 0))
  list : w.ownsRow W 32 1 (.slice AL R.length cL) R.length xs
  rows : RowsIn w W xs R
section
variable {w w' : World} {W p d c cL : Nat} {S : Lg} {A AL : Option Addr} {xs : List Value} {R : List (List Nat)}
theorem LogAt.half (h : LogAt w W p d S A c AL cL xs) : Half w W p d S.R AL cL xs := ⟨h.blk, h.list, h.rows⟩
theorem Half.full (h : Half w W p d S.R AL cL xs) (hD : DiskAt w d S.r S.s A c (joined S.R)) (hf : ∀ q ∈ S.R, Small q ∧ q.length ≤ 8192) (hp : W ≤ p) (hd : W ≤ d) : LogAt w W p d S A c AL cL xs := ⟨h.blk, hD, h.list, h.rows, hf, hp, hd⟩
theorem Half.grown (h : Half w W p d R AL cL xs) {row : Option Nat} (g : w.grownBy w' row) (h1 : row ≠ some p) (h4 : (Value.slice AL R.length cL).ownBlock = none ∨ (Value.slice AL R.length cL).ownBlock ≠ row) (h5 : ∀ u ∈ xs, u.ownBlock = none ∨ u.ownBlock ≠ row) : Half w' W p d R AL cL xs :=
  ⟨(g.block p (Array.getElem?_eq_some_iff.1 h.blk).1 (fun e => h1 e.symm)).trans h.blk, World.ownsRow.kept h.list g h4, ⟨h.rows.1, fun k hk => by
    obtain ⟨A', c', e, O⟩ := h.rows.2 k hk
    exact ⟨A', c', e, O.grown g (h5 _ (List.mem_of_getElem? e))⟩⟩⟩
theorem Half.quiet (h : Half w W p d R AL cL xs) (g : w.grownBy w' none) : Half w' W p d R AL cL xs :=
  h.grown g (by simp) (by cases hv : (Value.slice AL R.length cL).ownBlock <;> simp) (fun u _ => by cases hv : u.ownBlock <;> simp)
theorem Half.rows_blk (h : Half w W p d R AL cL xs) {b : Nat} {x : Array Value} {t : TypeId} (k : w.heap[b]? = some (.cells x t (0, 0))) (hne : 5 ≠ t) : ∀ u ∈ xs, u.ownBlock = none ∨ u.ownBlock ≠ some b := by
  intro u hu
  obtain ⟨i, hi, rfl⟩ := List.getElem_of_mem hu
  obtain ⟨A', c', e, O⟩ := h.rows.2 i (by rw [← h.rows.1]; exact hi)
  rw [List.getElem?_eq_getElem hi] at e
  injection e with e
  rw [e]
  exact own_blk O k hne
/-- What is done to its disk leaves the rest alone. -/
theorem Half.beside {r s : Int} {l : List Nat} (h : Half w W p d R AL cL xs) {x : Nat} (hD : DiskAt w x r s A c l) (g : w.grownBy w' (some x)) : Half w' W p d R AL cL xs :=
  h.grown g (fun e => blk_ne h.blk hD.blk (by decide) (by injection e with e; exact e.symm)) (own_blk h.list hD.blk (by decide)) (h.rows_blk hD.blk (by decide))
theorem Half.cell0 (h : Half w W p d R AL cL xs) : w.cell? ⟨p, 0, none⟩ = some (.pointer (some ⟨d, 0, none⟩)) := by
  have := cell_of_row w p 0 _ 66 (0, 0) h.blk; simpa using this
theorem Half.cell1 (h : Half w W p d R AL cL xs) : w.cell? ⟨p, 1, none⟩ = some (.slice AL R.length cL) := by
  have := cell_of_row w p 1 _ 66 (0, 0) h.blk; simpa using this
theorem Half.free (h : Half w W p d R AL cL xs) (i : Nat) : w.frozen? ⟨p, i, none⟩ = false := by
  have := h.blk
  simp [World.frozen?, this]
/-- Another list in its place. -/
theorem half_put {u : Value} (hb : w.heap[p]? = some (.cells #[.pointer (some ⟨d, 0, none⟩), u] 66 (0, 0))) (hL : w.ownsRow W 32 1 (.slice AL R.length cL) R.length xs) (hR : RowsIn w W xs R) : Half (w.setCell ⟨p, 1, none⟩ (.slice AL R.length cL)) W p d R AL cL xs := by
  refine ⟨by simp [World.setCell, Array.getElem?_modify, hb], World.ownsRow.kept hL (set_grown w p 1 _) (own_blk hL hb (by decide)), hR.1, fun k hk => ?_⟩
  obtain ⟨A', c', e, O⟩ := hR.2 k hk
  exact ⟨A', c', e, O.grown (set_grown w p 1 _) (own_blk O hb (by decide))⟩
theorem own_blk' {base n : Nat} {e : TypeId} {v : Value} {ys : List Value} (h : w.ownsRow base e 1 v n ys) {b : Nat} {x : Array Value} {t : TypeId} (k : w.heap[b]? = some (.cells x t (0, 0))) (hne : e ≠ t) : v.ownBlock ≠ some b := by
  intro e2
  rcases own_blk h k hne with h1 | h1
  · rw [h1] at e2; cases e2
  · exact h1 e2
theorem off_lists {base n : Nat} {v : Value} {ys : List Value} {r s : Int} {l : List Nat} (h : w.ownsRow base 32 1 v n ys) (hD : DiskAt w d r s A c l) : ∀ ad, A = some ad → some ad.block ≠ v.ownBlock := fun ad e e2 => by
  obtain ⟨cur, hc⟩ := hD.off ad e
  exact own_blk' h hc (by decide) e2.symm
theorem blk_cell1 {u v : Value} {t : TypeId} (h : w.heap[p]? = some (.cells #[u, v] t (0, 0))) : w.cell? ⟨p, 1, none⟩ = some v := by
  have := cell_of_row w p 1 _ t (0, 0) h; simpa using this
theorem blk_free {x : Array Value} {t : TypeId} (h : w.heap[p]? = some (.cells x t (0, 0))) (i : Nat) : w.frozen? ⟨p, i, none⟩ = false := by simp [World.frozen?, h]
theorem slice_reads (w : World) (v : Value) : Reads (w.alloc (.cells #[v] 32)) (w.heap.size + 1) 1 (some ⟨w.heap.size, 0, none⟩) 1 [v] :=
  ⟨rfl, fun _ => ⟨_, rfl, by simp, cell_of_slice _ _⟩⟩
theorem slice_one (A : Option Addr) (n c : Nat) : ∀ u ∈ [Value.slice A n c], u.oneCell' = true := fun u hu => by (obtain rfl : u = .slice A n c := by simpa using hu); rfl
/-- What an operation of a log touches: its disk, its list's block, itself. -/
def Trip (z : Int) (w w' : World) (d p : Nat) (v v' : Value) : Prop := (∃ w1 w2 w3, w.grownBy w1 (some d) ∧ w1.grownBy w2 v.ownBlock ∧ w2.grownBy w3 (some p) ∧ w3.grownBy w' (some d) ∧ (v'.ownBlock = v.ownBlock ∨ ∀ g, v'.ownBlock = some g → w.heap.size ≤ g)) ∧ (z ≠ 0 → w.grownBy w' none)
theorem grown_row {w w' : World} {row : Option Nat} (h : w.grownBy w' none) : w.grownBy w' row := grown_to h (World.grownBy.refl _ _)
theorem Trip.quiet {z : Int} {w w' : World} {d p : Nat} {v : Value} (h : w.grownBy w' none) : Trip z w w' d p v v := ⟨⟨w', w', w', grown_row h, World.grownBy.refl _ _, World.grownBy.refl _ _, World.grownBy.refl _ _, .inl rfl⟩, fun _ => h⟩
theorem Trip.below {z : Int} {w w' : World} {d p W : Nat} {v v' : Value} (h : Trip z w w' d p v v') (hW : W ≤ w.heap.size) (hd : W ≤ d) (hp : W ≤ p) (hv : ∀ g, v.ownBlock = some g → W ≤ g) : Below W w w' := by
  obtain ⟨⟨w1, w2, w3, g1, g2, g3, g4, _⟩, _⟩ := h
  exact ((((Below.refl W w).grown g1 hW (fun k e => by injection e with e; omega)).grown g2 (Nat.le_trans hW g1.size) hv).grown g3 (Nat.le_trans hW (Nat.le_trans g1.size g2.size)) (fun k e => by injection e with e; omega)).grown g4 (Nat.le_trans hW (Nat.le_trans g1.size (Nat.le_trans g2.size g3.size))) (fun k e => by injection e with e; omega)
theorem Trip.sync {w w' w4 : World} {d p : Nat} {v v' : Value} (h : Trip 0 w w' d p v v') (g : w'.grownBy w4 (some d)) : Trip 0 w w4 d p v v' := by
  obtain ⟨⟨w1, w2, w3, g1, g2, g3, g4, h5⟩, _⟩ := h
  exact ⟨⟨w1, w2, w3, g1, g2, g3, grown_on g4 g, h5⟩, fun h => absurd rfl h⟩
theorem LogAt.lb (h : LogAt w W p d S A c AL cL xs) : ∀ g, (Value.slice AL S.R.length cL).ownBlock = some g → W ≤ g := fun g e => (World.ownsRow.lt h.list g e).1
theorem own_len (A : Option Addr) (n m c c' : Nat) : (Value.slice A n c).ownBlock = (Value.slice A m c').ownBlock := by cases A <;> rfl
theorem BytesAt.past {w w' : World} {B : Nat} {A : Option Addr} {l : List Nat} {row : Option Nat} (h : BytesAt w B A l) (hB : B ≤ w.heap.size) (g : w.grownBy w' row) (hne : ∀ ad, A = some ad → ad.block < B → some ad.block ≠ row) : BytesAt w' B A l := by
  refine ⟨h.1, fun hn => ?_⟩
  obtain ⟨ad, e, hb, hc⟩ := h.2 hn
  refine ⟨ad, e, hb, fun j u hu => g.cell (hc j u hu) ?_⟩
  rw [block_of_add]
  exact hne ad e hb
/-- The record is laid down: the log has it. -/
theorem add_done {w6 : World} {A6 A7 A9 : Option Addr} {c6 c7 c9 : Nat} {k : List Nat} {xs : List Value} (hf : ∀ q ∈ S.R, Small q ∧ q.length ≤ 8192) (hk : Small k) (hk8 : k.length ≤ 8192) (hp : W ≤ p) (hd : W ≤ d)
    (blk6 : w6.heap[p]? = some (.cells #[.pointer (some ⟨d, 0, none⟩), .slice AL S.R.length cL] 66 (0, 0))) (o6 : w6.ownsRow W 32 1 (.slice A7 (S.R.length + 1) c7) (S.R.length + 1) (xs ++ [.slice A9 k.length c9])) (R6 : RowsIn w6 W (xs ++ [.slice A9 k.length c9]) (S.R ++ [k]))
    (D6 : DiskAt w6 d S.r S.s A6 c6 (joined S.R ++ recd k)) :
    LogAt (w6.setCell ⟨p, 1, none⟩ (.slice A7 (S.R.length + 1) c7)) W p d ⟨S.r, S.s, S.R ++ [k]⟩ A6 c6 A7 c7 (xs ++ [.slice A9 k.length c9]) := by
  have hRl : (S.R ++ [k]).length = S.R.length + 1 := by simp
  have F := half_put (R := S.R ++ [k]) (AL := A7) (cL := c7) blk6 (by rw [hRl]; exact o6) R6
  rw [hRl] at F
  have D7 := D6.grown (set_grown w6 p 1 (.slice A7 (S.R.length + 1) c7)) (fun e => blk_ne blk6 D6.blk (by decide) (by injection e)) (fun ad e e2 => by
    obtain ⟨cur, hc⟩ := D6.off ad e
    exact blk_ne hc blk6 (by decide) (by injection e2))
  rw [← joined_snoc] at D7
  refine F.full D7 (fun q hq => ?_) hp hd
  rcases List.mem_append.1 hq with h1 | h1
  · exact hf q h1
  · simp at h1
    subst h1
    exact ⟨hk, hk8⟩
set_option maxRecDepth 100000 in
theorem log_long (h : LogAt w W p d S A c AL cL xs) {n : Nat} {A2 : Option Addr} {c2 : Nat} (h8 : 8192 < n) (hm : n ≤ maxLen) :
    Calls Try.prog 12 #[.pointer (some ⟨p, 0, none⟩), .slice A2 n c2] w fun e w' => e = .returned (.int .i64 3) ∧ w = w' := by
  have hP := put_no A2 c2 n w h8 hm
  go_enter Try.func12, Try.ntmps12
  go_wp2_with fail
  refine hP.mono ?_
  rintro e w1 ⟨rfl, rfl⟩
  go_wp2_with fail
  go_ret
  exact ⟨rfl, rfl⟩
set_option maxRecDepth 100000 in
set_option maxHeartbeats 4000000 in
theorem log_add (h : LogAt w W p d S A c AL cL xs) (hF : Fine S 300000) {B : Nat} {A2 : Option Addr} {c2 : Nat} {k : List Nat} (hk : BytesAt w B A2 k) (hB : B ≤ w.heap.size) (hne : ∀ ad, A2 = some ad → ad.block < B → ad.block ≠ d) (hr : Roomy A2 k.length c2) (hs : Small k) :
    Calls Try.prog 12 #[.pointer (some ⟨p, 0, none⟩), .slice A2 k.length c2] w fun e w' => ∃ A' c' AL' cL' xs', e = .returned (.int .i64 (addL S k).2) ∧ LogAt w' W p d (addL S k).1 A' c' AL' cL' xs' ∧ Trip (addL S k).2 w w' d p (.slice AL S.R.length cL) (.slice AL' (addL S k).1.R.length cL') := by
  obtain ⟨f0, f1, f2, f3⟩ := hF
  have hWw : W ≤ w.heap.size := Nat.le_trans h.wp (Nat.le_of_lt h.lt)
  by_cases h8 : 8192 < k.length
  · have e1 : addL S k = (S, 3) := if_pos h8
    rw [e1]
    refine (log_long h h8 (Nat.le_trans hr.le hr.max)).mono ?_
    rintro e w1 ⟨rfl, rfl⟩
    exact ⟨A, c, AL, cL, xs, rfl, h, Trip.quiet (World.grownBy.refl _ _)⟩
  · have hP := put_yes A2 c2 B k w hk hB hs (by omega)
    have hrl := recd_length k
    by_cases hfit : (k.length : Int) + 6 ≤ S.r - (joined S.R).length
    · have e1 : addL S k = (⟨S.r, S.s, S.R ++ [k]⟩, 0) := (if_neg h8).trans (if_pos hfit)
      have E1 := Lib.hid e1
      obtain ⟨i0, hi, hz0, hz1, hz2⟩ := info_parts list_row
      have hR1 : 6 * S.R.length ≤ 300000 := Nat.le_trans (joined_len S.R) f3
      clear e1
      go_enter Try.func12, Try.ntmps12
      go_wp2_with fail
      refine hP.mono ?_
      rintro e w1 ⟨A5, c5, rfl, O5, b1⟩
      have g1 := below_quiet2 b1
      have H1 := h.half.quiet g1
      have D1 := h.disk.quiet g1
      have hcc := H1.cell0
      have hA := append_new D1 O5.reads (Nat.le_refl _) O5.roomy (recd_small hs (by omega)) (by omega) (by omega) f0 f1 (by omega)
      go_wp2_with fail
      refine hA.mono ?_
      rintro e w3 ⟨A6, c6, rfl, D3, g3, F3⟩
      have H3 := H1.beside D1 g3
      have g03 := grown_to g1 g3
      have b3 : Below W w w3 := (Below.refl W w).grown g03 hWw (fun k e => by injection e with e; have := h.wd; omega)
      have hk3 := hk.past hB g03 (fun ad e hb e2 => hne ad e hb (by injection e2))
      have hW3 := Nat.le_trans hWw b3.size
      have hB3 : B ≤ w3.heap.size := Nat.le_trans hB g03.size
      clear hP hA H1 D1 O5 hcc b1 g1 g3
      have H3' := H3.quiet (drew_one w3)
      have D3' := D3.quiet (drew_one w3)
      have hk3' : BytesAt w3.drew B A2 k := hk3
      have hK9 := clone_all A2 c2 B k w3.drew hk3' hr (by omega)
      have hc1 := H3'.cell1
      have hc1' := H3.cell1
      have GD := Lib.hid (fun (w4 w6 : World) (o : Obj) (row : Option Nat) (g4 : w3.drew.grownBy w4 none) (g6 : (w4.alloc o).grownBy w6 row) => grown_to (drew_one w3) (grown_to g4 (grown_to (alloc_grown w4 o) g6)))
      have h63 : S.R.length + 1 ≤ maxLen := by unfold maxLen; omega
      have h47 : (S.R.length + 1) * 24 ≤ 140737488355328 := by omega
      have hW3' : W ≤ w3.drew.heap.size := hW3
      go_wp2_with fail
      -- REGION
      refine wp_region_held_drew (S := fun _ => True) (by kernel_rfl) trivial (fun _ => ?_)
      refine wpAnyH_take (i := 0) (oi := { dst := some 22, op := Op.move (Operand.tmp 0), type := 29, pos := "wal.go:33", after := #[], guard := none }) (v := ?_) rfl (by kernel_rfl) (by kernel_rfl) (by kernel_rfl) (fun _ _ _ h => h) (Or.inl ⟨by rfl, ?_⟩) (by trivial) ?_
      rotate_left
      (focus (intro w hSw; go_simp <;> with_reducible rfl))
      try simp only [Act.put, List.setIfInBounds_toArray, List.set_cons_zero, List.set_cons_succ]
      refine wpAnyH_take (i := 1) (oi := { dst := some 23, op := Op.move (Operand.tmp 0), type := 29, pos := "wal.go:33", after := #[], guard := none }) (v := ?_) rfl (by kernel_rfl) (by kernel_rfl) (by kernel_rfl) (fun _ _ _ h => h) (Or.inl ⟨by rfl, ?_⟩) (by trivial) ?_
      rotate_left
      (focus (intro w hSw; go_simp <;> with_reducible rfl))
      try simp only [Act.put, List.setIfInBounds_toArray, List.set_cons_zero, List.set_cons_succ]
      refine wpAnyH_take (i := 2) (oi := { dst := some 24, op := Op.nilCheck (Operand.tmp 23), type := 0, pos := "wal.go:33", after := #[{ on := 1, ground := Ground.data }], guard := none }) (v := ?_) rfl (by kernel_rfl) (by kernel_rfl) (by kernel_rfl) (fun _ _ _ h => h) (Or.inl ⟨by rfl, ?_⟩) (by trivial) ?_
      rotate_left
      (focus (intro w hSw; go_simp <;> with_reducible rfl))
      try simp only [Act.put, List.setIfInBounds_toArray, List.set_cons_zero, List.set_cons_succ]
      refine wpAnyH_take (i := 3) (oi := { dst := some 25, op := Op.fieldAddr 66 (Operand.tmp 24) 1, type := 0, pos := "wal.go:33", after := #[{ on := 2, ground := Ground.data }], guard := none }) (v := ?_) rfl (by kernel_rfl) (by kernel_rfl) (by kernel_rfl) (fun _ _ _ h => h) (Or.inl ⟨by rfl, ?_⟩) (by trivial) ?_
      rotate_left
      (focus (intro w hSw; go_simp <;> with_reducible rfl))
      try simp only [Act.put, List.setIfInBounds_toArray, List.set_cons_zero, List.set_cons_succ]
      refine wpAnyH_take (i := 5) (oi := { dst := some 27, op := Op.move (Operand.tmp 1), type := 32, pos := "wal.go:33", after := #[], guard := none }) (v := ?_) rfl (by kernel_rfl) (by kernel_rfl) (by kernel_rfl) (fun _ _ _ h => h) (Or.inl ⟨by rfl, ?_⟩) (by trivial) ?_
      rotate_left
      (focus (intro w hSw; go_simp <;> with_reducible rfl))
      try simp only [Act.put, List.setIfInBounds_toArray, List.set_cons_zero, List.set_cons_succ]
      refine wpAnyH_ready (rs := [4, 6]) (by kernel_rfl) (by simp) ?_
      refine AllReadyH.cons (o := { dst := some 26, op := Op.load 33 (Operand.tmp 25), type := 33, pos := "wal.go:33", after := #[{ on := 3, ground := Ground.data }], guard := none }) rfl (fun K hK => ?_) (AllReadyH.cons (o := { dst := some 28, op := Op.call { callee := Callee.value (Operand.func 37), args := #[Operand.tmp 27], argTypes := #[32] }, type := 32, pos := "wal.go:33", after := #[{ on := 5, ground := Ground.data }], guard := none }) rfl (fun K hK => ?_) (AllReadyH.nil))
      · go_simp
        go_wp2_with fail
        refine hK.out _ _ trivial (fun _ => ?_)
        clear hK K
        try simp only [Act.put, List.setIfInBounds_toArray, List.set_cons_zero, List.set_cons_succ]
        refine wpAnyH_ready (rs := [6]) (by kernel_rfl) (by simp) ?_
        refine AllReadyH.cons (o := { dst := some 28, op := Op.call { callee := Callee.value (Operand.func 37), args := #[Operand.tmp 27], argTypes := #[32] }, type := 32, pos := "wal.go:33", after := #[{ on := 5, ground := Ground.data }], guard := none }) rfl (fun K hK => ?_) (AllReadyH.nil)
        go_simp
        go_at_call 37; refine hK9.mono ?_; rintro e w4 ⟨A9, c9, rfl, O9, b4⟩; have g4 := below_quiet2 b4; have H4 := H3'.quiet g4; have D4 := D3'.quiet g4; have hW4 := Nat.le_trans hW3' b4.size; have H5 := H4.quiet (alloc_grown w4 (.cells #[.slice A9 k.length c9] 32)); have D5 := D4.quiet (alloc_grown w4 (.cells #[.slice A9 k.length c9] 32)); have O9a := (O9.alloc (.cells #[.slice A9 k.length c9] 32)).mono hW3'; have nw := slice_reads w4 (.slice A9 k.length c9); have one9 := slice_one A9 k.length c9; have c14 := H4.cell1; have c15 := H5.cell1; have hW5 : W ≤ (w4.alloc (.cells #[.slice A9 k.length c9] 32)).heap.size := Nat.le_trans hW4 (by simp)
        go_wp2_with fail
        refine hK.out _ _ trivial (fun _ => ?_)
        clear hK K
        try simp only [Act.put, List.setIfInBounds_toArray, List.set_cons_zero, List.set_cons_succ]
        refine wpAnyH_ready (rs := [7]) (by kernel_rfl) (by simp) ?_
        refine AllReadyH.cons (o := { dst := some 29, op := Op.buildSlice 33 1 #[(0, Operand.tmp 28)], type := 33, pos := "wal.go:33", after := #[{ on := 6, ground := Ground.data }], guard := none }) rfl (fun K hK => ?_) (AllReadyH.nil)
        go_simp
        go_wp2_with fail
        refine hK.out _ _ trivial (fun _ => ?_)
        clear hK K
        try simp only [Act.put, List.setIfInBounds_toArray, List.set_cons_zero, List.set_cons_succ]
        refine wpAnyH_ready (rs := [8]) (by kernel_rfl) (by simp) ?_
        refine AllReadyH.cons (o := { dst := some 30, op := Op.call { callee := Callee.builtin Builtin.append, args := #[Operand.tmp 26, Operand.tmp 29], argTypes := #[33, 33] }, type := 33, pos := "wal.go:33", after := #[{ on := 4, ground := Ground.data }, { on := 7, ground := Ground.data }, { on := 6, ground := Ground.chain }], guard := none }) rfl (fun K hK => ?_) (AllReadyH.nil)
        refine step_append_any _ rfl (.tmp 26) (.tmp 29) 33 rfl W 32 i0 _ 1 24 Try.underlying33 hi hz0 hz1 hz2 rfl (by omega) _ _ _ (by rfl) H5.list _ _ _ _ _ (by rfl) nw one9 h63 h47 hW5 ?_; intro v6 w6 o6 g6 at6; have blk6 := (g6.block p (Array.getElem?_eq_some_iff.1 H5.blk).1 (Ne.symm (own_blk' H5.list H5.blk (by decide)))).trans H5.blk; have R6 := (H5.rows.grown H5.list g6).snoc (O9a.grown g6 (own_ne_lists O9a H5.list)); have D6 := D5.grown g6 (own_blk' H5.list D5.blk (by decide)) (off_lists H5.list D5); obtain ⟨A7, c7, rfl⟩ := lists_form o6; have c16 := blk_cell1 blk6; have f16 := blk_free blk6 1
        refine hK.out _ _ trivial (fun _ => ?_)
        clear hK K
        try simp only [Act.put, List.setIfInBounds_toArray, List.set_cons_zero, List.set_cons_succ]
        refine wpAnyH_take (i := 9) (oi := { dst := some 31, op := Op.nilCheck (Operand.tmp 22), type := 0, pos := "wal.go:33", after := #[{ on := 0, ground := Ground.data }, { on := 0, ground := Ground.phase }, { on := 1, ground := Ground.phase }, { on := 2, ground := Ground.phase }, { on := 3, ground := Ground.phase }, { on := 4, ground := Ground.phase }, { on := 5, ground := Ground.phase }, { on := 6, ground := Ground.phase }, { on := 7, ground := Ground.phase }, { on := 8, ground := Ground.phase }], guard := none }) (v := ?_) rfl (by kernel_rfl) (by kernel_rfl) (by kernel_rfl) (fun _ _ _ h => h) (Or.inl ⟨by rfl, ?_⟩) (by trivial) ?_
        rotate_left
        (focus (intro w hSw; go_simp <;> with_reducible rfl))
        try simp only [Act.put, List.setIfInBounds_toArray, List.set_cons_zero, List.set_cons_succ]
        refine wpAnyH_take (i := 10) (oi := { dst := some 32, op := Op.fieldAddr 66 (Operand.tmp 31) 1, type := 0, pos := "wal.go:33", after := #[{ on := 9, ground := Ground.data }, { on := 0, ground := Ground.phase }, { on := 1, ground := Ground.phase }, { on := 2, ground := Ground.phase }, { on := 3, ground := Ground.phase }, { on := 4, ground := Ground.phase }, { on := 5, ground := Ground.phase }, { on := 6, ground := Ground.phase }, { on := 7, ground := Ground.phase }, { on := 8, ground := Ground.phase }], guard := none }) (v := ?_) rfl (by kernel_rfl) (by kernel_rfl) (by kernel_rfl) (fun _ _ _ h => h) (Or.inl ⟨by rfl, ?_⟩) (by trivial) ?_
        rotate_left
        (focus (intro w hSw; go_simp <;> with_reducible rfl))
        try simp only [Act.put, List.setIfInBounds_toArray, List.set_cons_zero, List.set_cons_succ]
        refine wpAnyH_ready (rs := [11]) (by kernel_rfl) (by simp) ?_
        refine AllReadyH.cons (o := { dst := none, op := Op.store 33 (Operand.tmp 32) (Operand.tmp 30), type := 0, pos := "wal.go:33", after := #[{ on := 10, ground := Ground.data }, { on := 8, ground := Ground.data }, { on := 8, ground := Ground.chain }, { on := 0, ground := Ground.phase }, { on := 1, ground := Ground.phase }, { on := 2, ground := Ground.phase }, { on := 3, ground := Ground.phase }, { on := 4, ground := Ground.phase }, { on := 5, ground := Ground.phase }, { on := 6, ground := Ground.phase }, { on := 7, ground := Ground.phase }, { on := 8, ground := Ground.phase }], guard := none }) rfl (fun K hK => ?_) (AllReadyH.nil)
        go_simp
        go_wp2_with fail
        refine hK.out _ _ trivial (fun _ => ?_)
        clear hK K
        try simp only [Act.put, List.setIfInBounds_toArray, List.set_cons_zero, List.set_cons_succ]
        refine wpAnyH_done (by kernel_rfl) ?_ _
        go_wp2_with fail
        go_ret
        refine ⟨A6, c6, A7, c7, _, by rw [E1.out]; rfl, by rw [E1.out]; exact add_done h.few hs (by omega) h.wp h.wd blk6 o6 R6 D6, ⟨w3, w6, _, g03, GD.out w4 w6 _ _ g4 g6, set_grown _ _ _ _, World.grownBy.refl _ _, ?_⟩, fun hz => absurd (by rw [E1.out]) hz⟩
        rw [own_len A7 _ (S.R.length + 1) c7 c7]
        rcases at6 with at6 | at6
        · exact .inl at6
        · refine .inr fun g hg => ?_
          have e3 := at6.symm.trans hg
          injection e3 with e3
          have := b4.size
          have := g03.size
          have e4 : w3.drew.heap.size = w3.heap.size := rfl
          simp at e3
          omega
      · go_simp
        go_at_call 37; refine hK9.mono ?_; rintro e w4 ⟨A9, c9, rfl, O9, b4⟩; have g4 := below_quiet2 b4; have H4 := H3'.quiet g4; have D4 := D3'.quiet g4; have hW4 := Nat.le_trans hW3' b4.size; have H5 := H4.quiet (alloc_grown w4 (.cells #[.slice A9 k.length c9] 32)); have D5 := D4.quiet (alloc_grown w4 (.cells #[.slice A9 k.length c9] 32)); have O9a := (O9.alloc (.cells #[.slice A9 k.length c9] 32)).mono hW3'; have nw := slice_reads w4 (.slice A9 k.length c9); have one9 := slice_one A9 k.length c9; have c14 := H4.cell1; have c15 := H5.cell1; have hW5 : W ≤ (w4.alloc (.cells #[.slice A9 k.length c9] 32)).heap.size := Nat.le_trans hW4 (by simp)
        go_wp2_with fail
        refine hK.out _ _ trivial (fun _ => ?_)
        clear hK K
        try simp only [Act.put, List.setIfInBounds_toArray, List.set_cons_zero, List.set_cons_succ]
        refine wpAnyH_ready (rs := [4, 7]) (by kernel_rfl) (by simp) ?_
        refine AllReadyH.cons (o := { dst := some 26, op := Op.load 33 (Operand.tmp 25), type := 33, pos := "wal.go:33", after := #[{ on := 3, ground := Ground.data }], guard := none }) rfl (fun K hK => ?_) (AllReadyH.cons (o := { dst := some 29, op := Op.buildSlice 33 1 #[(0, Operand.tmp 28)], type := 33, pos := "wal.go:33", after := #[{ on := 6, ground := Ground.data }], guard := none }) rfl (fun K hK => ?_) (AllReadyH.nil))
        · go_simp
          go_wp2_with fail
          refine hK.out _ _ trivial (fun _ => ?_)
          clear hK K
          try simp only [Act.put, List.setIfInBounds_toArray, List.set_cons_zero, List.set_cons_succ]
          refine wpAnyH_ready (rs := [7]) (by kernel_rfl) (by simp) ?_
          refine AllReadyH.cons (o := { dst := some 29, op := Op.buildSlice 33 1 #[(0, Operand.tmp 28)], type := 33, pos := "wal.go:33", after := #[{ on := 6, ground := Ground.data }], guard := none }) rfl (fun K hK => ?_) (AllReadyH.nil)
          go_simp
          go_wp2_with fail
          refine hK.out _ _ trivial (fun _ => ?_)
          clear hK K
          try simp only [Act.put, List.setIfInBounds_toArray, List.set_cons_zero, List.set_cons_succ]
          refine wpAnyH_ready (rs := [8]) (by kernel_rfl) (by simp) ?_
          refine AllReadyH.cons (o := { dst := some 30, op := Op.call { callee := Callee.builtin Builtin.append, args := #[Operand.tmp 26, Operand.tmp 29], argTypes := #[33, 33] }, type := 33, pos := "wal.go:33", after := #[{ on := 4, ground := Ground.data }, { on := 7, ground := Ground.data }, { on := 6, ground := Ground.chain }], guard := none }) rfl (fun K hK => ?_) (AllReadyH.nil)
          refine step_append_any _ rfl (.tmp 26) (.tmp 29) 33 rfl W 32 i0 _ 1 24 Try.underlying33 hi hz0 hz1 hz2 rfl (by omega) _ _ _ (by rfl) H5.list _ _ _ _ _ (by rfl) nw one9 h63 h47 hW5 ?_; intro v6 w6 o6 g6 at6; have blk6 := (g6.block p (Array.getElem?_eq_some_iff.1 H5.blk).1 (Ne.symm (own_blk' H5.list H5.blk (by decide)))).trans H5.blk; have R6 := (H5.rows.grown H5.list g6).snoc (O9a.grown g6 (own_ne_lists O9a H5.list)); have D6 := D5.grown g6 (own_blk' H5.list D5.blk (by decide)) (off_lists H5.list D5); obtain ⟨A7, c7, rfl⟩ := lists_form o6; have c16 := blk_cell1 blk6; have f16 := blk_free blk6 1
          refine hK.out _ _ trivial (fun _ => ?_)
          clear hK K
          try simp only [Act.put, List.setIfInBounds_toArray, List.set_cons_zero, List.set_cons_succ]
          refine wpAnyH_take (i := 9) (oi := { dst := some 31, op := Op.nilCheck (Operand.tmp 22), type := 0, pos := "wal.go:33", after := #[{ on := 0, ground := Ground.data }, { on := 0, ground := Ground.phase }, { on := 1, ground := Ground.phase }, { on := 2, ground := Ground.phase }, { on := 3, ground := Ground.phase }, { on := 4, ground := Ground.phase }, { on := 5, ground := Ground.phase }, { on := 6, ground := Ground.phase }, { on := 7, ground := Ground.phase }, { on := 8, ground := Ground.phase }], guard := none }) (v := ?_) rfl (by kernel_rfl) (by kernel_rfl) (by kernel_rfl) (fun _ _ _ h => h) (Or.inl ⟨by rfl, ?_⟩) (by trivial) ?_
          rotate_left
          (focus (intro w hSw; go_simp <;> with_reducible rfl))
          try simp only [Act.put, List.setIfInBounds_toArray, List.set_cons_zero, List.set_cons_succ]
          refine wpAnyH_take (i := 10) (oi := { dst := some 32, op := Op.fieldAddr 66 (Operand.tmp 31) 1, type := 0, pos := "wal.go:33", after := #[{ on := 9, ground := Ground.data }, { on := 0, ground := Ground.phase }, { on := 1, ground := Ground.phase }, { on := 2, ground := Ground.phase }, { on := 3, ground := Ground.phase }, { on := 4, ground := Ground.phase }, { on := 5, ground := Ground.phase }, { on := 6, ground := Ground.phase }, { on := 7, ground := Ground.phase }, { on := 8, ground := Ground.phase }], guard := none }) (v := ?_) rfl (by kernel_rfl) (by kernel_rfl) (by kernel_rfl) (fun _ _ _ h => h) (Or.inl ⟨by rfl, ?_⟩) (by trivial) ?_
          rotate_left
          (focus (intro w hSw; go_simp <;> with_reducible rfl))
          try simp only [Act.put, List.setIfInBounds_toArray, List.set_cons_zero, List.set_cons_succ]
          refine wpAnyH_ready (rs := [11]) (by kernel_rfl) (by simp) ?_
          refine AllReadyH.cons (o := { dst := none, op := Op.store 33 (Operand.tmp 32) (Operand.tmp 30), type := 0, pos := "wal.go:33", after := #[{ on := 10, ground := Ground.data }, { on := 8, ground := Ground.data }, { on := 8, ground := Ground.chain }, { on := 0, ground := Ground.phase }, { on := 1, ground := Ground.phase }, { on := 2, ground := Ground.phase }, { on := 3, ground := Ground.phase }, { on := 4, ground := Ground.phase }, { on := 5, ground := Ground.phase }, { on := 6, ground := Ground.phase }, { on := 7, ground := Ground.phase }, { on := 8, ground := Ground.phase }], guard := none }) rfl (fun K hK => ?_) (AllReadyH.nil)
          go_simp
          go_wp2_with fail
          refine hK.out _ _ trivial (fun _ => ?_)
          clear hK K
          try simp only [Act.put, List.setIfInBounds_toArray, List.set_cons_zero, List.set_cons_succ]
          refine wpAnyH_done (by kernel_rfl) ?_ _
          go_wp2_with fail
          go_ret
          refine ⟨A6, c6, A7, c7, _, by rw [E1.out]; rfl, by rw [E1.out]; exact add_done h.few hs (by omega) h.wp h.wd blk6 o6 R6 D6, ⟨w3, w6, _, g03, GD.out w4 w6 _ _ g4 g6, set_grown _ _ _ _, World.grownBy.refl _ _, ?_⟩, fun hz => absurd (by rw [E1.out]) hz⟩
          rw [own_len A7 _ (S.R.length + 1) c7 c7]
          rcases at6 with at6 | at6
          · exact .inl at6
          · refine .inr fun g hg => ?_
            have e3 := at6.symm.trans hg
            injection e3 with e3
            have := b4.size
            have := g03.size
            have e4 : w3.drew.heap.size = w3.heap.size := rfl
            simp at e3
            omega
        · go_simp
          go_wp2_with fail
          refine hK.out _ _ trivial (fun _ => ?_)
          clear hK K
          try simp only [Act.put, List.setIfInBounds_toArray, List.set_cons_zero, List.set_cons_succ]
          refine wpAnyH_ready (rs := [4]) (by kernel_rfl) (by simp) ?_
          refine AllReadyH.cons (o := { dst := some 26, op := Op.load 33 (Operand.tmp 25), type := 33, pos := "wal.go:33", after := #[{ on := 3, ground := Ground.data }], guard := none }) rfl (fun K hK => ?_) (AllReadyH.nil)
          go_simp
          go_wp2_with fail
          refine hK.out _ _ trivial (fun _ => ?_)
          clear hK K
          try simp only [Act.put, List.setIfInBounds_toArray, List.set_cons_zero, List.set_cons_succ]
          refine wpAnyH_ready (rs := [8]) (by kernel_rfl) (by simp) ?_
          refine AllReadyH.cons (o := { dst := some 30, op := Op.call { callee := Callee.builtin Builtin.append, args := #[Operand.tmp 26, Operand.tmp 29], argTypes := #[33, 33] }, type := 33, pos := "wal.go:33", after := #[{ on := 4, ground := Ground.data }, { on := 7, ground := Ground.data }, { on := 6, ground := Ground.chain }], guard := none }) rfl (fun K hK => ?_) (AllReadyH.nil)
          refine step_append_any _ rfl (.tmp 26) (.tmp 29) 33 rfl W 32 i0 _ 1 24 Try.underlying33 hi hz0 hz1 hz2 rfl (by omega) _ _ _ (by rfl) H5.list _ _ _ _ _ (by rfl) nw one9 h63 h47 hW5 ?_; intro v6 w6 o6 g6 at6; have blk6 := (g6.block p (Array.getElem?_eq_some_iff.1 H5.blk).1 (Ne.symm (own_blk' H5.list H5.blk (by decide)))).trans H5.blk; have R6 := (H5.rows.grown H5.list g6).snoc (O9a.grown g6 (own_ne_lists O9a H5.list)); have D6 := D5.grown g6 (own_blk' H5.list D5.blk (by decide)) (off_lists H5.list D5); obtain ⟨A7, c7, rfl⟩ := lists_form o6; have c16 := blk_cell1 blk6; have f16 := blk_free blk6 1
          refine hK.out _ _ trivial (fun _ => ?_)
          clear hK K
          try simp only [Act.put, List.setIfInBounds_toArray, List.set_cons_zero, List.set_cons_succ]
          refine wpAnyH_take (i := 9) (oi := { dst := some 31, op := Op.nilCheck (Operand.tmp 22), type := 0, pos := "wal.go:33", after := #[{ on := 0, ground := Ground.data }, { on := 0, ground := Ground.phase }, { on := 1, ground := Ground.phase }, { on := 2, ground := Ground.phase }, { on := 3, ground := Ground.phase }, { on := 4, ground := Ground.phase }, { on := 5, ground := Ground.phase }, { on := 6, ground := Ground.phase }, { on := 7, ground := Ground.phase }, { on := 8, ground := Ground.phase }], guard := none }) (v := ?_) rfl (by kernel_rfl) (by kernel_rfl) (by kernel_rfl) (fun _ _ _ h => h) (Or.inl ⟨by rfl, ?_⟩) (by trivial) ?_
          rotate_left
          (focus (intro w hSw; go_simp <;> with_reducible rfl))
          try simp only [Act.put, List.setIfInBounds_toArray, List.set_cons_zero, List.set_cons_succ]
          refine wpAnyH_take (i := 10) (oi := { dst := some 32, op := Op.fieldAddr 66 (Operand.tmp 31) 1, type := 0, pos := "wal.go:33", after := #[{ on := 9, ground := Ground.data }, { on := 0, ground := Ground.phase }, { on := 1, ground := Ground.phase }, { on := 2, ground := Ground.phase }, { on := 3, ground := Ground.phase }, { on := 4, ground := Ground.phase }, { on := 5, ground := Ground.phase }, { on := 6, ground := Ground.phase }, { on := 7, ground := Ground.phase }, { on := 8, ground := Ground.phase }], guard := none }) (v := ?_) rfl (by kernel_rfl) (by kernel_rfl) (by kernel_rfl) (fun _ _ _ h => h) (Or.inl ⟨by rfl, ?_⟩) (by trivial) ?_
          rotate_left
          (focus (intro w hSw; go_simp <;> with_reducible rfl))
          try simp only [Act.put, List.setIfInBounds_toArray, List.set_cons_zero, List.set_cons_succ]
          refine wpAnyH_ready (rs := [11]) (by kernel_rfl) (by simp) ?_
          refine AllReadyH.cons (o := { dst := none, op := Op.store 33 (Operand.tmp 32) (Operand.tmp 30), type := 0, pos := "wal.go:33", after := #[{ on := 10, ground := Ground.data }, { on := 8, ground := Ground.data }, { on := 8, ground := Ground.chain }, { on := 0, ground := Ground.phase }, { on := 1, ground := Ground.phase }, { on := 2, ground := Ground.phase }, { on := 3, ground := Ground.phase }, { on := 4, ground := Ground.phase }, { on := 5, ground := Ground.phase }, { on := 6, ground := Ground.phase }, { on := 7, ground := Ground.phase }, { on := 8, ground := Ground.phase }], guard := none }) rfl (fun K hK => ?_) (AllReadyH.nil)
          go_simp
          go_wp2_with fail
          refine hK.out _ _ trivial (fun _ => ?_)
          clear hK K
          try simp only [Act.put, List.setIfInBounds_toArray, List.set_cons_zero, List.set_cons_succ]
          refine wpAnyH_done (by kernel_rfl) ?_ _
          go_wp2_with fail
          go_ret
          refine ⟨A6, c6, A7, c7, _, by rw [E1.out]; rfl, by rw [E1.out]; exact add_done h.few hs (by omega) h.wp h.wd blk6 o6 R6 D6, ⟨w3, w6, _, g03, GD.out w4 w6 _ _ g4 g6, set_grown _ _ _ _, World.grownBy.refl _ _, ?_⟩, fun hz => absurd (by rw [E1.out]) hz⟩
          rw [own_len A7 _ (S.R.length + 1) c7 c7]
          rcases at6 with at6 | at6
          · exact .inl at6
          · refine .inr fun g hg => ?_
            have e3 := at6.symm.trans hg
            injection e3 with e3
            have := b4.size
            have := g03.size
            have e4 : w3.drew.heap.size = w3.heap.size := rfl
            simp at e3
            omega
      -- END
    · have e1 : addL S k = (S, 9) := (if_neg h8).trans (if_neg hfit)
      have E1 := Lib.hid e1
      clear e1
      go_enter Try.func12, Try.ntmps12
      go_wp2_with fail
      refine hP.mono ?_
      rintro e w1 ⟨A5, c5, rfl, O5, b1⟩
      have g1 := below_quiet2 b1
      have D1 := h.disk.quiet g1
      have hcc := (h.half.quiet g1).cell0
      have hA := append_no (A2 := A5) (c2 := c5) D1 (Nat.le_trans O5.roomy.le O5.roomy.max) (by omega) f0 f1 (show ¬ ((recd k).length : Int) ≤ _ by omega)
      go_wp2_with fail
      refine hA.mono ?_
      rintro e w3 ⟨rfl, D3, g3⟩
      go_wp2_with fail
      go_ret
      refine ⟨A, c, AL, cL, xs, by rw [E1.out]; rfl, by rw [E1.out]; exact (h.quiet g1).quiet g3, by rw [E1.out]; exact Trip.quiet (grown_to g1 g3)⟩
set_option maxRecDepth 100000 in
set_option maxHeartbeats 1000000 in
theorem log_put (h : LogAt w W p d S A c AL cL xs) (hF : Fine S 300000) {B : Nat} {A2 : Option Addr} {c2 : Nat} {k : List Nat} (hk : BytesAt w B A2 k) (hB : B ≤ w.heap.size) (hne : ∀ ad, A2 = some ad → ad.block < B → ad.block ≠ d) (hr : Roomy A2 k.length c2) (hs : Small k) :
    Calls Try.prog 15 #[.pointer (some ⟨p, 0, none⟩), .slice A2 k.length c2] w fun e w' => ∃ A' c' AL' cL' xs', e = .returned (.int .i64 (putL S k).2) ∧ LogAt w' W p d (putL S k).1 A' c' AL' cL' xs' ∧ Trip (putL S k).2 w w' d p (.slice AL S.R.length cL) (.slice AL' (putL S k).1.R.length cL') := by
  have K := log_add h hF hk hB hne hr hs
  have hcase : (addL S k).2 = 0 ∨ ((addL S k).2 = 3 ∨ (addL S k).2 = 9) := by unfold addL; split <;> (try split) <;> simp
  have hu : putL S k = if (addL S k).2 = 0 then (syncL (addL S k).1, 0) else addL S k := rfl
  have HU := Lib.hid hu
  clear hu
  generalize addL S k = Z at K hcase HU
  obtain ⟨S1, z⟩ := Z
  simp only at K hcase HU
  rcases hcase with rfl | hz
  · have e1 := HU.out
    rw [if_pos rfl] at e1
    rw [e1]
    clear e1
    go_enter Try.func15, Try.ntmps15
    go_wp2_with fail
    refine K.mono ?_
    rintro e w1 ⟨A1, c1, AL1, cL1, xs1, rfl, H1, T1⟩
    go_wp2_with fail
    refine (log_sync H1).mono ?_
    rintro e w2 ⟨rfl, H2, g2⟩
    go_wp2_with fail
    go_ret
    exact ⟨A1, c1, AL1, cL1, xs1, rfl, H2, T1.sync g2⟩
  · have hne : z ≠ 0 := by omega
    have e1 := HU.out
    rw [if_neg hne] at e1
    rw [e1]
    have hb : (z == 0) = false := by simpa using hne
    clear e1 hz
    go_enter Try.func15, Try.ntmps15
    go_wp2_with fail
    refine K.mono ?_
    rintro e w1 ⟨A1, c1, AL1, cL1, xs1, rfl, H1, T1⟩
    go_wp2_with fail
    go_ret
    exact ⟨A1, c1, AL1, cL1, xs1, rfl, H1, T1⟩
set_option maxRecDepth 100000 in
theorem log_put_long (h : LogAt w W p d S A c AL cL xs) {n : Nat} {A2 : Option Addr} {c2 : Nat} (h8 : 8192 < n) (hm : n ≤ maxLen) :
    Calls Try.prog 15 #[.pointer (some ⟨p, 0, none⟩), .slice A2 n c2] w fun e w' => e = .returned (.int .i64 3) ∧ w = w' := by
  have K := log_long h (A2 := A2) (c2 := c2) h8 hm
  go_enter Try.func15, Try.ntmps15
  go_wp2_with fail
  refine K.mono ?_
  rintro e w1 ⟨rfl, rfl⟩
  go_wp2_with fail
  go_ret
  exact ⟨rfl, rfl⟩
end
end Go.Proofs.Ytkhbpaloicefdaa
