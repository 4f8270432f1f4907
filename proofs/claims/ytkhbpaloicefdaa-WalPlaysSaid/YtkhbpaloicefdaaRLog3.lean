/- The document's log: Checkpoint. -/
import Derived.Test.YtkhbpaloicefdaaRLog2
import Derived.Test.YtkhbpaloicefdaaBack1
namespace Go.Proofs.Ytkhbpaloicefdaa.Ref
open Go.RowKit
set_option linter.unusedVariables false
attribute [local go_sem ↓] Go.wp_at_zero Go.wp_at_succ
theorem apart_sym {a b : Option Nat} (h : a = none ∨ a ≠ b) : b = none ∨ b ≠ a := by
  cases b with
  | none => exact .inl rfl
  | some g =>
    refine .inr fun e => ?_
    rcases h with h | h
    · rw [h] at e; cases e
    · exact h e.symm
/-- A row made before lies apart from what an append has made of another one. -/
theorem apart_after {w : World} {base : Nat} {x v v' : Value} {l : List Nat} (h : x.ownBlock = none ∨ x.ownBlock ≠ v.ownBlock) (at_ : v'.ownBlock = v.ownBlock ∨ v'.ownBlock = some w.heap.size) (O : Own w base x l) : x.ownBlock = none ∨ x.ownBlock ≠ v'.ownBlock := by
  rcases at_ with e | e
  · rw [e]; exact h
  · rw [e]
    cases hx : x.ownBlock with
    | none => exact .inl rfl
    | some g =>
      refine .inr fun e2 => ?_
      have h1 := (World.ownsRow.lt O g hx).2
      injection e2 with e2
      omega
theorem own_quiet {w w' : World} {base : Nat} {v : Value} {l : List Nat} (h : Own w base v l) (g : w.grownBy w' none) : Own w' base v l := h.grown g (by cases hv : v.ownBlock <;> simp)
/-- What is gathered: all bytes (of P), the rows (of Q). -/
structure Gath (B0 : Nat) (w0 w : World) (v : Value) (P : List (List Nat)) (u : Value) (ys : List Value) (Q : List (List Nat)) : Prop where
  b : w.ownsRow B0 5 1 v (joined P).length (bys (joined P))
  l : w.ownsRow B0 32 1 u Q.length ys
  rows : RowsIn w B0 ys Q
  apart : ∀ x ∈ ys, x.ownBlock = none ∨ x.ownBlock ≠ v.ownBlock
  bel : Below B0 w0 w
  lo : B0 ≤ w.heap.size
section
variable {B0 : Nat} {w0 w w' : World} {v v' u u' x : Value} {P P' Q : List (List Nat)} {ys : List Value} {l : List Nat}
theorem Gath.quiet (h : Gath B0 w0 w v P u ys Q) (g : w.grownBy w' none) : Gath B0 w0 w' v P u ys Q :=
  ⟨World.ownsRow.kept h.b g (by cases hv : v.ownBlock <;> simp), World.ownsRow.kept h.l g (by cases hv : u.ownBlock <;> simp), ⟨h.rows.1, fun k hk => by obtain ⟨A', c', e, O⟩ := h.rows.2 k hk; exact ⟨A', c', e, own_quiet O g⟩⟩, h.apart, h.bel.grown g h.lo (by simp), Nat.le_trans h.lo g.size⟩
theorem Gath.row (h : Gath B0 w0 w v P u ys Q) (hx : x ∈ ys) : ∃ l, Own w B0 x l := by
  obtain ⟨k, hk, rfl⟩ := List.getElem_of_mem hx
  obtain ⟨A', c', e, O⟩ := h.rows.2 k (by rw [← h.rows.1]; exact hk)
  rw [List.getElem?_eq_getElem hk] at e
  injection e with e
  rw [e]
  exact ⟨_, O⟩
theorem Gath.bytes (h : Gath B0 w0 w v P u ys Q) (o : Own w' B0 v' (joined P')) (g : w.grownBy w' v.ownBlock) (at_ : v'.ownBlock = v.ownBlock ∨ v'.ownBlock = some w.heap.size) : Gath B0 w0 w' v' P' u ys Q :=
  ⟨o, World.ownsRow.kept h.l g (own_apart h.l h.b (by decide)), ⟨h.rows.1, fun k hk => by obtain ⟨A', c', e, O⟩ := h.rows.2 k hk; exact ⟨A', c', e, O.grown g (h.apart _ (List.mem_of_getElem? e))⟩⟩, fun x hx => by obtain ⟨l, O⟩ := h.row hx; exact apart_after (h.apart x hx) at_ O, h.bel.grown g h.lo (fun k hk => (World.ownsRow.lt h.b k hk).1), Nat.le_trans h.lo g.size⟩
theorem Gath.list {A : Option Addr} {c : Nat} (h : Gath B0 w0 w v P u ys Q) (O : Own w B0 (.slice A l.length c) l) (X : (Value.slice A l.length c).ownBlock = none ∨ (Value.slice A l.length c).ownBlock ≠ v.ownBlock) (o : w'.ownsRow B0 32 1 u' (Q.length + 1) (ys ++ [.slice A l.length c])) (g : w.grownBy w' u.ownBlock) : Gath B0 w0 w' v P u' (ys ++ [.slice A l.length c]) (Q ++ [l]) :=
  ⟨World.ownsRow.kept h.b g (own_apart h.b h.l (by decide)), by rw [List.length_append, List.length_singleton]; exact o, (h.rows.grown h.l g).snoc (O.grown g (own_ne_lists O h.l)), fun y hy => by
    rcases List.mem_append.1 hy with h1 | h1
    · exact h.apart y h1
    · simp at h1; subst h1; exact X, h.bel.grown g h.lo (fun k hk => (World.ownsRow.lt h.l k hk).1), Nat.le_trans h.lo g.size⟩
end
theorem reads_on {w w' : World} {a B : Nat} {v : Value} {row : Option Nat} (h : Reads w B 1 (some ⟨a, 0, none⟩) 1 [v]) (g : w.grownBy w' row) (hr : row ≠ some a) : Reads w' B 1 (some ⟨a, 0, none⟩) 1 [v] := by
  refine ⟨h.1, fun hn => ?_⟩
  obtain ⟨ad, e, hb, hc⟩ := h.2 hn
  injection e with e
  subst e
  exact ⟨_, rfl, hb, fun j u hu => g.cell (hc j u hu) (by rw [block_of_add]; exact fun e => hr e.symm)⟩
section
variable {w w' : World} {W p d c cL : Nat} {S : Lg} {A AL : Option Addr} {xs : List Value}
set_option maxRecDepth 100000 in
set_option maxHeartbeats 16000000 in
theorem log_check (h : LogAt w W p d S A c AL cL xs) (hF : Fine S 300000) {B : Nat} {A2 : Option Addr} {c2 : Nat} {P : List (List Nat)} (hk : PsAt w B A2 P) (hB : B ≤ w.heap.size) (hl : P.length ≤ 50000) (hJ : (joined P).length ≤ 300000) :
    Calls Try.prog 29 #[.pointer (some ⟨p, 0, none⟩), .slice A2 P.length c2] w fun e w' => ∃ A' c' AL' cL' xs', e = .returned (.int .i64 (checkL S P).2) ∧ LogAt w' W p d (checkL S P).1 A' c' AL' cL' xs' ∧ Trip (checkL S P).2 w w' d p (.slice AL S.R.length cL) (.slice AL' (checkL S P).1.R.length cL') := by
  obtain ⟨f0, f1, f2, f3⟩ := hF
  have hWw : W ≤ w.heap.size := Nat.le_trans h.wp (Nat.le_of_lt (Array.getElem?_eq_some_iff.1 h.blk).1)
  obtain ⟨i5, hi5, hz50, hz51, hz52⟩ := info_parts byte_row
  obtain ⟨i0, hi, hz0, hz1, hz2⟩ := info_parts list_row
  go_enter Try.func29, Try.ntmps29
  go_wp2_with fail
  go_loopw [5, 6, 7] (fun sv rv si wr => ∃ (j : Nat) (v u : Value) (ys : List Value), v = sv ∧ u = rv ∧ j ≤ P.length ∧ si = .int .i64 (j : Int) ∧ Gath w.heap.size w wr v (P.take j) u ys (P.take j) ∧ (∀ q ∈ P.take j, q.length ≤ 8192)) (fun _ _ si _ => P.length - (intOf si).toNat)
  case atStart => exact ⟨0, _, _, [], rfl, rfl, Nat.zero_le _, rfl, ⟨World.ownsRow_nil _ _ _ _, World.ownsRow_nil _ _ _ _, RowsIn.nil, by simp, Below.refl _ _, Nat.le_refl _⟩, by simp⟩
  case round =>
    obtain ⟨j, v, u, ys, rfl, rfl, hj, rfl, G, h8⟩ := hrel
    have hw := G.bel.size
    have H8 := Lib.hid h8
    clear h8
    by_cases hlt : j < P.length
    · obtain ⟨ad, A1, c1, rfl, hc0, R10, rm1, hbl⟩ := hk.get hlt
      have HCC := Lib.hid (fun (w' : World) (hb : Below w.heap.size w w') => ((hb.mono hB).cell hbl).trans hc0)
      have hcell := HCC.out _ G.bel
      have R1' := R10.below (G.bel.mono hB)
      have i0' : (0 : Int) ≤ (j : Int) := by omega
      have i1' : (j : Int) < (P.length : Int) := by omega
      have hx := List.take_succ_eq_append_getElem hlt
      have hjl := joined_take_le P (j + 1)
      rw [hx, joined_snoc, List.length_append, recd_length] at hjl
      have HX := Lib.hid hx
      clear hx hc0
      by_cases hle : P[j].length ≤ 8192
      · have K := rput_yes A1 c1 B P[j] wr R1' (Nat.le_trans hB hw) (hk.small _ (List.getElem_mem hlt)) hle
        have hrl : (recd P[j]).length = P[j].length + 6 := recd_length _
        have hrl1 : (recd P[j]).length ≤ 8198 := by omega
        have hlj : (P.take j).length = j := by rw [List.length_take]; omega
        have h63 : (joined (P.take j)).length + (recd P[j]).length ≤ maxLen := by unfold maxLen; omega
        have h47 : ((joined (P.take j)).length + (recd P[j]).length) * 1 ≤ 140737488355328 := by omega
        have h63b : (P.take j).length + 1 ≤ maxLen := by unfold maxLen; omega
        have h47b : ((P.take j).length + 1) * 24 ≤ 140737488355328 := by omega
        clear hrl hlj
        go_wp2_with fail
        refine K.mono ?_
        clear K
        rintro e w5 ⟨AF, cF, rfl, OF0, b5⟩
        have gq5 := below_quiet2 b5
        have OF := Own.mono (World.ownsRow.drew OF0) G.lo
        have G := (G.quiet gq5).quiet (drew_one w5)
        have hc := HCC.out _ G.bel
        have hcz : w5.cell? (ad.add j) = some (.slice A1 P[j].length c1) := hc
        clear hcell R1' b5 gq5 OF0
        go_wp2_with fail
        refine wp_region_held_drew (S := fun _ => True) (by kernel_rfl) trivial (fun _ => ?_)
        refine wpAnyH_take (i := 0) (oi := { dst := some 28, op := Op.move (Operand.tmp 5), type := 32, pos := "ref.go:371", after := #[], guard := none }) (v := ?_) rfl (by kernel_rfl) (by kernel_rfl) (by kernel_rfl) (fun _ _ _ h => h) (Or.inl ⟨by rfl, ?_⟩) (by trivial) ?_
        rotate_left
        (focus (intro w hSw; go_simp <;> with_reducible rfl))
        try simp only [Act.put, List.setIfInBounds_toArray, List.set_cons_zero, List.set_cons_succ]
        refine wpAnyH_take (i := 1) (oi := { dst := some 29, op := Op.move (Operand.tmp 8), type := 32, pos := "ref.go:371", after := #[], guard := none }) (v := ?_) rfl (by kernel_rfl) (by kernel_rfl) (by kernel_rfl) (fun _ _ _ h => h) (Or.inl ⟨by rfl, ?_⟩) (by trivial) ?_
        rotate_left
        (focus (intro w hSw; go_simp <;> with_reducible rfl))
        try simp only [Act.put, List.setIfInBounds_toArray, List.set_cons_zero, List.set_cons_succ]
        refine wpAnyH_take (i := 3) (oi := { dst := some 31, op := Op.move (Operand.tmp 6), type := 33, pos := "ref.go:371", after := #[], guard := none }) (v := ?_) rfl (by kernel_rfl) (by kernel_rfl) (by kernel_rfl) (fun _ _ _ h => h) (Or.inl ⟨by rfl, ?_⟩) (by trivial) ?_
        rotate_left
        (focus (intro w hSw; go_simp <;> with_reducible rfl))
        try simp only [Act.put, List.setIfInBounds_toArray, List.set_cons_zero, List.set_cons_succ]
        refine wpAnyH_take (i := 4) (oi := { dst := some 32, op := Op.move (Operand.tmp 1), type := 33, pos := "ref.go:371", after := #[], guard := none }) (v := ?_) rfl (by kernel_rfl) (by kernel_rfl) (by kernel_rfl) (fun _ _ _ h => h) (Or.inl ⟨by rfl, ?_⟩) (by trivial) ?_
        rotate_left
        (focus (intro w hSw; go_simp <;> with_reducible rfl))
        try simp only [Act.put, List.setIfInBounds_toArray, List.set_cons_zero, List.set_cons_succ]
        refine wpAnyH_take (i := 5) (oi := { dst := some 33, op := Op.move (Operand.tmp 7), type := 3, pos := "ref.go:371", after := #[], guard := none }) (v := ?_) rfl (by kernel_rfl) (by kernel_rfl) (by kernel_rfl) (fun _ _ _ h => h) (Or.inl ⟨by rfl, ?_⟩) (by trivial) ?_
        rotate_left
        (focus (intro w hSw; go_simp <;> with_reducible rfl))
        try simp only [Act.put, List.setIfInBounds_toArray, List.set_cons_zero, List.set_cons_succ]
        refine wpAnyH_take (i := 6) (oi := { dst := some 34, op := Op.indexAddr 33 (Operand.tmp 32) (Operand.tmp 33), type := 0, pos := "ref.go:371", after := #[{ on := 4, ground := Ground.data }, { on := 5, ground := Ground.data }], guard := none }) (v := ?_) rfl (by kernel_rfl) (by kernel_rfl) (by kernel_rfl) (fun _ _ _ h => h) (Or.inl ⟨by rfl, ?_⟩) (by trivial) ?_
        rotate_left
        (focus (intro w hSw; go_simp <;> with_reducible rfl))
        try simp only [Act.put, List.setIfInBounds_toArray, List.set_cons_zero, List.set_cons_succ]
        refine wpAnyH_ready (rs := [2, 7]) (by kernel_rfl) (by simp) ?_
        refine AllReadyH.cons (o := { dst := some 30, op := Op.call { callee := Callee.builtin Builtin.append, args := #[Operand.tmp 28, Operand.tmp 29], argTypes := #[32, 32] }, type := 32, pos := "ref.go:371", after := #[{ on := 0, ground := Ground.data }, { on := 1, ground := Ground.data }], guard := none }) rfl (fun K hK => ?_) (AllReadyH.cons (o := { dst := some 35, op := Op.load 32 (Operand.tmp 34), type := 32, pos := "ref.go:371", after := #[{ on := 6, ground := Ground.data }], guard := none }) rfl (fun K hK => ?_) (AllReadyH.nil))
        · refine step_append_any _ rfl (.tmp 28) (.tmp 29) 32 rfl w.heap.size 5 i5 _ 1 1 Try.underlying32 hi5 hz50 hz51 hz52 rfl (by omega) _ _ _ (by rfl) G.b _ _ _ _ _ (by rfl) (Own.reads OF) (bys_one _) h63 h47 G.lo ?_
          intro v2 w2 o2 g2 at2
          have G := G.bytes (own_rec o2) g2 at2
          have hc := HCC.out _ G.bel
          refine hK.out _ _ trivial (fun _ => ?_)
          clear hK K
          try simp only [Act.put, List.setIfInBounds_toArray, List.set_cons_zero, List.set_cons_succ]
          refine wpAnyH_ready (rs := [7]) (by kernel_rfl) (by simp) ?_
          refine AllReadyH.cons (o := { dst := some 35, op := Op.load 32 (Operand.tmp 34), type := 32, pos := "ref.go:371", after := #[{ on := 6, ground := Ground.data }], guard := none }) rfl (fun K hK => ?_) (AllReadyH.nil)
          go_simp
          go_wp2_with fail
          refine hK.out _ _ trivial (fun _ => ?_)
          clear hK K
          try simp only [Act.put, List.setIfInBounds_toArray, List.set_cons_zero, List.set_cons_succ]
          refine wpAnyH_ready (rs := [8]) (by kernel_rfl) (by simp) ?_
          refine AllReadyH.cons (o := { dst := some 36, op := Op.call { callee := Callee.value (Operand.func 42), args := #[Operand.tmp 35], argTypes := #[32] }, type := 32, pos := "ref.go:371", after := #[{ on := 7, ground := Ground.data }, { on := 2, ground := Ground.chain }], guard := none }) rfl (fun K hK => ?_) (AllReadyH.nil)
          go_simp
          have R1 := R10.below (G.bel.mono hB)
          go_at_call 42
          refine (copy_any A1 c1 B P[j] _ R1 (by omega)).mono ?_
          rintro e w4 ⟨A9, c9, rfl, O9, b4⟩
          have X9 := apart_sym (Own.later G.b O9 (Nat.le_refl _))
          have gq := below_quiet2 b4
          have O9 := Own.mono O9 G.lo
          have G := G.quiet gq
          have hc := HCC.out _ G.bel
          go_wp2_with fail
          refine hK.out _ _ trivial (fun _ => ?_)
          clear hK K
          try simp only [Act.put, List.setIfInBounds_toArray, List.set_cons_zero, List.set_cons_succ]
          refine wpAnyH_ready (rs := [9]) (by kernel_rfl) (by simp) ?_
          refine AllReadyH.cons (o := { dst := some 37, op := Op.buildSlice 33 1 #[(0, Operand.tmp 36)], type := 33, pos := "ref.go:371", after := #[{ on := 8, ground := Ground.data }], guard := none }) rfl (fun K hK => ?_) (AllReadyH.nil)
          go_simp
          have nw := slice_reads w4 (.slice A9 P[j].length c9)
          have one9 := slice_one A9 P[j].length c9
          have gq := alloc_grown w4 (.cells #[.slice A9 P[j].length c9] 32)
          have hvb := World.ownsRow.lt G.b
          have O9 := Own.alloc O9 (.cells #[.slice A9 P[j].length c9] 32)
          have G := G.quiet gq
          have hc := HCC.out _ G.bel
          go_wp2_with fail
          refine hK.out _ _ trivial (fun _ => ?_)
          clear hK K
          try simp only [Act.put, List.setIfInBounds_toArray, List.set_cons_zero, List.set_cons_succ]
          refine wpAnyH_ready (rs := [10]) (by kernel_rfl) (by simp) ?_
          refine AllReadyH.cons (o := { dst := some 38, op := Op.call { callee := Callee.builtin Builtin.append, args := #[Operand.tmp 31, Operand.tmp 37], argTypes := #[33, 33] }, type := 33, pos := "ref.go:371", after := #[{ on := 3, ground := Ground.data }, { on := 9, ground := Ground.data }, { on := 8, ground := Ground.chain }], guard := none }) rfl (fun K hK => ?_) (AllReadyH.nil)
          refine step_append_any _ rfl (.tmp 31) (.tmp 37) 33 rfl w.heap.size 32 i0 _ 1 24 Try.underlying33 hi hz0 hz1 hz2 rfl (by omega) _ _ _ (by rfl) G.l _ _ _ _ _ (by rfl) nw one9 h63b h47b G.lo ?_
          intro v3 w3 o3 g3 at3
          have G := G.list O9 X9 o3 g3
          have hc := HCC.out _ G.bel
          refine hK.out _ _ trivial (fun _ => ?_)
          clear hK K
          try simp only [Act.put, List.setIfInBounds_toArray, List.set_cons_zero, List.set_cons_succ]
          refine wpAnyH_take (i := 11) (oi := { dst := some 5, op := Op.assign (Operand.tmp 30), type := 32, pos := "ref.go:371", after := #[{ on := 2, ground := Ground.data }, { on := 10, ground := Ground.chain }, { on := 0, ground := Ground.phase }, { on := 1, ground := Ground.phase }, { on := 2, ground := Ground.phase }, { on := 3, ground := Ground.textOnly Departure.lateStores }, { on := 4, ground := Ground.textOnly Departure.lateStores }, { on := 5, ground := Ground.textOnly Departure.lateStores }, { on := 6, ground := Ground.textOnly Departure.lateStores }, { on := 7, ground := Ground.textOnly Departure.lateStores }, { on := 8, ground := Ground.textOnly Departure.lateStoresUnsure }, { on := 9, ground := Ground.textOnly Departure.lateStores }, { on := 10, ground := Ground.textOnly Departure.lateStoresUnsure }], guard := none }) (v := ?_) rfl (by kernel_rfl) (by kernel_rfl) (by kernel_rfl) (fun _ _ _ h => h) (Or.inl ⟨by rfl, ?_⟩) (by trivial) ?_
          rotate_left
          (focus (intro w hSw; go_simp <;> with_reducible rfl))
          try simp only [Act.put, List.setIfInBounds_toArray, List.set_cons_zero, List.set_cons_succ]
          refine wpAnyH_take (i := 12) (oi := { dst := some 6, op := Op.assign (Operand.tmp 38), type := 33, pos := "ref.go:371", after := #[{ on := 10, ground := Ground.data }, { on := 11, ground := Ground.chain }, { on := 0, ground := Ground.phase }, { on := 1, ground := Ground.phase }, { on := 2, ground := Ground.phase }, { on := 3, ground := Ground.phase }, { on := 4, ground := Ground.phase }, { on := 5, ground := Ground.phase }, { on := 6, ground := Ground.phase }, { on := 7, ground := Ground.phase }, { on := 8, ground := Ground.phase }, { on := 9, ground := Ground.phase }, { on := 10, ground := Ground.phase }, { on := 11, ground := Ground.phase }], guard := none }) (v := ?_) rfl (by kernel_rfl) (by kernel_rfl) (by kernel_rfl) (fun _ _ _ h => h) (Or.inl ⟨by rfl, ?_⟩) (by trivial) ?_
          rotate_left
          (focus (intro w hSw; go_simp <;> with_reducible rfl))
          try simp only [Act.put, List.setIfInBounds_toArray, List.set_cons_zero, List.set_cons_succ]
          refine wpAnyH_done (by kernel_rfl) ?_ _
          go_wp2_with fail
          go_roundw
          case rel => exact ⟨j + 1, v2, v3, _, rfl, rfl, by omega, by go_num, by rw [HX.out]; exact G, by rw [HX.out]; exact fun q hq => (List.mem_append.1 hq).elim (H8.out q) (fun h => by simp at h; rw [h]; exact hle)⟩
          case measure => simp [intOf]; omega
        · go_simp
          go_wp2_with fail
          refine hK.out _ _ trivial (fun _ => ?_)
          clear hK K
          try simp only [Act.put, List.setIfInBounds_toArray, List.set_cons_zero, List.set_cons_succ]
          refine wpAnyH_ready (rs := [2]) (by kernel_rfl) (by simp) ?_
          refine AllReadyH.cons (o := { dst := some 30, op := Op.call { callee := Callee.builtin Builtin.append, args := #[Operand.tmp 28, Operand.tmp 29], argTypes := #[32, 32] }, type := 32, pos := "ref.go:371", after := #[{ on := 0, ground := Ground.data }, { on := 1, ground := Ground.data }], guard := none }) rfl (fun K hK => ?_) (AllReadyH.nil)
          refine step_append_any _ rfl (.tmp 28) (.tmp 29) 32 rfl w.heap.size 5 i5 _ 1 1 Try.underlying32 hi5 hz50 hz51 hz52 rfl (by omega) _ _ _ (by rfl) G.b _ _ _ _ _ (by rfl) (Own.reads OF) (bys_one _) h63 h47 G.lo ?_
          intro v2 w2 o2 g2 at2
          have G := G.bytes (own_rec o2) g2 at2
          have hc := HCC.out _ G.bel
          refine hK.out _ _ trivial (fun _ => ?_)
          clear hK K
          try simp only [Act.put, List.setIfInBounds_toArray, List.set_cons_zero, List.set_cons_succ]
          refine wpAnyH_ready (rs := [8]) (by kernel_rfl) (by simp) ?_
          refine AllReadyH.cons (o := { dst := some 36, op := Op.call { callee := Callee.value (Operand.func 42), args := #[Operand.tmp 35], argTypes := #[32] }, type := 32, pos := "ref.go:371", after := #[{ on := 7, ground := Ground.data }, { on := 2, ground := Ground.chain }], guard := none }) rfl (fun K hK => ?_) (AllReadyH.nil)
          go_simp
          have R1 := R10.below (G.bel.mono hB)
          go_at_call 42
          refine (copy_any A1 c1 B P[j] _ R1 (by omega)).mono ?_
          rintro e w4 ⟨A9, c9, rfl, O9, b4⟩
          have X9 := apart_sym (Own.later G.b O9 (Nat.le_refl _))
          have gq := below_quiet2 b4
          have O9 := Own.mono O9 G.lo
          have G := G.quiet gq
          have hc := HCC.out _ G.bel
          go_wp2_with fail
          refine hK.out _ _ trivial (fun _ => ?_)
          clear hK K
          try simp only [Act.put, List.setIfInBounds_toArray, List.set_cons_zero, List.set_cons_succ]
          refine wpAnyH_ready (rs := [9]) (by kernel_rfl) (by simp) ?_
          refine AllReadyH.cons (o := { dst := some 37, op := Op.buildSlice 33 1 #[(0, Operand.tmp 36)], type := 33, pos := "ref.go:371", after := #[{ on := 8, ground := Ground.data }], guard := none }) rfl (fun K hK => ?_) (AllReadyH.nil)
          go_simp
          have nw := slice_reads w4 (.slice A9 P[j].length c9)
          have one9 := slice_one A9 P[j].length c9
          have gq := alloc_grown w4 (.cells #[.slice A9 P[j].length c9] 32)
          have hvb := World.ownsRow.lt G.b
          have O9 := Own.alloc O9 (.cells #[.slice A9 P[j].length c9] 32)
          have G := G.quiet gq
          have hc := HCC.out _ G.bel
          go_wp2_with fail
          refine hK.out _ _ trivial (fun _ => ?_)
          clear hK K
          try simp only [Act.put, List.setIfInBounds_toArray, List.set_cons_zero, List.set_cons_succ]
          refine wpAnyH_ready (rs := [10]) (by kernel_rfl) (by simp) ?_
          refine AllReadyH.cons (o := { dst := some 38, op := Op.call { callee := Callee.builtin Builtin.append, args := #[Operand.tmp 31, Operand.tmp 37], argTypes := #[33, 33] }, type := 33, pos := "ref.go:371", after := #[{ on := 3, ground := Ground.data }, { on := 9, ground := Ground.data }, { on := 8, ground := Ground.chain }], guard := none }) rfl (fun K hK => ?_) (AllReadyH.nil)
          refine step_append_any _ rfl (.tmp 31) (.tmp 37) 33 rfl w.heap.size 32 i0 _ 1 24 Try.underlying33 hi hz0 hz1 hz2 rfl (by omega) _ _ _ (by rfl) G.l _ _ _ _ _ (by rfl) nw one9 h63b h47b G.lo ?_
          intro v3 w3 o3 g3 at3
          have G := G.list O9 X9 o3 g3
          have hc := HCC.out _ G.bel
          refine hK.out _ _ trivial (fun _ => ?_)
          clear hK K
          try simp only [Act.put, List.setIfInBounds_toArray, List.set_cons_zero, List.set_cons_succ]
          refine wpAnyH_take (i := 11) (oi := { dst := some 5, op := Op.assign (Operand.tmp 30), type := 32, pos := "ref.go:371", after := #[{ on := 2, ground := Ground.data }, { on := 10, ground := Ground.chain }, { on := 0, ground := Ground.phase }, { on := 1, ground := Ground.phase }, { on := 2, ground := Ground.phase }, { on := 3, ground := Ground.textOnly Departure.lateStores }, { on := 4, ground := Ground.textOnly Departure.lateStores }, { on := 5, ground := Ground.textOnly Departure.lateStores }, { on := 6, ground := Ground.textOnly Departure.lateStores }, { on := 7, ground := Ground.textOnly Departure.lateStores }, { on := 8, ground := Ground.textOnly Departure.lateStoresUnsure }, { on := 9, ground := Ground.textOnly Departure.lateStores }, { on := 10, ground := Ground.textOnly Departure.lateStoresUnsure }], guard := none }) (v := ?_) rfl (by kernel_rfl) (by kernel_rfl) (by kernel_rfl) (fun _ _ _ h => h) (Or.inl ⟨by rfl, ?_⟩) (by trivial) ?_
          rotate_left
          (focus (intro w hSw; go_simp <;> with_reducible rfl))
          try simp only [Act.put, List.setIfInBounds_toArray, List.set_cons_zero, List.set_cons_succ]
          refine wpAnyH_take (i := 12) (oi := { dst := some 6, op := Op.assign (Operand.tmp 38), type := 33, pos := "ref.go:371", after := #[{ on := 10, ground := Ground.data }, { on := 11, ground := Ground.chain }, { on := 0, ground := Ground.phase }, { on := 1, ground := Ground.phase }, { on := 2, ground := Ground.phase }, { on := 3, ground := Ground.phase }, { on := 4, ground := Ground.phase }, { on := 5, ground := Ground.phase }, { on := 6, ground := Ground.phase }, { on := 7, ground := Ground.phase }, { on := 8, ground := Ground.phase }, { on := 9, ground := Ground.phase }, { on := 10, ground := Ground.phase }, { on := 11, ground := Ground.phase }], guard := none }) (v := ?_) rfl (by kernel_rfl) (by kernel_rfl) (by kernel_rfl) (fun _ _ _ h => h) (Or.inl ⟨by rfl, ?_⟩) (by trivial) ?_
          rotate_left
          (focus (intro w hSw; go_simp <;> with_reducible rfl))
          try simp only [Act.put, List.setIfInBounds_toArray, List.set_cons_zero, List.set_cons_succ]
          refine wpAnyH_done (by kernel_rfl) ?_ _
          go_wp2_with fail
          go_roundw
          case rel => exact ⟨j + 1, v2, v3, _, rfl, rfl, by omega, by go_num, by rw [HX.out]; exact G, by rw [HX.out]; exact fun q hq => (List.mem_append.1 hq).elim (H8.out q) (fun h => by simp at h; rw [h]; exact hle)⟩
          case measure => simp [intOf]; omega
      · have K := rput_no A1 c1 P[j].length wr (by omega) (by unfold maxLen; omega)
        have e1 : checkL S P = (S, 3) := if_neg (fun hall => hle (hall _ (List.getElem_mem hlt)))
        have E1 := Lib.hid e1
        clear e1
        go_wp2_with fail
        refine K.mono ?_
        clear K
        rintro e w5 ⟨rfl, rfl⟩
        have g := below_quiet2 G.bel
        go_wp2_with fail
        go_ret
        exact ⟨A, c, AL, cL, xs, by rw [E1.out]; rfl, by rw [E1.out]; exact h.quiet g, by rw [E1.out]; exact Trip.quiet g⟩
    · obtain rfl : j = P.length := by omega
      have h8 := H8.out
      rw [List.take_length] at G h8
      have hsm : Small (joined P) := joined_small (fun q hq => ⟨hk.small q hq, h8 q hq⟩)
      have g := below_quiet2 G.bel
      have H1 := h.half.quiet g
      have D1 := h.disk.quiet g
      have hcc := H1.cell0
      have OB : Own wr w.heap.size v (joined P) := G.b
      obtain ⟨A5, c5, rfl⟩ := OB.form
      obtain ⟨A7, c7, rfl⟩ := lists_form G.l
      by_cases hfit : ((joined P).length : Int) ≤ S.r
      · have e1 : checkL S P = (⟨S.r, (joined P).length, P⟩, 0) := (if_pos h8).trans (if_pos hfit)
        have E1 := Lib.hid e1
        have K := swap_new D1 OB.reads OB.roomy hsm (by omega) hfit
        clear e1 H8
        go_wp2_with fail
        refine K.mono ?_
        rintro e w3 ⟨A6, c6, rfl, D3, g3, F3⟩
        have H3 := H1.beside D1 g3
        have g03 := grown_to g g3
        have O7 := World.ownsRow.kept G.l g3 (own_blk G.l D1.blk (by decide))
        have R7 : RowsIn w3 w.heap.size ys P := ⟨G.rows.1, fun k hk => by obtain ⟨A', c', e, O⟩ := G.rows.2 k hk; exact ⟨A', c', e, O.grown g3 (own_blk O D1.blk (by decide))⟩⟩
        have hc3 := H3.cell1
        have hf3 := H3.free 1
        have F := half_put (AL := A7) (cL := c7) H3.blk (ownsRow_mono O7 hWw) ⟨R7.1, fun k hk => by obtain ⟨A', c', e, O⟩ := R7.2 k hk; exact ⟨A', c', e, O.mono hWw⟩⟩
        have D7 := D3.grown (set_grown w3 p 1 (.slice A7 P.length c7)) (fun e => blk_ne H3.blk D3.blk (by decide) (by injection e)) (fun ad e e2 => by
          obtain ⟨cur, hc⟩ := D3.off ad e
          exact blk_ne hc H3.blk (by decide) (by injection e2))
        have hnew := World.ownsRow.lt O7
        clear K hcc O7 R7 G H1 D1
        go_wp2_with fail
        go_ret
        refine ⟨A6, c6, A7, c7, ys, by rw [E1.out]; rfl, by rw [E1.out]; exact F.full (S := ⟨S.r, (joined P).length, P⟩) D7 (fun q hq => ⟨hk.small q hq, h8 q hq⟩) h.wp h.wd, ⟨w3, w3, _, g03, World.grownBy.refl _ _, set_grown _ _ _ _, World.grownBy.refl _ _, ?_⟩, fun hz => absurd (by rw [E1.out]) hz⟩
        refine .inr fun x hx => ?_
        rw [own_len A7 _ P.length c7 c7] at hx
        exact (hnew x hx).1
      · have e1 : checkL S P = (S, 9) := (if_pos h8).trans (if_neg hfit)
        have E1 := Lib.hid e1
        have K := swap_no (A2 := A5) (c2 := c5) D1 (Nat.le_trans OB.roomy.le OB.roomy.max) hfit
        clear e1 H8
        go_wp2_with fail
        refine K.mono ?_
        rintro e w3 ⟨rfl, rfl⟩
        go_wp2_with fail
        go_ret
        exact ⟨A, c, AL, cL, xs, by rw [E1.out]; rfl, by rw [E1.out]; exact h.quiet g, by rw [E1.out]; exact Trip.quiet g⟩
end
end Go.Proofs.Ytkhbpaloicefdaa.Ref
