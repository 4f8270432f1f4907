/- The document's log on memory; vokref10.Open. -/
import Derived.Test.YtkhbpaloicefdaaLog3
import Derived.Test.YtkhbpaloicefdaaRCrash
import Derived.Test.YtkhbpaloicefdaaRscan
namespace Go.Proofs.Ytkhbpaloicefdaa.Ref
open Go.RowKit
set_option linter.unusedVariables false
attribute [local go_sem ↓] Go.wp_at_zero Go.wp_at_succ
/-- The log at block p: its disk at block d, its records. -/
structure LogAt (w : World) (W p d : Nat) (S : Lg) (A : Option Addr) (c : Nat) (AL : Option Addr) (cL : Nat) (xs : List Value) : Prop where
  blk : w.heap[p]? = some (.cells #[.pointer (some ⟨d, 0, none⟩), .slice AL S.R.length cL] 57 (0, 0))
  disk : DiskAt w d S.r S.s A c (joined S.R)
  list : w.ownsRow W 32 1 (.slice AL S.R.length cL) S.R.length xs
  rows : RowsIn w W xs S.R
  few : ∀ q ∈ S.R, Small q ∧ q.length ≤ 8192
  wp : W ≤ p
  wd : W ≤ d
/-- A log but for its disk. -/
structure Half (w : World) (W p d : Nat) (R : List (List Nat)) (AL : Option Addr) (cL : Nat) (xs : List Value) : Prop where
  blk : w.heap[p]? = some (.cells #[.pointer (some ⟨d, 0, none⟩), .slice AL R.length cL] 57 (0, 0))
  list : w.ownsRow W 32 1 (.slice AL R.length cL) R.length xs
  rows : RowsIn w W xs R
section
variable {w w' : World} {W p d c cL : Nat} {S : Lg} {A AL : Option Addr} {xs : List Value} {R : List (List Nat)}
theorem LogAt.lt (h : LogAt w W p d S A c AL cL xs) : p < w.heap.size := (Array.getElem?_eq_some_iff.1 h.blk).1
theorem LogAt.cell0 (h : LogAt w W p d S A c AL cL xs) : w.cell? ⟨p, 0, none⟩ = some (.pointer (some ⟨d, 0, none⟩)) := by
  have := cell_of_row w p 0 _ 57 (0, 0) h.blk; simpa using this
theorem LogAt.cell1 (h : LogAt w W p d S A c AL cL xs) : w.cell? ⟨p, 1, none⟩ = some (.slice AL S.R.length cL) := by
  have := cell_of_row w p 1 _ 57 (0, 0) h.blk; simpa using this
theorem LogAt.free (h : LogAt w W p d S A c AL cL xs) (i : Nat) : w.frozen? ⟨p, i, none⟩ = false := by
  have := h.blk
  simp [World.frozen?, this]
theorem LogAt.pd (h : LogAt w W p d S A c AL cL xs) : p ≠ d := blk_ne h.blk h.disk.blk (by decide)
theorem LogAt.file_ne (h : LogAt w W p d S A c AL cL xs) : ∀ ad, A = some ad → ad.block ≠ p := fun ad e => by
  obtain ⟨cur, hc⟩ := h.disk.off ad e
  exact blk_ne hc h.blk (by decide)
theorem LogAt.grown (h : LogAt w W p d S A c AL cL xs) {row : Option Nat} (g : w.grownBy w' row) (h1 : row ≠ some p) (h2 : row ≠ some d) (h3 : ∀ ad, A = some ad → some ad.block ≠ row) (h4 : (Value.slice AL S.R.length cL).ownBlock = none ∨ (Value.slice AL S.R.length cL).ownBlock ≠ row) (h5 : ∀ u ∈ xs, u.ownBlock = none ∨ u.ownBlock ≠ row) : LogAt w' W p d S A c AL cL xs :=
  ⟨(g.block p h.lt (fun e => h1 e.symm)).trans h.blk, h.disk.grown g h2 h3, World.ownsRow.kept h.list g h4, ⟨h.rows.1, fun k hk => by
    obtain ⟨A', c', e, O⟩ := h.rows.2 k hk
    exact ⟨A', c', e, O.grown g (h5 _ (List.mem_of_getElem? e))⟩⟩, h.few, h.wp, h.wd⟩
theorem LogAt.quiet (h : LogAt w W p d S A c AL cL xs) (g : w.grownBy w' none) : LogAt w' W p d S A c AL cL xs :=
  h.grown g (by simp) (by simp) (by simp) (by cases hv : (Value.slice AL S.R.length cL).ownBlock <;> simp) (fun u _ => by cases hv : u.ownBlock <;> simp)
theorem LogAt.rows_blk (h : LogAt w W p d S A c AL cL xs) {b : Nat} {x : Array Value} {t : TypeId} (k : w.heap[b]? = some (.cells x t (0, 0))) (hne : 5 ≠ t) : ∀ u ∈ xs, u.ownBlock = none ∨ u.ownBlock ≠ some b := by
  intro u hu
  obtain ⟨i, hi, rfl⟩ := List.getElem_of_mem hu
  obtain ⟨A', c', e, O⟩ := h.rows.2 i (by rw [← h.rows.1]; exact hi)
  rw [List.getElem?_eq_getElem hi] at e
  injection e with e
  rw [e]
  exact own_blk O k hne
/-- The disk has changed: the rest stands. -/
theorem LogAt.turn (h : LogAt w W p d S A c AL cL xs) (g : w.grownBy w' (some d)) {S' : Lg} {A' : Option Addr} {c' : Nat} (hR : S'.R = S.R) (hD : DiskAt w' d S'.r S'.s A' c' (joined S'.R)) : LogAt w' W p d S' A' c' AL cL xs := by
  refine ⟨?_, hD, ?_, ?_, by rw [hR]; exact h.few, h.wp, h.wd⟩
  · rw [hR]; exact (g.block p h.lt (fun e => h.pd (by injection e))).trans h.blk
  · rw [hR]; exact World.ownsRow.kept h.list g (own_blk h.list h.disk.blk (by decide))
  · rw [hR]
    exact ⟨h.rows.1, fun k hk => by
      obtain ⟨A', c', e, O⟩ := h.rows.2 k hk
      exact ⟨A', c', e, O.grown g (h.rows_blk h.disk.blk (by decide) _ (List.mem_of_getElem? e))⟩⟩
theorem LogAt.half (h : LogAt w W p d S A c AL cL xs) : Half w W p d S.R AL cL xs := ⟨h.blk, h.list, h.rows⟩
theorem Half.full (h : Half w W p d S.R AL cL xs) (hD : DiskAt w d S.r S.s A c (joined S.R)) (hf : ∀ q ∈ S.R, Small q ∧ q.length ≤ 8192) (hp : W ≤ p) (hd : W ≤ d) : LogAt w W p d S A c AL cL xs := ⟨h.blk, hD, h.list, h.rows, hf, hp, hd⟩
theorem Half.grown (h : Half w W p d R AL cL xs) {row : Option Nat} (g : w.grownBy w' row) (h1 : row ≠ some p) (h4 : (Value.slice AL R.length cL).ownBlock = none ∨ (Value.slice AL R.length cL).ownBlock ≠ row) (h5 : ∀ u ∈ xs, u.ownBlock = none ∨ u.ownBlock ≠ row) : Half w' W p d R AL cL xs :=
  ⟨(g.block p (Array.getElem?_eq_some_iff.1 h.blk).1 (fun e => h1 e.symm)).trans h.blk, World.ownsRow.kept h.list g h4, ⟨h.rows.1, fun k hk => by
    obtain ⟨A', c', e, O⟩ := h.rows.2 k hk
    exact ⟨A', c', e, O.grown g (h5 _ (List.mem_of_getElem? e))⟩⟩⟩
theorem Half.quiet (h : Half w W p d R AL cL xs) (g : w.grownBy w' none) : Half w' W p d R AL cL xs :=
  h.grown g (by simp) (by cases hv : (Value.slice AL R.length cL).ownBlock <;> simp) (fun u _ => by cases hv : u.ownBlock <;> simp)
theorem Half.rows_blk (h : Half w W p d R AL cL xs) {b : Nat} {x : Array Value} {t : TypeId} (k : w.heap[b]? = some (.cells x t (0, 0))) (hne : 5 ≠ t) : ∀ u ∈ xs, u.ownBlock = none ∨ u.ownBlock ≠ some b := by
  intro u hu
  obtain ⟨i, hi, rfl⟩ := List.getElem_of_mem hu
  obtain ⟨A', c', e, O⟩ := h.rows.2 i (by rw [← h.rows.1]; exact hi)
  rw [List.getElem?_eq_getElem hi] at e
  injection e with e
  rw [e]
  exact own_blk O k hne
/-- What is done to its disk leaves the rest alone. -/
theorem Half.beside {r s : Int} {l : List Nat} (h : Half w W p d R AL cL xs) {x : Nat} (hD : DiskAt w x r s A c l) (g : w.grownBy w' (some x)) : Half w' W p d R AL cL xs :=
  h.grown g (fun e => blk_ne h.blk hD.blk (by decide) (by injection e with e; exact e.symm)) (own_blk h.list hD.blk (by decide)) (h.rows_blk hD.blk (by decide))
theorem Half.cell0 (h : Half w W p d R AL cL xs) : w.cell? ⟨p, 0, none⟩ = some (.pointer (some ⟨d, 0, none⟩)) := by
  have := cell_of_row w p 0 _ 57 (0, 0) h.blk; simpa using this
theorem Half.cell1 (h : Half w W p d R AL cL xs) : w.cell? ⟨p, 1, none⟩ = some (.slice AL R.length cL) := by
  have := cell_of_row w p 1 _ 57 (0, 0) h.blk; simpa using this
theorem Half.free (h : Half w W p d R AL cL xs) (i : Nat) : w.frozen? ⟨p, i, none⟩ = false := by
  have := h.blk
  simp [World.frozen?, this]
/-- Another list in its place. -/
theorem half_put {u : Value} (hb : w.heap[p]? = some (.cells #[.pointer (some ⟨d, 0, none⟩), u] 57 (0, 0))) (hL : w.ownsRow W 32 1 (.slice AL R.length cL) R.length xs) (hR : RowsIn w W xs R) : Half (w.setCell ⟨p, 1, none⟩ (.slice AL R.length cL)) W p d R AL cL xs := by
  refine ⟨by simp [World.setCell, Array.getElem?_modify, hb], World.ownsRow.kept hL (set_grown w p 1 _) (own_blk hL hb (by decide)), hR.1, fun k hk => ?_⟩
  obtain ⟨A', c', e, O⟩ := hR.2 k hk
  exact ⟨A', c', e, O.grown (set_grown w p 1 _) (own_blk O hb (by decide))⟩
theorem off_lists {base n : Nat} {v : Value} {ys : List Value} {r s : Int} {l : List Nat} (h : w.ownsRow base 32 1 v n ys) (hD : DiskAt w d r s A c l) : ∀ ad, A = some ad → some ad.block ≠ v.ownBlock := fun ad e e2 => by
  obtain ⟨cur, hc⟩ := hD.off ad e
  exact own_blk' h hc (by decide) e2.symm
theorem LogAt.lb (h : LogAt w W p d S A c AL cL xs) : ∀ g, (Value.slice AL S.R.length cL).ownBlock = some g → W ≤ g := fun g e => (World.ownsRow.lt h.list g e).1
/-- The record is laid down: the log has it. -/
theorem add_done {w6 : World} {A6 A7 A9 : Option Addr} {c6 c7 c9 : Nat} {k : List Nat} {xs : List Value} (hf : ∀ q ∈ S.R, Small q ∧ q.length ≤ 8192) (hk : Small k) (hk8 : k.length ≤ 8192) (hp : W ≤ p) (hd : W ≤ d)
    (blk6 : w6.heap[p]? = some (.cells #[.pointer (some ⟨d, 0, none⟩), .slice AL S.R.length cL] 57 (0, 0))) (o6 : w6.ownsRow W 32 1 (.slice A7 (S.R.length + 1) c7) (S.R.length + 1) (xs ++ [.slice A9 k.length c9])) (R6 : RowsIn w6 W (xs ++ [.slice A9 k.length c9]) (S.R ++ [k]))
    (D6 : DiskAt w6 d S.r S.s A6 c6 (joined S.R ++ recd k)) :
    LogAt (w6.setCell ⟨p, 1, none⟩ (.slice A7 (S.R.length + 1) c7)) W p d ⟨S.r, S.s, S.R ++ [k]⟩ A6 c6 A7 c7 (xs ++ [.slice A9 k.length c9]) := by
  have hRl : (S.R ++ [k]).length = S.R.length + 1 := by simp
  have F := half_put (R := S.R ++ [k]) (AL := A7) (cL := c7) blk6 (by rw [hRl]; exact o6) R6
  rw [hRl] at F
  have D7 := D6.grown (set_grown w6 p 1 (.slice A7 (S.R.length + 1) c7)) (fun e => blk_ne blk6 D6.blk (by decide) (by injection e)) (fun ad e e2 => by
    obtain ⟨cur, hc⟩ := D6.off ad e
    exact blk_ne hc blk6 (by decide) (by injection e2))
  rw [← joined_snoc] at D7
  refine F.full D7 (fun q hq => ?_) hp hd
  rcases List.mem_append.1 hq with h1 | h1
  · exact hf q h1
  · simp at h1
    subst h1
    exact ⟨hk, hk8⟩
set_option maxRecDepth 100000 in
set_option maxHeartbeats 1000000 in
/-- Open: the file is cut behind its last whole record. -/
theorem open_any {r : Int} {s : Nat} {l : List Nat} (h : DiskAt w d r s A c l) (hs : s ≤ l.length) (hl : l.length ≤ 400000) :
    Calls Try.prog 25 #[.pointer (some ⟨d, 0, none⟩)] w fun e w' => ∃ p A' c' AL cL xs, e = .returned (.tuple #[.pointer (some ⟨p, 0, none⟩), .int .i64 ((l.length : Int) - (scand l).2)]) ∧ w.heap.size ≤ p ∧ (∀ W, W ≤ w.heap.size → W ≤ d → LogAt w' W p d ⟨r, min s (scand l).2, (scand l).1⟩ A' c' AL cL xs) ∧ w.grownBy w' (some d) ∧ (∀ g, (Value.slice AL (scand l).1.length cL).ownBlock = some g → w.heap.size ≤ g) := by
  have hsm := h.small
  have hle := scand_le l
  have hfew := scand_few l
  have hlt := h.lt
  have hc2 := h.cell2
  have hS := rscan_any A c _ l w h.row (Nat.le_refl _) hsm ⟨h.room.le, h.room.max⟩ (by omega)
  have hxl : l.length ≤ 9223372036854775807 := by omega
  go_enter Try.func25, Try.ntmps25
  go_wp2_with fail
  refine hS.mono ?_
  rintro e w2 ⟨A2, c2, xs, rfl, O2, R2, b2⟩
  have g2 := below_quiet2 b2
  have D2 := h.quiet g2
  have hc2' := D2.cell2
  have hC := cut_new D2 (scand l).2 hle hl (by omega) (by omega)
  have hw0 : IntKind.i64.wrap ((l.length : Int) - ((scand l).2 : Int)) = (l.length : Int) - ((scand l).2 : Int) := by simp [IntKind.wrap, IntKind.bits, IntKind.signed]; omega
  have hw1 : wrap64 ((l.length : Int) - ((scand l).2 : Int)) = (l.length : Int) - ((scand l).2 : Int) := by unfold wrap64; omega
  clear hS h hc2
  go_wp2_with fail
  refine hC.mono ?_
  rintro e w3 ⟨A3, c3, rfl, D3, g3, F3⟩
  have O3 := World.ownsRow.kept O2 g3 (own_blk O2 D2.blk (by decide))
  have R3 : RowsIn w3 w.heap.size xs (scand l).1 := ⟨R2.1, fun k hk => by
    obtain ⟨A', c', e, O⟩ := R2.2 k hk
    exact ⟨A', c', e, O.grown g3 (own_blk O D2.blk (by decide))⟩⟩
  have g03 := grown_to g2 g3
  have hnew := World.ownsRow.lt O2
  have hj := scand_take l
  have hmem := scand_mem hsm
  rw [← hj] at D3
  clear O2 R2 D2 hC g2 b2 g3 hc2'
  go_wp2_with fail
  go_ret2
  refine ⟨w3.heap.size, A3, c3, A2, c2, xs, rfl, g03.size, fun W hW hWd => ?_, grown_on g03 (grown_to (alloc_grown _ _) (World.grownBy.refl _ _)), fun g hg => (hnew g hg).1⟩
  have ga := alloc_grown w3 (.cells #[.pointer (some ⟨d, 0, none⟩), .slice A2 (scand l).1.length c2] 57)
  refine ⟨heap_alloc_new w3 _, ?_, ?_, ?_, hmem, Nat.le_trans hW g03.size, hWd⟩
  · have := D3.quiet ga
    show DiskAt _ d r ((min s (scand l).2 : Nat) : Int) A3 c3 (joined (scand l).1)
    rw [show ((min s (scand l).2 : Nat) : Int) = min (s : Int) ((scand l).2 : Int) by omega]
    exact this
  · have := World.ownsRow.alloc O3 (.cells #[.pointer (some ⟨d, 0, none⟩), .slice A2 (scand l).1.length c2] 57)
    exact ownsRow_mono this hW
  · exact ⟨R3.1, fun k hk => by
      obtain ⟨A', c', e, O⟩ := R3.2 k hk
      exact ⟨A', c', e, (O.alloc _).mono hW⟩⟩
end
end Go.Proofs.Ytkhbpaloicefdaa.Ref
