/- A log on memory; wal.Open, Sync, Records, Disk. -/
import Derived.Test.YtkhbpaloicefdaaOwns
namespace Go.Proofs.Ytkhbpaloicefdaa
open Go.RowKit
set_option linter.unusedVariables false
attribute [local go_sem ↓] Go.wp_at_zero Go.wp_at_succ
/-- The log at block p: its disk at block d, its records. -/
structure LogAt (w : World) (W p d : Nat) (S : Lg) (A : Option Addr) (c : Nat) (AL : Option Addr) (cL : Nat) (xs : List Value) : Prop where
  blk : w.heap[p]? = some (.cells #[.pointer (some ⟨d, 0, none⟩), .slice AL S.R.length cL] 66 (0, 0))
  disk : DiskAt w d S.r S.s A c (joined S.R)
  list : w.ownsRow W 32 1 (.slice AL S.R.length cL) S.R.length xs
  rows : RowsIn w W xs S.R
  few : ∀ q ∈ S.R, Small q ∧ q.length ≤ 8192
  wp : W ≤ p
  wd : W ≤ d
section
variable {w w' : World} {W p d c cL : Nat} {S : Lg} {A AL : Option Addr} {xs : List Value}
theorem LogAt.lt (h : LogAt w W p d S A c AL cL xs) : p < w.heap.size := (Array.getElem?_eq_some_iff.1 h.blk).1
theorem LogAt.cell0 (h : LogAt w W p d S A c AL cL xs) : w.cell? ⟨p, 0, none⟩ = some (.pointer (some ⟨d, 0, none⟩)) := by
  have := cell_of_row w p 0 _ 66 (0, 0) h.blk; simpa using this
theorem LogAt.cell1 (h : LogAt w W p d S A c AL cL xs) : w.cell? ⟨p, 1, none⟩ = some (.slice AL S.R.length cL) := by
  have := cell_of_row w p 1 _ 66 (0, 0) h.blk; simpa using this
theorem LogAt.free (h : LogAt w W p d S A c AL cL xs) (i : Nat) : w.frozen? ⟨p, i, none⟩ = false := by
  have := h.blk
  simp [World.frozen?, this]
/-- Two blocks of two types are two. -/
theorem blk_ne {a b : Nat} {x y : Array Value} {s t : TypeId} (h : w.heap[a]? = some (.cells x s (0, 0))) (k : w.heap[b]? = some (.cells y t (0, 0))) (hne : s ≠ t) : a ≠ b := by
  rintro rfl
  rw [h] at k
  injection k with k
  injection k with _ k
  exact hne k
theorem LogAt.pd (h : LogAt w W p d S A c AL cL xs) : p ≠ d := blk_ne h.blk h.disk.blk (by decide)
theorem own_blk {base n : Nat} {e : TypeId} {v : Value} {ys : List Value} (h : w.ownsRow base e 1 v n ys) {b : Nat} {x : Array Value} {t : TypeId} (k : w.heap[b]? = some (.cells x t (0, 0))) (hne : e ≠ t) : v.ownBlock = none ∨ v.ownBlock ≠ some b := by
  rcases h.2 with ⟨rfl, _⟩ | ⟨g, cp, cur, rfl, _, hg, _⟩
  · exact .inl rfl
  · refine .inr fun e2 => ?_
    simp [Value.ownBlock] at e2
    exact blk_ne hg k hne e2
theorem LogAt.file_ne (h : LogAt w W p d S A c AL cL xs) : ∀ ad, A = some ad → ad.block ≠ p := fun ad e => by
  obtain ⟨cur, hc⟩ := h.disk.off ad e
  exact blk_ne hc h.blk (by decide)
theorem LogAt.grown (h : LogAt w W p d S A c AL cL xs) {row : Option Nat} (g : w.grownBy w' row) (h1 : row ≠ some p) (h2 : row ≠ some d) (h3 : ∀ ad, A = some ad → some ad.block ≠ row) (h4 : (Value.slice AL S.R.length cL).ownBlock = none ∨ (Value.slice AL S.R.length cL).ownBlock ≠ row) (h5 : ∀ u ∈ xs, u.ownBlock = none ∨ u.ownBlock ≠ row) : LogAt w' W p d S A c AL cL xs :=
  ⟨(g.block p h.lt (fun e => h1 e.symm)).trans h.blk, h.disk.grown g h2 h3, World.ownsRow.kept h.list g h4, ⟨h.rows.1, fun k hk => by
    obtain ⟨A', c', e, O⟩ := h.rows.2 k hk
    exact ⟨A', c', e, O.grown g (h5 _ (List.mem_of_getElem? e))⟩⟩, h.few, h.wp, h.wd⟩
theorem LogAt.quiet (h : LogAt w W p d S A c AL cL xs) (g : w.grownBy w' none) : LogAt w' W p d S A c AL cL xs :=
  h.grown g (by simp) (by simp) (by simp) (by cases hv : (Value.slice AL S.R.length cL).ownBlock <;> simp) (fun u _ => by cases hv : u.ownBlock <;> simp)
theorem LogAt.rows_blk (h : LogAt w W p d S A c AL cL xs) {b : Nat} {x : Array Value} {t : TypeId} (k : w.heap[b]? = some (.cells x t (0, 0))) (hne : 5 ≠ t) : ∀ u ∈ xs, u.ownBlock = none ∨ u.ownBlock ≠ some b := by
  intro u hu
  obtain ⟨i, hi, rfl⟩ := List.getElem_of_mem hu
  obtain ⟨A', c', e, O⟩ := h.rows.2 i (by rw [← h.rows.1]; exact hi)
  rw [List.getElem?_eq_getElem hi] at e
  injection e with e
  rw [e]
  exact own_blk O k hne
/-- The disk has changed: the rest stands. -/
theorem LogAt.turn (h : LogAt w W p d S A c AL cL xs) (g : w.grownBy w' (some d)) {S' : Lg} {A' : Option Addr} {c' : Nat} (hR : S'.R = S.R) (hD : DiskAt w' d S'.r S'.s A' c' (joined S'.R)) : LogAt w' W p d S' A' c' AL cL xs := by
  refine ⟨?_, hD, ?_, ?_, by rw [hR]; exact h.few, h.wp, h.wd⟩
  · rw [hR]; exact (g.block p h.lt (fun e => h.pd (by injection e))).trans h.blk
  · rw [hR]; exact World.ownsRow.kept h.list g (own_blk h.list h.disk.blk (by decide))
  · rw [hR]
    exact ⟨h.rows.1, fun k hk => by
      obtain ⟨A', c', e, O⟩ := h.rows.2 k hk
      exact ⟨A', c', e, O.grown g (h.rows_blk h.disk.blk (by decide) _ (List.mem_of_getElem? e))⟩⟩
theorem ownsRow_mono {base base' n : Nat} {e : TypeId} {v : Value} {ys : List Value} (h : w.ownsRow base e 1 v n ys) (hb : base' ≤ base) : w.ownsRow base' e 1 v n ys := by
  refine ⟨h.1, ?_⟩
  rcases h.2 with hn | ⟨g, cap, cur, e, hg, rest⟩
  · exact .inl hn
  · exact .inr ⟨g, cap, cur, e, Nat.le_trans hb hg, rest⟩
theorem alloc_grown (w : World) (o : Obj) : w.grownBy (w.alloc o) none := ⟨rfl, rfl, rfl, by simp, fun k hk _ => Below.heap_alloc w o k hk⟩
set_option maxRecDepth 100000 in
theorem log_disk (h : LogAt w W p d S A c AL cL xs) :
    Calls Try.prog 33 #[.pointer (some ⟨p, 0, none⟩)] w fun e w' => e = .returned (.pointer (some ⟨d, 0, none⟩)) ∧ w = w' := by
  have c0 := h.cell0
  go_enter Try.func33, Try.ntmps33
  go_wp2_with fail
  go_ret
  exact ⟨rfl, rfl⟩
set_option maxRecDepth 100000 in
theorem log_sync (h : LogAt w W p d S A c AL cL xs) :
    Calls Try.prog 13 #[.pointer (some ⟨p, 0, none⟩)] w fun e w' => e = .returned (.tuple #[]) ∧ LogAt w' W p d (syncL S) A c AL cL xs ∧ w.grownBy w' (some d) := by
  have c0 := h.cell0
  go_enter Try.func13, Try.ntmps13
  go_wp2_with fail
  refine (sync_any h.disk).mono ?_
  rintro e w1 ⟨rfl, D1, g1⟩
  have H := h.turn g1 (S' := syncL S) rfl D1
  go_wp2_with fail
  go_end0
  exact ⟨rfl, H, g1⟩
set_option maxRecDepth 100000 in
theorem log_records (h : LogAt w W p d S A c AL cL xs) (hl : S.R.length ≤ 100000) :
    Calls Try.prog 14 #[.pointer (some ⟨p, 0, none⟩)] w fun e w' => ∃ A' c' ys, e = .returned (.slice A' S.R.length c') ∧ w'.ownsRow w.heap.size 32 1 (.slice A' S.R.length c') S.R.length ys ∧ RowsIn w' w.heap.size ys S.R ∧ Below w.heap.size w w' := by
  have c1 := h.cell1
  have hC := copied_any AL cL _ S.R w (PsAt.of_own h.list h.rows (fun q hq => (h.few q hq).1)) (Nat.le_refl _) hl (fun q hq => by have := (h.few q hq).2; omega)
  go_enter Try.func14, Try.ntmps14
  go_wp2_with fail
  refine hC.mono ?_
  rintro e w1 ⟨A', c', ys, rfl, O, R, b⟩
  go_wp2_with fail
  go_ret
  exact ⟨A', c', ys, rfl, O, R, b⟩
set_option maxRecDepth 100000 in
set_option maxHeartbeats 1000000 in
/-- Open: the file is cut behind its last whole record. -/
theorem open_any {r : Int} {s : Nat} {l : List Nat} (h : DiskAt w d r s A c l) (hs : s ≤ l.length) (hl : l.length ≤ 400000) :
    Calls Try.prog 11 #[.pointer (some ⟨d, 0, none⟩)] w fun e w' => ∃ p A' c' AL cL xs, e = .returned (.tuple #[.pointer (some ⟨p, 0, none⟩), .int .i64 ((l.length : Int) - (scand l).2)]) ∧ w.heap.size ≤ p ∧ (∀ W, W ≤ w.heap.size → W ≤ d → LogAt w' W p d ⟨r, min s (scand l).2, (scand l).1⟩ A' c' AL cL xs) ∧ w.grownBy w' (some d) := by
  have hsm := h.small
  have hle := scand_le l
  have hfew := scand_few l
  have hlt := h.lt
  go_enter Try.func11, Try.ntmps11
  go_wp2_with fail
  refine (bytes_of h (by omega)).mono ?_
  rintro e w1 ⟨A1, c1, rfl, O1, b1⟩
  have g1 := below_quiet2 b1
  have D1 := h.quiet g1
  have hS := scan_any A1 c1 _ l w1 O1.reads (Nat.le_refl _) hsm O1.room (by omega)
  clear h
  go_wp2_with fail
  refine hS.mono ?_
  rintro e w2 ⟨A2, c2, xs, rfl, O2, R2, b2⟩
  have g2 := below_quiet2 b2
  have D2 := D1.quiet g2
  have hC := cut_new D2 (scand l).2 hle hl (by omega) (by omega)
  have g02 := grown_to g1 g2
  have hw1 : w.heap.size ≤ w1.heap.size := b1.size
  clear D1 hS O1 b1
  go_wp2_with fail
  refine hC.mono ?_
  rintro e w3 ⟨A3, c3, rfl, D3, g3, F3⟩
  have O3 := World.ownsRow.kept O2 g3 (own_blk O2 D2.blk (by decide))
  have R3 : RowsIn w3 w1.heap.size xs (scand l).1 := ⟨R2.1, fun k hk => by
    obtain ⟨A', c', e, O⟩ := R2.2 k hk
    exact ⟨A', c', e, O.grown g3 (own_blk O D2.blk (by decide))⟩⟩
  have g03 := grown_to g02 g3
  have hj := scand_take l
  have hmem := scand_mem hsm
  rw [← hj] at D3
  clear O2 R2 D2 hC g02 g1 g2 b2 g3
  go_wp2_with fail
  go_ret2
  refine ⟨w3.heap.size, A3, c3, A2, c2, xs, rfl, g03.size, fun W hW hWd => ?_, grown_on g03 (grown_to (alloc_grown _ _) (World.grownBy.refl _ _))⟩
  have ga := alloc_grown w3 (.cells #[.pointer (some ⟨d, 0, none⟩), .slice A2 (scand l).1.length c2] 66)
  refine ⟨heap_alloc_new w3 _, ?_, ?_, ?_, hmem, Nat.le_trans hW g03.size, hWd⟩
  · have := D3.quiet ga
    show DiskAt _ d r ((min s (scand l).2 : Nat) : Int) A3 c3 (joined (scand l).1)
    rw [show ((min s (scand l).2 : Nat) : Int) = min (s : Int) ((scand l).2 : Int) by omega]
    exact this
  · have := World.ownsRow.alloc O3 (.cells #[.pointer (some ⟨d, 0, none⟩), .slice A2 (scand l).1.length c2] 66)
    exact ownsRow_mono this (Nat.le_trans hW hw1)
  · exact ⟨R3.1, fun k hk => by
      obtain ⟨A', c', e, O⟩ := R3.2 k hk
      exact ⟨A', c', e, (O.alloc _).mono (Nat.le_trans hW hw1)⟩⟩
end
end Go.Proofs.Ytkhbpaloicefdaa
