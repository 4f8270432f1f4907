/- The log and the document's, side by side: what is done to one leaves the other one alone. -/
import Derived.Test.YtkhbpaloicefdaaRLog3
import Derived.Test.YtkhbpaloicefdaaKeeps
namespace Go.Proofs.Ytkhbpaloicefdaa
open Go.RowKit
set_option linter.unusedVariables false
attribute [local go_sem ↓] Go.wp_at_zero Go.wp_at_succ
theorem apart_turn {a b : Option Nat} (h : a = none ∨ a ≠ b) : b = none ∨ b ≠ a := by
  cases b with
  | none => exact .inl rfl
  | some g =>
    refine .inr fun e => ?_
    rcases h with h | h
    · rw [h] at e; cases e
    · exact h e.symm
/-- A block is none of a log's. -/
structure OffP (w : World) (p d : Nat) (A : Option Addr) (v : Value) (xs : List Value) (row : Option Nat) : Prop where
  p : row ≠ some p
  d : row ≠ some d
  f : ∀ ad, A = some ad → some ad.block ≠ row
  l : v.ownBlock = none ∨ v.ownBlock ≠ row
  r : ∀ u ∈ xs, u.ownBlock = none ∨ u.ownBlock ≠ row
section
variable {w w' : World} {W V p d q x c c' cL cR : Nat} {S S' : Lg} {A A' AL AR : Option Addr} {xs ys : List Value} {z : Int} {v' : Value}
theorem rows_list {base n : Nat} {v : Value} {zs : List Value} (h : RowsIn w W xs S.R) (k : w.ownsRow base 32 1 v n zs) : ∀ u ∈ xs, u.ownBlock = none ∨ u.ownBlock ≠ v.ownBlock := by
  intro u hu
  obtain ⟨i, hi, rfl⟩ := List.getElem_of_mem hu
  obtain ⟨A', c', e, O⟩ := h.2 i (by rw [← h.1]; exact hi)
  rw [List.getElem?_eq_getElem hi] at e
  injection e with e
  rw [e]
  exact own_ne_lists O k
theorem offP_blk (h : LogAt w W p d S A c AL cL xs) {b : Nat} {y : Array Value} {t : TypeId} (k : w.heap[b]? = some (.cells y t (0, 0))) (h1 : 66 ≠ t) (h2 : 62 ≠ t) (h3 : 5 ≠ t) (h4 : 32 ≠ t) : OffP w p d A (.slice AL S.R.length cL) xs (some b) :=
  ⟨fun e => blk_ne h.blk k h1 (by injection e with e; exact e.symm), fun e => blk_ne h.disk.blk k h2 (by injection e with e; exact e.symm), fun ad e e2 => by
    obtain ⟨cur, hc⟩ := h.disk.off ad e
    exact blk_ne hc k h3 (by injection e2), own_blk h.list k h4, h.rows_blk k h3⟩
theorem offP_list (h : LogAt w W p d S A c AL cL xs) {base n : Nat} {v : Value} {zs : List Value} (k : w.ownsRow base 32 1 v n zs) (sep : (Value.slice AL S.R.length cL).ownBlock = none ∨ (Value.slice AL S.R.length cL).ownBlock ≠ v.ownBlock) : OffP w p d A (.slice AL S.R.length cL) xs v.ownBlock :=
  ⟨own_blk' k h.blk (by decide), own_blk' k h.disk.blk (by decide), fun ad e e2 => by
    obtain ⟨cur, hc⟩ := h.disk.off ad e
    exact own_blk' k hc (by decide) e2.symm, sep, rows_list h.rows k⟩
theorem offR_blk (h : Ref.LogAt w W p d S A c AL cL xs) {b : Nat} {y : Array Value} {t : TypeId} (k : w.heap[b]? = some (.cells y t (0, 0))) (h1 : 57 ≠ t) (h2 : 52 ≠ t) (h3 : 5 ≠ t) (h4 : 32 ≠ t) : OffP w p d A (.slice AL S.R.length cL) xs (some b) :=
  ⟨fun e => blk_ne h.blk k h1 (by injection e with e; exact e.symm), fun e => blk_ne h.disk.blk k h2 (by injection e with e; exact e.symm), fun ad e e2 => by
    obtain ⟨cur, hc⟩ := h.disk.off ad e
    exact blk_ne hc k h3 (by injection e2), own_blk h.list k h4, h.rows_blk k h3⟩
theorem offR_list (h : Ref.LogAt w W p d S A c AL cL xs) {base n : Nat} {v : Value} {zs : List Value} (k : w.ownsRow base 32 1 v n zs) (sep : (Value.slice AL S.R.length cL).ownBlock = none ∨ (Value.slice AL S.R.length cL).ownBlock ≠ v.ownBlock) : OffP w p d A (.slice AL S.R.length cL) xs v.ownBlock :=
  ⟨own_blk' k h.blk (by decide), own_blk' k h.disk.blk (by decide), fun ad e e2 => by
    obtain ⟨cur, hc⟩ := h.disk.off ad e
    exact own_blk' k hc (by decide) e2.symm, sep, rows_list h.rows k⟩
theorem LogAt.off (h : LogAt w W p d S A c AL cL xs) {row : Option Nat} (g : w.grownBy w' row) {w0 : World} (o : OffP w0 p d A (.slice AL S.R.length cL) xs row) : LogAt w' W p d S A c AL cL xs := h.grown g o.p o.d o.f o.l o.r
theorem Ref.LogAt.off (h : Ref.LogAt w W p d S A c AL cL xs) {row : Option Nat} (g : w.grownBy w' row) {w0 : World} (o : OffP w0 p d A (.slice AL S.R.length cL) xs row) : Ref.LogAt w' W p d S A c AL cL xs := h.grown g o.p o.d o.f o.l o.r
theorem sep_after {n base : Nat} {zs : List Value} {v v' u : Value} (sep : v.ownBlock = none ∨ v.ownBlock ≠ u.ownBlock) (hv : v'.ownBlock = v.ownBlock ∨ ∀ g, v'.ownBlock = some g → w.heap.size ≤ g) (k : w.ownsRow base 32 1 u n zs) : v'.ownBlock = none ∨ v'.ownBlock ≠ u.ownBlock := by
  rcases hv with e | h
  · rw [e]; exact sep
  · cases e : v'.ownBlock with
    | none => exact .inl rfl
    | some g =>
      refine .inr fun e2 => ?_
      have h1 := h g e
      have h2 := (World.ownsRow.lt k g e2.symm).2
      omega
/-- An operation of the log leaves the document's one alone. -/
theorem keepR (Q : Ref.LogAt w W q x S' A' c' AR cR ys) (P : LogAt w V p d S A c AL cL xs) (sep : (Value.slice AL S.R.length cL).ownBlock = none ∨ (Value.slice AL S.R.length cL).ownBlock ≠ (Value.slice AR S'.R.length cR).ownBlock) (T : Trip z w w' d p (.slice AL S.R.length cL) v') :
    Ref.LogAt w' W q x S' A' c' AR cR ys ∧ (v'.ownBlock = none ∨ v'.ownBlock ≠ (Value.slice AR S'.R.length cR).ownBlock) := by
  have o1 := offR_blk Q P.disk.blk (by decide) (by decide) (by decide) (by decide)
  have o2 := offR_list Q P.list (apart_turn sep)
  have o3 := offR_blk Q P.blk (by decide) (by decide) (by decide) (by decide)
  obtain ⟨⟨w1, w2, w3, g1, g2, g3, g4, hv⟩, _⟩ := T
  exact ⟨(((Q.off g1 o1).off g2 o2).off g3 o3).off g4 o1, sep_after sep hv Q.list⟩
/-- An operation of the document's log leaves the log alone. -/
theorem keepP (P : LogAt w V p d S A c AL cL xs) (Q : Ref.LogAt w W q x S' A' c' AR cR ys) (sep : (Value.slice AL S.R.length cL).ownBlock = none ∨ (Value.slice AL S.R.length cL).ownBlock ≠ (Value.slice AR S'.R.length cR).ownBlock) (T : Trip z w w' x q (.slice AR S'.R.length cR) v') :
    LogAt w' V p d S A c AL cL xs ∧ ((Value.slice AL S.R.length cL).ownBlock = none ∨ (Value.slice AL S.R.length cL).ownBlock ≠ v'.ownBlock) := by
  have o1 := offP_blk P Q.disk.blk (by decide) (by decide) (by decide) (by decide)
  have o2 := offP_list P Q.list sep
  have o3 := offP_blk P Q.blk (by decide) (by decide) (by decide) (by decide)
  obtain ⟨⟨w1, w2, w3, g1, g2, g3, g4, hv⟩, _⟩ := T
  exact ⟨(((P.off g1 o1).off g2 o2).off g3 o3).off g4 o1, apart_turn (sep_after (apart_turn sep) hv P.list)⟩
/-- What is done to a disk alone. -/
theorem Trip.disk {v : Value} (g : w.grownBy w' (some d)) : Trip 0 w w' d p v v := ⟨⟨w', w', w', g, World.grownBy.refl _ _, World.grownBy.refl _ _, World.grownBy.refl _ _, .inl rfl⟩, fun h => absurd rfl h⟩
/-- Both logs are S. -/
structure Pair (w : World) (W p d q x : Nat) (S : Lg) (A : Option Addr) (c : Nat) (AL : Option Addr) (cL : Nat) (xs : List Value) (A' : Option Addr) (c' : Nat) (AR : Option Addr) (cR : Nat) (ys : List Value) : Prop where
  P : LogAt w W p d S A c AL cL xs
  Q : Ref.LogAt w W q x S A' c' AR cR ys
  sep : (Value.slice AL S.R.length cL).ownBlock = none ∨ (Value.slice AL S.R.length cL).ownBlock ≠ (Value.slice AR S.R.length cR).ownBlock
theorem Pair.quiet (h : Pair w W p d q x S A c AL cL xs A' c' AR cR ys) (g : w.grownBy w' none) : Pair w' W p d q x S A c AL cL xs A' c' AR cR ys :=
  ⟨h.P.quiet g, h.Q.quiet g, h.sep⟩
set_option maxRecDepth 100000 in
set_option maxHeartbeats 1000000 in
/-- Open; the list that is told is new. -/
theorem open_new {r : Int} {s : Nat} {l : List Nat} (h : DiskAt w d r s A c l) (hs : s ≤ l.length) (hl : l.length ≤ 400000) :
    Calls Try.prog 11 #[.pointer (some ⟨d, 0, none⟩)] w fun e w' => ∃ p A' c' AL cL xs, e = .returned (.tuple #[.pointer (some ⟨p, 0, none⟩), .int .i64 ((l.length : Int) - (scand l).2)]) ∧ w.heap.size ≤ p ∧ (∀ W, W ≤ w.heap.size → W ≤ d → LogAt w' W p d ⟨r, min s (scand l).2, (scand l).1⟩ A' c' AL cL xs) ∧ w.grownBy w' (some d) ∧ (∀ g, (Value.slice AL (scand l).1.length cL).ownBlock = some g → w.heap.size ≤ g) := by
  have hsm := h.small
  have hle := scand_le l
  have hfew := scand_few l
  have hlt := h.lt
  go_enter Try.func11, Try.ntmps11
  go_wp2_with fail
  refine (bytes_of h (by omega)).mono ?_
  rintro e w1 ⟨A1, c1, rfl, O1, b1⟩
  have g1 := below_quiet2 b1
  have D1 := h.quiet g1
  have hS := scan_any A1 c1 _ l w1 O1.reads (Nat.le_refl _) hsm O1.room (by omega)
  clear h
  go_wp2_with fail
  refine hS.mono ?_
  rintro e w2 ⟨A2, c2, xs, rfl, O2, R2, b2⟩
  have g2 := below_quiet2 b2
  have D2 := D1.quiet g2
  have hC := cut_new D2 (scand l).2 hle hl (by omega) (by omega)
  have g02 := grown_to g1 g2
  have hw1 : w.heap.size ≤ w1.heap.size := b1.size
  clear D1 hS O1 b1
  go_wp2_with fail
  refine hC.mono ?_
  rintro e w3 ⟨A3, c3, rfl, D3, g3, F3⟩
  have O3 := World.ownsRow.kept O2 g3 (own_blk O2 D2.blk (by decide))
  have R3 : RowsIn w3 w1.heap.size xs (scand l).1 := ⟨R2.1, fun k hk => by
    obtain ⟨A', c', e, O⟩ := R2.2 k hk
    exact ⟨A', c', e, O.grown g3 (own_blk O D2.blk (by decide))⟩⟩
  have g03 := grown_to g02 g3
  have hnew := World.ownsRow.lt O2
  have hj := scand_take l
  have hmem := scand_mem hsm
  rw [← hj] at D3
  clear O2 R2 D2 hC g02 g1 g2 b2 g3
  go_wp2_with fail
  go_ret2
  refine ⟨w3.heap.size, A3, c3, A2, c2, xs, rfl, g03.size, fun W hW hWd => ?_, grown_on g03 (grown_to (alloc_grown _ _) (World.grownBy.refl _ _)), fun g hg => Nat.le_trans hw1 (hnew g hg).1⟩
  have ga := alloc_grown w3 (.cells #[.pointer (some ⟨d, 0, none⟩), .slice A2 (scand l).1.length c2] 66)
  refine ⟨heap_alloc_new w3 _, ?_, ?_, ?_, hmem, Nat.le_trans hW g03.size, hWd⟩
  · have := D3.quiet ga
    show DiskAt _ d r ((min s (scand l).2 : Nat) : Int) A3 c3 (joined (scand l).1)
    rw [show ((min s (scand l).2 : Nat) : Int) = min (s : Int) ((scand l).2 : Int) by omega]
    exact this
  · have := World.ownsRow.alloc O3 (.cells #[.pointer (some ⟨d, 0, none⟩), .slice A2 (scand l).1.length c2] 66)
    exact ownsRow_mono this (Nat.le_trans hW hw1)
  · exact ⟨R3.1, fun k hk => by
      obtain ⟨A', c', e, O⟩ := R3.2 k hk
      exact ⟨A', c', e, (O.alloc _).mono (Nat.le_trans hW hw1)⟩⟩
end
end Go.Proofs.Ytkhbpaloicefdaa
