/- The document's disk on memory (written by mkref.py). -/
import Derived.Test.YtkhbpaloicefdaaCrash
import Derived.Deep.QuietTactic
import Derived.BigQuiet
import Derived.Deep.RegionHeld3
import Derived.Deep.DrawnRows
namespace Go.Proofs.Ytkhbpaloicefdaa.Ref
open Go.RowKit
set_option linter.unusedVariables false
attribute [local go_sem ↓] Go.wp_at_zero Go.wp_at_succ
/-- The disk at block d: its room, how much is synced, its bytes. -/
structure DiskAt (w : World) (d : Nat) (r s : Int) (A : Option Addr) (c : Nat) (l : List Nat) : Prop where
  blk : w.heap[d]? = some (.cells #[.int .i64 r, .int .i64 s, .slice A l.length c] 52 (0, 0))
  row : BytesAt w w.heap.size A l
  off : ∀ ad, A = some ad → ∃ cur, w.heap[ad.block]? = some (.cells cur 5 (0, 0))
  room : Roomy A l.length c
  small : Small l
section
variable {w w' : World} {d c c' : Nat} {r s r' s' : Int} {A A' : Option Addr} {l l' : List Nat}
theorem DiskAt.lt (h : DiskAt w d r s A c l) : d < w.heap.size := by
  rcases Nat.lt_or_ge d w.heap.size with hlt | hge
  · exact hlt
  · have := h.blk; rw [Array.getElem?_eq_none hge] at this; cases this
theorem DiskAt.row_ne (h : DiskAt w d r s A c l) {b : Nat} (hb : ∃ cur, w.heap[b]? = some (.cells cur 5 (0, 0))) : b ≠ d := by
  rintro rfl
  obtain ⟨cur, hc⟩ := hb
  rw [h.blk] at hc
  injection hc with hc
  injection hc with _ h2
  cases h2
/-- A disk's file lies off every disk. -/
theorem DiskAt.far {x : Nat} (h : DiskAt w d r s A c l) (h' : DiskAt w x r' s' A' c' l') : ∀ ad, A = some ad → ad.block ≠ x := fun ad e => h'.row_ne (h.off ad e)
theorem DiskAt.ne (h : DiskAt w d r s A c l) : ∀ ad, A = some ad → ad.block ≠ d := h.far h
theorem DiskAt.cell0 (h : DiskAt w d r s A c l) : w.cell? ⟨d, 0, none⟩ = some (.int .i64 r) := by
  have := cell_of_row w d 0 _ 52 (0, 0) h.blk; simpa using this
theorem DiskAt.cell1 (h : DiskAt w d r s A c l) : w.cell? ⟨d, 1, none⟩ = some (.int .i64 s) := by
  have := cell_of_row w d 1 _ 52 (0, 0) h.blk; simpa using this
theorem DiskAt.cell2 (h : DiskAt w d r s A c l) : w.cell? ⟨d, 2, none⟩ = some (.slice A l.length c) := by
  have := cell_of_row w d 2 _ 52 (0, 0) h.blk; simpa using this
theorem DiskAt.free (h : DiskAt w d r s A c l) (i : Nat) : w.frozen? ⟨d, i, none⟩ = false := by
  have := h.blk
  simp [World.frozen?, this]
/-- Whatever else happens. -/
theorem DiskAt.grown (h : DiskAt w d r s A c l) {row : Option Nat} (g : w.grownBy w' row) (hd : row ≠ some d) (hne : ∀ ad, A = some ad → some ad.block ≠ row) : DiskAt w' d r s A c l :=
  ⟨(g.block d h.lt (fun e => hd e.symm)).trans h.blk, h.row.off_grown g hne, fun ad e => by
    obtain ⟨cur, hc⟩ := h.off ad e
    exact ⟨cur, (g.block _ (Array.getElem?_eq_some_iff.1 hc).1 (hne ad e)).trans hc⟩, h.room, h.small⟩
theorem DiskAt.quiet (h : DiskAt w d r s A c l) (g : w.grownBy w' none) : DiskAt w' d r s A c l := h.grown g (by simp) (by simp)
theorem DiskAt.setRoom (h : DiskAt w d r s A c l) (r' : Int) : DiskAt (w.setCell ⟨d, 0, none⟩ (.int .i64 r')) d r' s A c l :=
  ⟨by simp [World.setCell, Array.getElem?_modify, h.blk], h.row.off_grown (set_grown w d 0 _) (fun ad e h2 => h.ne ad e (by injection h2)), fun ad e => by
    obtain ⟨cur, hc⟩ := h.off ad e
    exact ⟨cur, ((set_grown w d _ _).block _ (Array.getElem?_eq_some_iff.1 hc).1 (fun e2 => h.ne ad e (by injection e2))).trans hc⟩, h.room, h.small⟩
theorem DiskAt.setSync (h : DiskAt w d r s A c l) (s' : Int) : DiskAt (w.setCell ⟨d, 1, none⟩ (.int .i64 s')) d r s' A c l :=
  ⟨by simp [World.setCell, Array.getElem?_modify, h.blk], h.row.off_grown (set_grown w d 1 _) (fun ad e h2 => h.ne ad e (by injection h2)), fun ad e => by
    obtain ⟨cur, hc⟩ := h.off ad e
    exact ⟨cur, ((set_grown w d _ _).block _ (Array.getElem?_eq_some_iff.1 hc).1 (fun e2 => h.ne ad e (by injection e2))).trans hc⟩, h.room, h.small⟩
/-- Another file in its place. -/
theorem DiskAt.setFile (h : DiskAt w d r s A c l) (hrow : BytesAt w w.heap.size A' l') (hoff : ∀ ad, A' = some ad → ∃ cur, w.heap[ad.block]? = some (.cells cur 5 (0, 0))) (hr : Roomy A' l'.length c') (hs : Small l') : DiskAt (w.setCell ⟨d, 2, none⟩ (.slice A' l'.length c')) d r s A' c' l' :=
  ⟨by simp [World.setCell, Array.getElem?_modify, h.blk], hrow.off_grown (set_grown w d 2 _) (fun ad e h2 => h.row_ne (hoff ad e) (by injection h2)), fun ad e => by
    obtain ⟨cur, hc⟩ := hoff ad e
    exact ⟨cur, ((set_grown w d _ _).block _ (Array.getElem?_eq_some_iff.1 hc).1 (fun e2 => h.row_ne (hoff ad e) (by injection e2))).trans hc⟩, hr, hs⟩
theorem DiskAt.new_ (w : World) (r : Int) : DiskAt (w.alloc (.cells #[.int .i64 r, .int .i64 0, .slice none 0 0] 52)) w.heap.size r 0 none 0 [] :=
  ⟨heap_alloc_new w _, Reads.none_, fun ad e => (by cases e), ⟨Nat.le_refl _, by simp, fun _ => rfl⟩, by simp [Small]⟩
set_option maxRecDepth 100000 in
theorem sync_any (h : DiskAt w d r s A c l) :
    Calls Try.prog 27 #[.pointer (some ⟨d, 0, none⟩)] w fun e w' => e = .returned (.tuple #[]) ∧ DiskAt w' d r l.length A c l ∧ w.grownBy w' (some d) := by
  have c2 := h.cell2
  have c1 := h.cell1
  have f1 := h.free 1
  have H := h.setSync l.length
  go_enter Try.func27, Try.ntmps27
  go_wp2_with fail
  go_end0
  exact ⟨rfl, H, set_grown _ _ _ _⟩
/-- The two kinds of disk lie apart. -/
theorem DiskAt.twin_ne {x : Nat} (h : DiskAt w d r s A c l) (h' : Go.Proofs.Ytkhbpaloicefdaa.DiskAt w x r' s' A' c' l') : d ≠ x := by
  rintro rfl
  have h1 := h.blk
  rw [h'.blk] at h1
  injection h1 with h1
  injection h1 with _ h2
  cases h2
theorem DiskAt.besideD {x : Nat} (h : DiskAt w d r s A c l) (h' : Go.Proofs.Ytkhbpaloicefdaa.DiskAt w x r' s' A' c' l') (g : w.grownBy w' (some x)) : DiskAt w' d r s A c l :=
  h.grown g (fun e => h.twin_ne h' (by injection e with e; exact e.symm)) (fun ad e e2 => h'.row_ne (h.off ad e) (by injection e2))
theorem DiskAt.besideR {x : Nat} (h : DiskAt w d r s A c l) (h' : Go.Proofs.Ytkhbpaloicefdaa.DiskAt w x r' s' A' c' l') (g : w.grownBy w' (some d)) : Go.Proofs.Ytkhbpaloicefdaa.DiskAt w' x r' s' A' c' l' :=
  h'.grown g (fun e => h.twin_ne h' (by injection e)) (fun ad e e2 => h.row_ne (h'.off ad e) (by injection e2))
set_option maxRecDepth 100000 in
theorem resize_yes (h : DiskAt w d r s A c l) (n : Int) (hn : 0 ≤ n ∧ n ≤ 1073741824) :
    Calls Try.prog 32 #[.pointer (some ⟨d, 0, none⟩), .int .i64 n] w fun e w' => e = .returned (.bool true) ∧ DiskAt w' d n s A c l ∧ w.grownBy w' (some d) := by
  have c0 := h.cell0
  have f0 := h.free 0
  have H := h.setRoom n
  have q1 := hn.1
  have q2 := hn.2
  clear hn
  go_enter Try.func32, Try.ntmps32
  go_wp2_with fail
  go_ret
  exact ⟨rfl, H, set_grown _ _ _ _⟩
set_option maxRecDepth 100000 in
theorem resize_no (n : Int) (hn : ¬ (0 ≤ n ∧ n ≤ 1073741824)) :
    Calls Try.prog 32 #[.pointer (some ⟨d, 0, none⟩), .int .i64 n] w fun e w' => e = .returned (.bool false) ∧ w = w' := by
  rcases (show n < 0 ∨ (¬ n < 0 ∧ 1073741824 < n) by omega) with q1 | ⟨q1, q2⟩
  all_goals
    clear hn
    go_enter Try.func32, Try.ntmps32
    go_wp2_with fail
    go_ret
    exact ⟨rfl, rfl⟩
end
end Go.Proofs.Ytkhbpaloicefdaa.Ref
