/- A disk on memory; New, Sync, Synced, Roomy, Resize. -/
import Derived.Test.YtkhbpaloicefdaaCopy
import Derived.Deep.RegionHeld3
import Derived.Deep.DrawnRows
namespace Go.Proofs.Ytkhbpaloicefdaa
open Go.RowKit
set_option linter.unusedVariables false
attribute [local go_sem ↓] Go.wp_at_zero Go.wp_at_succ
/-- A slice's room. -/
structure Roomy (A : Option Addr) (n c : Nat) : Prop where
  le : n ≤ c
  max : c ≤ maxLen
  nil : A = none → c = 0
/-- The disk at block d: its room, how much is synced, its bytes. -/
structure DiskAt (w : World) (d : Nat) (r s : Int) (A : Option Addr) (c : Nat) (l : List Nat) : Prop where
  blk : w.heap[d]? = some (.cells #[.int .i64 r, .int .i64 s, .slice A l.length c] 62 (0, 0))
  row : BytesAt w w.heap.size A l
  off : ∀ ad, A = some ad → ∃ cur, w.heap[ad.block]? = some (.cells cur 5 (0, 0))
  room : Roomy A l.length c
  small : Small l
section
variable {w w' : World} {d c c' : Nat} {r s r' s' : Int} {A A' : Option Addr} {l l' : List Nat}
theorem DiskAt.lt (h : DiskAt w d r s A c l) : d < w.heap.size := by
  rcases Nat.lt_or_ge d w.heap.size with hlt | hge
  · exact hlt
  · have := h.blk; rw [Array.getElem?_eq_none hge] at this; cases this
theorem DiskAt.row_ne (h : DiskAt w d r s A c l) {b : Nat} (hb : ∃ cur, w.heap[b]? = some (.cells cur 5 (0, 0))) : b ≠ d := by
  rintro rfl
  obtain ⟨cur, hc⟩ := hb
  rw [h.blk] at hc
  injection hc with hc
  injection hc with _ h2
  cases h2
/-- A disk's file lies off every disk. -/
theorem DiskAt.far {x : Nat} (h : DiskAt w d r s A c l) (h' : DiskAt w x r' s' A' c' l') : ∀ ad, A = some ad → ad.block ≠ x := fun ad e => h'.row_ne (h.off ad e)
theorem DiskAt.ne (h : DiskAt w d r s A c l) : ∀ ad, A = some ad → ad.block ≠ d := h.far h
theorem DiskAt.cell0 (h : DiskAt w d r s A c l) : w.cell? ⟨d, 0, none⟩ = some (.int .i64 r) := by
  have := cell_of_row w d 0 _ 62 (0, 0) h.blk; simpa using this
theorem DiskAt.cell1 (h : DiskAt w d r s A c l) : w.cell? ⟨d, 1, none⟩ = some (.int .i64 s) := by
  have := cell_of_row w d 1 _ 62 (0, 0) h.blk; simpa using this
theorem DiskAt.cell2 (h : DiskAt w d r s A c l) : w.cell? ⟨d, 2, none⟩ = some (.slice A l.length c) := by
  have := cell_of_row w d 2 _ 62 (0, 0) h.blk; simpa using this
theorem DiskAt.free (h : DiskAt w d r s A c l) (i : Nat) : w.frozen? ⟨d, i, none⟩ = false := by
  have := h.blk
  simp [World.frozen?, this]
theorem BytesAt.off_grown {w w' : World} {A : Option Addr} {l : List Nat} {row : Option Nat} (h : BytesAt w w.heap.size A l) (g : w.grownBy w' row) (hne : ∀ ad, A = some ad → some ad.block ≠ row) : BytesAt w' w'.heap.size A l := by
  refine ⟨h.1, fun hn => ?_⟩
  obtain ⟨ad, e, hb, hc⟩ := h.2 hn
  refine ⟨ad, e, Nat.lt_of_lt_of_le hb g.size, fun j u hu => g.cell (hc j u hu) ?_⟩
  rw [block_of_add]
  exact hne ad e
/-- Whatever else happens. -/
theorem DiskAt.grown (h : DiskAt w d r s A c l) {row : Option Nat} (g : w.grownBy w' row) (hd : row ≠ some d) (hne : ∀ ad, A = some ad → some ad.block ≠ row) : DiskAt w' d r s A c l :=
  ⟨(g.block d h.lt (fun e => hd e.symm)).trans h.blk, h.row.off_grown g hne, fun ad e => by
    obtain ⟨cur, hc⟩ := h.off ad e
    exact ⟨cur, (g.block _ (Array.getElem?_eq_some_iff.1 hc).1 (hne ad e)).trans hc⟩, h.room, h.small⟩
theorem DiskAt.quiet (h : DiskAt w d r s A c l) (g : w.grownBy w' none) : DiskAt w' d r s A c l := h.grown g (by simp) (by simp)
theorem set_grown (w : World) (d i : Nat) (v : Value) : w.grownBy (w.setCell ⟨d, i, none⟩ v) (some d) :=
  ⟨rfl, rfl, rfl, by simp [World.setCell], fun k hk hne => Below.heap_setCell w _ v k (by rintro rfl; exact hne rfl)⟩
/-- What is done to one disk leaves another one alone. -/
theorem DiskAt.beside {x : Nat} (h : DiskAt w d r s A c l) (h' : DiskAt w x r' s' A' c' l') (hx : x ≠ d) (g : w.grownBy w' (some x)) : DiskAt w' d r s A c l :=
  h.grown g (fun e => hx (by injection e)) (fun ad e e2 => h.far h' ad e (by injection e2))
theorem DiskAt.setRoom (h : DiskAt w d r s A c l) (r' : Int) : DiskAt (w.setCell ⟨d, 0, none⟩ (.int .i64 r')) d r' s A c l :=
  ⟨by simp [World.setCell, Array.getElem?_modify, h.blk], h.row.off_grown (set_grown w d 0 _) (fun ad e h2 => h.ne ad e (by injection h2)), fun ad e => by
    obtain ⟨cur, hc⟩ := h.off ad e
    exact ⟨cur, ((set_grown w d _ _).block _ (Array.getElem?_eq_some_iff.1 hc).1 (fun e2 => h.ne ad e (by injection e2))).trans hc⟩, h.room, h.small⟩
theorem DiskAt.setSync (h : DiskAt w d r s A c l) (s' : Int) : DiskAt (w.setCell ⟨d, 1, none⟩ (.int .i64 s')) d r s' A c l :=
  ⟨by simp [World.setCell, Array.getElem?_modify, h.blk], h.row.off_grown (set_grown w d 1 _) (fun ad e h2 => h.ne ad e (by injection h2)), fun ad e => by
    obtain ⟨cur, hc⟩ := h.off ad e
    exact ⟨cur, ((set_grown w d _ _).block _ (Array.getElem?_eq_some_iff.1 hc).1 (fun e2 => h.ne ad e (by injection e2))).trans hc⟩, h.room, h.small⟩
/-- Another file in its place. -/
theorem DiskAt.setFile (h : DiskAt w d r s A c l) (hrow : BytesAt w w.heap.size A' l') (hoff : ∀ ad, A' = some ad → ∃ cur, w.heap[ad.block]? = some (.cells cur 5 (0, 0))) (hr : Roomy A' l'.length c') (hs : Small l') : DiskAt (w.setCell ⟨d, 2, none⟩ (.slice A' l'.length c')) d r s A' c' l' :=
  ⟨by simp [World.setCell, Array.getElem?_modify, h.blk], hrow.off_grown (set_grown w d 2 _) (fun ad e h2 => h.row_ne (hoff ad e) (by injection h2)), fun ad e => by
    obtain ⟨cur, hc⟩ := hoff ad e
    exact ⟨cur, ((set_grown w d _ _).block _ (Array.getElem?_eq_some_iff.1 hc).1 (fun e2 => h.row_ne (hoff ad e) (by injection e2))).trans hc⟩, hr, hs⟩
theorem DiskAt.new_ (w : World) (r : Int) : DiskAt (w.alloc (.cells #[.int .i64 r, .int .i64 0, .slice none 0 0] 62)) w.heap.size r 0 none 0 [] :=
  ⟨heap_alloc_new w _, Reads.none_, fun ad e => (by cases e), ⟨Nat.le_refl _, by simp, fun _ => rfl⟩, by simp [Small]⟩
set_option maxRecDepth 100000 in
theorem new_yes (r : Int) (h1 : 0 ≤ r) (h2 : r ≤ 1073741824) (w : World) :
    Calls Try.prog 9 #[.int .i64 r] w fun e w' => e = .returned (.tuple #[.pointer (some ⟨w.heap.size, 0, none⟩), .int .i64 0]) ∧ w.alloc (.cells #[.int .i64 r, .int .i64 0, .slice none 0 0] 62) = w' := by
  have hf : ∀ w : World, Calls Try.prog 34 #[.int .i64 r] w fun e w' => e = .returned (.bool true) ∧ w = w' := by
    intro w
    go_enter Try.func34, Try.ntmps34
    go_wp2_with fail
    go_ret
    exact ⟨rfl, rfl⟩
  go_enter Try.func9, Try.ntmps9
  go_wp2_with fail
  refine (hf _).mono ?_
  rintro e w1 ⟨rfl, rfl⟩
  go_wp2_with fail
  go_ret2
  exact ⟨rfl, rfl⟩
set_option maxRecDepth 100000 in
theorem sync_any (h : DiskAt w d r s A c l) :
    Calls Try.prog 38 #[.pointer (some ⟨d, 0, none⟩)] w fun e w' => e = .returned (.tuple #[]) ∧ DiskAt w' d r l.length A c l ∧ w.grownBy w' (some d) := by
  have c2 := h.cell2
  have c1 := h.cell1
  have f1 := h.free 1
  have H := h.setSync l.length
  go_enter Try.func38, Try.ntmps38
  go_wp2_with fail
  go_end0
  exact ⟨rfl, H, set_grown _ _ _ _⟩
set_option maxRecDepth 100000 in
theorem synced_any (h : DiskAt w d r s A c l) :
    Calls Try.prog 23 #[.pointer (some ⟨d, 0, none⟩)] w fun e w' => e = .returned (.int .i64 s) ∧ w = w' := by
  have c1 := h.cell1
  go_enter Try.func23, Try.ntmps23
  go_wp2_with fail
  go_ret
  exact ⟨rfl, rfl⟩
theorem fits_any (n : Int) (w : World) : Calls Try.prog 34 #[.int .i64 n] w fun e w' => e = .returned (.bool (decide (0 ≤ n ∧ n ≤ 1073741824))) ∧ w = w' := by
  by_cases h1 : 0 ≤ n
  · by_cases h2 : n ≤ 1073741824
    · rw [decide_eq_true ⟨h1, h2⟩]
      go_enter Try.func34, Try.ntmps34
      go_wp2_with fail
      go_ret
      exact ⟨rfl, rfl⟩
    · rw [decide_eq_false (fun h => h2 h.2)]
      have e : decide (n ≤ 1073741824) = false := by simpa using h2
      go_enter Try.func34, Try.ntmps34
      go_wp2_with fail
      go_ret
      exact ⟨rfl, rfl⟩
  · rw [decide_eq_false (fun h => h1 h.1)]
    go_enter Try.func34, Try.ntmps34
    go_wp2_with fail
    go_ret
    exact ⟨rfl, rfl⟩
set_option maxRecDepth 100000 in
theorem resize_yes (h : DiskAt w d r s A c l) (n : Int) (hn : 0 ≤ n ∧ n ≤ 1073741824) :
    Calls Try.prog 31 #[.pointer (some ⟨d, 0, none⟩), .int .i64 n] w fun e w' => e = .returned (.bool true) ∧ DiskAt w' d n s A c l ∧ w.grownBy w' (some d) := by
  have c0 := h.cell0
  have f0 := h.free 0
  have H := h.setRoom n
  have hd : decide (0 ≤ n ∧ n ≤ 1073741824) = true := decide_eq_true hn
  go_enter Try.func31, Try.ntmps31
  go_wp2_with fail
  refine (fits_any n _).mono ?_
  rintro e w1 ⟨rfl, rfl⟩
  rw [hd]
  go_wp2_with fail
  go_ret
  exact ⟨rfl, H, set_grown _ _ _ _⟩
set_option maxRecDepth 100000 in
theorem resize_no (n : Int) (hn : ¬ (0 ≤ n ∧ n ≤ 1073741824)) :
    Calls Try.prog 31 #[.pointer (some ⟨d, 0, none⟩), .int .i64 n] w fun e w' => e = .returned (.bool false) ∧ w = w' := by
  have hd : decide (0 ≤ n ∧ n ≤ 1073741824) = false := decide_eq_false hn
  go_enter Try.func31, Try.ntmps31
  go_wp2_with fail
  refine (fits_any n _).mono ?_
  rintro e w1 ⟨rfl, rfl⟩
  rw [hd]
  go_wp2_with fail
  go_ret
  exact ⟨rfl, rfl⟩
end
end Go.Proofs.Ytkhbpaloicefdaa
