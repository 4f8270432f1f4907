/- frame.Scan: the rows that are told lie apart. -/
import Derived.Test.YteecjdlegnnbmaaFew
namespace Go.Proofs.Yteecjdlegnnbmaa
open Go.RowKit
set_option linter.unusedVariables false
/-- No two rows lie in one block. -/
def ApartRows (xs : List Value) : Prop := ∀ (i j : Nat) (x y : Value), i < j → xs[i]? = some x → xs[j]? = some y → x.ownBlock = none ∨ x.ownBlock ≠ y.ownBlock
theorem ApartRows.nil : ApartRows [] := fun i j x y _ h _ => by simp at h
theorem ApartRows.snoc {xs : List Value} {v : Value} (h : ApartRows xs) (hv : ∀ x ∈ xs, x.ownBlock = none ∨ x.ownBlock ≠ v.ownBlock) : ApartRows (xs ++ [v]) := by
  intro i j x y hij hx hy
  have hj : j < (xs ++ [v]).length := (List.getElem?_eq_some_iff.1 hy).1
  rw [List.length_append, List.length_singleton] at hj
  by_cases hjl : j < xs.length
  · rw [List.getElem?_append_left (by omega)] at hx hy
    exact h i j x y hij hx hy
  · obtain rfl : j = xs.length := by omega
    rw [List.getElem?_append_left (by omega)] at hx
    simp at hy
    subst hy
    exact hv x (List.mem_of_getElem? hx)
theorem RowsIn.later {w w' : World} {base : Nat} {xs : List Value} {L : List (List Nat)} {v : Value} {p : List Nat} (h : RowsIn w base xs L) (O : Own w' w.heap.size v p) : ∀ x ∈ xs, x.ownBlock = none ∨ x.ownBlock ≠ v.ownBlock := by
  intro x hx
  obtain ⟨k, hk, rfl⟩ := List.getElem_of_mem hx
  obtain ⟨A, c, e, Ok⟩ := h.2 k (by rw [← h.1]; exact hk)
  rw [List.getElem?_eq_getElem hk] at e
  injection e with e
  rw [e]
  exact Ok.later O (Nat.le_refl _)
set_option maxRecDepth 100000 in
set_option maxHeartbeats 1000000 in
theorem scan_apart (A : Option Addr) (c B : Nat) (l : List Nat) (w : World) (ha : BytesAt w B A l) (hB : B ≤ w.heap.size) (hs : Small l) (hr : Room A l.length c) (hl : l.length ≤ 1000000) :
    Calls Try.prog 19 #[.slice A l.length c] w fun e w' => ∃ A' c' xs, e = .returned (.tuple #[.slice A' (scand l).1.length c', .int .i64 ((scand l).2 : Int)]) ∧ w'.ownsRow w.heap.size 22 1 (.slice A' (scand l).1.length c') (scand l).1.length xs ∧ RowsIn w' w.heap.size xs (scand l).1 ∧ ApartRows xs ∧ Below w.heap.size w w' := by
  obtain ⟨i0, hi, hz0, hz1, hz2⟩ := info_parts list_row
  go_enter Try.func19, Try.ntmps19
  go_wp2_with fail
  go_loopw [4, 5] (fun sv si wr => ∃ (L : List (List Nat)) (i : Nat) (v : Value) (xs : List Value), v = sv ∧ si = .int .i64 (i : Int) ∧ ScanAt l L i ∧ wr.ownsRow w.heap.size 22 1 v L.length xs ∧ RowsIn wr w.heap.size xs L ∧ ApartRows xs ∧ Below w.heap.size w wr) (fun _ i _ => l.length - (intOf i).toNat)
  case atStart => exact ⟨[], 0, _, [], rfl, rfl, ScanAt.start l, World.ownsRow_nil _ _ _ _, RowsIn.nil, ApartRows.nil, Below.refl _ _⟩
  case round =>
    obtain ⟨L, i, v, xs, rfl, rfl, S, O, R, AP, b⟩ := hrel
    have hw := b.size
    have hfew := S.few
    have hle := S.le
    by_cases hlt : i < l.length
    · cases hg : getd l (i : Int) with
      | err k =>
        have hk : ((k : Int) == 0) = false := by have := getd_err_pos hg; simp; omega
        have hG := get_any A c _ l (i : Int) wr (ha.below (b.mono hB)) (by omega) hs hr (by omega) (by omega)
        rw [hg] at hG
        obtain ⟨hL, hi2⟩ := S.done hg
        obtain ⟨A', c', rfl⟩ := lists_form O
        have HL := Lib.hid hL
        have HI := Lib.hid hi2
        have HG := Lib.hid hg
        clear hL hi2 hg
        go_wp2_with fail
        refine hG.mono ?_
        rintro e w2 ⟨rfl, b2⟩
        replace R := R.below b2 (Nat.le_refl _)
        replace O : w2.ownsRow w.heap.size 22 1 (.slice A' L.length c') L.length xs := World.ownsRow.kept O (below_quiet b2 (Nat.le_refl _)) (by cases hv : (Value.slice A' L.length c').ownBlock <;> simp)
        replace b2 := b.trans (b2.mono hw)
        clear b hG
        go_wp2_with fail
        go_ret2
        refine ⟨A', c', xs, ?_, by rw [← HL.out]; exact O, by rw [← HL.out]; exact R, AP, b2⟩
        rw [← HL.out, ← HI.out]
        rfl
      | ok p =>
        have hG := get_any A c _ l (i : Int) wr (ha.below (b.mono hB)) (by omega) hs hr (by omega) (by omega)
        rw [hg] at hG
        have S2 := S.next hg
        have hle2 := S2.le
        have HG := Lib.hid hg
        clear hg
        go_wp2_with fail
        refine hG.mono ?_
        rintro e w2 ⟨A9, c9, rfl, O9, b2⟩
        have AP2 := AP.snoc (R.later O9)
        replace R := R.below b2 (Nat.le_refl _)
        replace O9 := O9.mono hw
        replace O : w2.ownsRow w.heap.size 22 1 v L.length xs := World.ownsRow.kept O (below_quiet b2 (Nat.le_refl _)) (by cases hv : v.ownBlock <;> simp)
        replace b2 := b.trans (b2.mono hw)
        have hw2 := b2.size
        clear b hG
        go_wp2_with (at_builtin; refine wpList_append_own _ rfl _ _ 36 rfl w.heap.size 22 i0 (.slice none 0 0) 1 24 Try.underlying36 hi hz0 hz1 hz2 rfl (by decide) _ _ _ rfl (World.ownsRow.alloc O _) ⟨w2.heap.size, 0, none⟩ 1 1 [.slice A9 p.length c9] rfl rfl (cell_of_slice _ _) ?c2 ?c3 ?c4 ?c5 ?_)
        case c2 => intro u hu; simp at hu; subst hu; rfl
        case c3 => unfold maxLen; omega
        case c4 => omega
        case c5 => simp; omega
        intro v3 w3 o3 g3 _
        have O9a := O9.alloc (.cells #[.slice A9 p.length c9] 22)
        have Oa := World.ownsRow.alloc O (.cells #[.slice A9 p.length c9] 22)
        have R3 := ((R.alloc (.cells #[.slice A9 p.length c9] 22)).grown Oa g3).snoc (O9a.grown g3 (own_ne_lists O9a Oa))
        have b3 := (b2.alloc hw2 (.cells #[.slice A9 p.length c9] 22)).grown g3 (by simp; omega) (fun k hk => (World.ownsRow.lt O k hk).1)
        clear R O O9 O9a Oa b2 g3
        go_wp2_with fail
        go_roundw
        case rel => exact ⟨L ++ [p], i + 6 + p.length, v3, _, rfl, by go_num, S2, by rw [List.length_append]; exact o3, R3, AP2, b3⟩
        case measure => simp [intOf]; omega
    · obtain rfl : i = l.length := by omega
      obtain ⟨hL, hi2⟩ := S.done (getd_end l)
      obtain ⟨A', c', rfl⟩ := lists_form O
      have HL := Lib.hid hL
      have HI := Lib.hid hi2
      clear hL hi2
      go_wp2_with fail
      go_ret2
      refine ⟨A', c', xs, ?_, by rw [← HL.out]; exact O, by rw [← HL.out]; exact R, AP, b⟩
      rw [← HL.out, ← HI.out]
      rfl
end Go.Proofs.Yteecjdlegnnbmaa
