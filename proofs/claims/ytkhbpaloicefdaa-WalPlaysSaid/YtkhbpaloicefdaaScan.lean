/- frame.Scan, and the document's. -/
import Derived.Test.YtkhbpaloicefdaaScand
import Derived.Test.YtkhbpaloicefdaaGet
namespace Go.Proofs.Ytkhbpaloicefdaa
open Go.RowKit
set_option linter.unusedVariables false
theorem list_row : (Try.prog.info? 32).map (fun i => (i.zero, i.size, i.bytes)) = some (some (.slice none 0 0), 1, 24) := by kernel_rfl
theorem getd_err_pos {b : List Nat} {i : Int} {k : Nat} (h : getd b i = .err k) : k ≠ 0 := by
  rintro rfl
  unfold getd at h
  split at h
  · cases h
  · unfold getx at h
    repeat' split at h
    all_goals cases h
theorem lists_form {w : World} {base n : Nat} {v : Value} {xs : List Value} (h : w.ownsRow base 32 1 v n xs) : ∃ A c, v = .slice A n c := by
  rcases h.2 with ⟨rfl, hx⟩ | ⟨g, cp, cur, rfl, _⟩
  · have hn : n = 0 := by have h1 := h.1; simp [hx] at h1; omega
    subst hn
    exact ⟨none, 0, rfl⟩
  · exact ⟨_, _, rfl⟩
theorem cell_of_slice (w : World) (x : Value) : ∀ j u, [x][j]? = some u → (w.alloc (.cells #[x] 32)).cell? ((⟨w.heap.size, 0, none⟩ : Addr).add j) = some u := by
  intro j u hu
  have hh := heap_alloc_new w (.cells #[x] 32)
  have hadd : (⟨w.heap.size, 0, none⟩ : Addr).add j = ⟨w.heap.size, j, none⟩ := by unfold Addr.add; split <;> simp_all
  rw [hadd, cell_of_row _ _ j _ 32 (0, 0) hh]
  simpa using hu
set_option maxRecDepth 100000 in
set_option maxHeartbeats 1000000 in
theorem scan_any (A : Option Addr) (c B : Nat) (l : List Nat) (w : World) (ha : BytesAt w B A l) (hB : B ≤ w.heap.size) (hs : Small l) (hr : Room A l.length c) (hl : l.length ≤ 1000000) :
    Calls Try.prog 35 #[.slice A l.length c] w fun e w' => ∃ A' c' xs, e = .returned (.tuple #[.slice A' (scand l).1.length c', .int .i64 ((scand l).2 : Int)]) ∧ w'.ownsRow w.heap.size 32 1 (.slice A' (scand l).1.length c') (scand l).1.length xs ∧ RowsIn w' w.heap.size xs (scand l).1 ∧ Below w.heap.size w w' := by
  obtain ⟨i0, hi, hz0, hz1, hz2⟩ := info_parts list_row
  go_enter Try.func35, Try.ntmps35
  go_wp2_with fail
  go_loopw [4, 5] (fun sv si wr => ∃ (L : List (List Nat)) (i : Nat) (v : Value) (xs : List Value), v = sv ∧ si = .int .i64 (i : Int) ∧ ScanAt l L i ∧ wr.ownsRow w.heap.size 32 1 v L.length xs ∧ RowsIn wr w.heap.size xs L ∧ Below w.heap.size w wr) (fun _ i _ => l.length - (intOf i).toNat)
  case atStart => exact ⟨[], 0, _, [], rfl, rfl, ScanAt.start l, World.ownsRow_nil _ _ _ _, RowsIn.nil, Below.refl _ _⟩
  case round =>
    obtain ⟨L, i, v, xs, rfl, rfl, S, O, R, b⟩ := hrel
    have hw := b.size
    have hfew := S.few
    have hle := S.le
    by_cases hlt : i < l.length
    · cases hg : getd l (i : Int) with
      | err k =>
        have hk : ((k : Int) == 0) = false := by have := getd_err_pos hg; simp; omega
        have hG := get_any A c _ l (i : Int) wr (ha.below (b.mono hB)) (by omega) hs hr (by omega) (by omega)
        rw [hg] at hG
        obtain ⟨hL, hi2⟩ := S.done hg
        obtain ⟨A', c', rfl⟩ := lists_form O
        have HL := Lib.hid hL
        have HI := Lib.hid hi2
        have HG := Lib.hid hg
        clear hL hi2 hg
        go_wp2_with fail
        refine hG.mono ?_
        rintro e w2 ⟨rfl, b2⟩
        replace R := R.below b2 (Nat.le_refl _)
        replace O : w2.ownsRow w.heap.size 32 1 (.slice A' L.length c') L.length xs := World.ownsRow.kept O (below_quiet b2 (Nat.le_refl _)) (by cases hv : (Value.slice A' L.length c').ownBlock <;> simp)
        replace b2 := b.trans (b2.mono hw)
        clear b hG
        go_wp2_with fail
        go_ret2
        refine ⟨A', c', xs, ?_, by rw [← HL.out]; exact O, by rw [← HL.out]; exact R, b2⟩
        rw [← HL.out, ← HI.out]
        rfl
      | ok p =>
        have hG := get_any A c _ l (i : Int) wr (ha.below (b.mono hB)) (by omega) hs hr (by omega) (by omega)
        rw [hg] at hG
        have S2 := S.next hg
        have hle2 := S2.le
        have HG := Lib.hid hg
        clear hg
        go_wp2_with fail
        refine hG.mono ?_
        rintro e w2 ⟨A9, c9, rfl, O9, b2⟩
        replace R := R.below b2 (Nat.le_refl _)
        replace O9 := O9.mono hw
        replace O : w2.ownsRow w.heap.size 32 1 v L.length xs := World.ownsRow.kept O (below_quiet b2 (Nat.le_refl _)) (by cases hv : v.ownBlock <;> simp)
        replace b2 := b.trans (b2.mono hw)
        have hw2 := b2.size
        clear b hG
        go_wp2_with (at_builtin; refine wpList_append_own _ rfl _ _ 33 rfl w.heap.size 32 i0 (.slice none 0 0) 1 24 Try.underlying33 hi hz0 hz1 hz2 rfl (by decide) _ _ _ rfl (World.ownsRow.alloc O _) ⟨w2.heap.size, 0, none⟩ 1 1 [.slice A9 p.length c9] rfl rfl (cell_of_slice _ _) ?c2 ?c3 ?c4 ?c5 ?_)
        case c2 => intro u hu; simp at hu; subst hu; rfl
        case c3 => unfold maxLen; omega
        case c4 => omega
        case c5 => simp; omega
        intro v3 w3 o3 g3 _
        have O9a := O9.alloc (.cells #[.slice A9 p.length c9] 32)
        have Oa := World.ownsRow.alloc O (.cells #[.slice A9 p.length c9] 32)
        have R3 := ((R.alloc (.cells #[.slice A9 p.length c9] 32)).grown Oa g3).snoc (O9a.grown g3 (own_ne_lists O9a Oa))
        have b3 := (b2.alloc hw2 (.cells #[.slice A9 p.length c9] 32)).grown g3 (by simp; omega) (fun k hk => (World.ownsRow.lt O k hk).1)
        clear R O O9 O9a Oa b2 g3
        go_wp2_with fail
        go_roundw
        case rel => exact ⟨L ++ [p], i + 6 + p.length, v3, _, rfl, by go_num, S2, by rw [List.length_append]; exact o3, R3, b3⟩
        case measure => simp [intOf]; omega
    · obtain rfl : i = l.length := by omega
      obtain ⟨hL, hi2⟩ := S.done (getd_end l)
      obtain ⟨A', c', rfl⟩ := lists_form O
      have HL := Lib.hid hL
      have HI := Lib.hid hi2
      clear hL hi2
      go_wp2_with fail
      go_ret2
      refine ⟨A', c', xs, ?_, by rw [← HL.out]; exact O, by rw [← HL.out]; exact R, b⟩
      rw [← HL.out, ← HI.out]
      rfl
end Go.Proofs.Ytkhbpaloicefdaa
