/- vokref10.Scan: the document's answer. -/
import Derived.Test.YtkhbpaloicefdaaScan
import Derived.Test.YtkhbpaloicefdaaRget
namespace Go.Proofs.Ytkhbpaloicefdaa
open Go.RowKit
set_option linter.unusedVariables false
set_option maxRecDepth 100000 in
set_option maxHeartbeats 1000000 in
theorem rscan_any (A : Option Addr) (c B : Nat) (l : List Nat) (w : World) (ha : BytesAt w B A l) (hB : B ≤ w.heap.size) (hs : Small l) (hr : Room A l.length c) (hl : l.length ≤ 1000000) :
    Calls Try.prog 43 #[.slice A l.length c] w fun e w' => ∃ A' c' xs, e = .returned (.tuple #[.slice A' (scand l).1.length c', .int .i64 ((scand l).2 : Int)]) ∧ w'.ownsRow w.heap.size 32 1 (.slice A' (scand l).1.length c') (scand l).1.length xs ∧ RowsIn w' w.heap.size xs (scand l).1 ∧ Below w.heap.size w w' := by
  obtain ⟨i0, hi, hz0, hz1, hz2⟩ := info_parts list_row
  go_enter Try.func43, Try.ntmps43
  go_wp2_with fail
  go_loopw [4, 5] (fun sv si wr => ∃ (L : List (List Nat)) (i : Nat) (v : Value) (xs : List Value), v = sv ∧ si = .int .i64 (i : Int) ∧ ScanAt l L i ∧ wr.ownsRow w.heap.size 32 1 v L.length xs ∧ RowsIn wr w.heap.size xs L ∧ Below w.heap.size w wr) (fun _ i _ => l.length - (intOf i).toNat)
  case atStart => exact ⟨[], 0, _, [], rfl, rfl, ScanAt.start l, World.ownsRow_nil _ _ _ _, RowsIn.nil, Below.refl _ _⟩
  case round =>
    obtain ⟨L, i, v, xs, rfl, rfl, S, O, R, b⟩ := hrel
    have hw := b.size
    have hfew := S.few
    have hle := S.le
    · cases hg : getd l (i : Int) with
      | err k =>
        have hk : ((k : Int) == 0) = false := by have := getd_err_pos hg; simp; omega
        have hG := rget_any A c _ l (i : Int) wr (ha.below (b.mono hB)) (by omega) hs hr (by omega) (by omega) hl
        rw [hg] at hG
        obtain ⟨hL, hi2⟩ := S.done hg
        obtain ⟨A', c', rfl⟩ := lists_form O
        have HL := Lib.hid hL
        have HI := Lib.hid hi2
        have HG := Lib.hid hg
        clear hL hi2 hg
        go_wp2_with fail
        refine hG.mono ?_
        rintro e w2 ⟨rfl, b2⟩
        replace R := R.below b2 (Nat.le_refl _)
        replace O : w2.ownsRow w.heap.size 32 1 (.slice A' L.length c') L.length xs := World.ownsRow.kept O (below_quiet b2 (Nat.le_refl _)) (by cases hv : (Value.slice A' L.length c').ownBlock <;> simp)
        replace b2 := b.trans (b2.mono hw)
        clear b hG
        go_wp2_with fail
        go_ret2
        refine ⟨A', c', xs, ?_, by rw [← HL.out]; exact O, by rw [← HL.out]; exact R, b2⟩
        rw [← HL.out, ← HI.out]
        rfl
      | ok p =>
        have hG := rget_any A c _ l (i : Int) wr (ha.below (b.mono hB)) (by omega) hs hr (by omega) (by omega) hl
        rw [hg] at hG
        have S2 := S.next hg
        have hle2 := S2.le
        have HG := Lib.hid hg
        clear hg
        go_wp2_with fail
        refine hG.mono ?_
        rintro e w2 ⟨A9, c9, rfl, O9, b2⟩
        replace R := R.below b2 (Nat.le_refl _)
        replace O9 := O9.mono hw
        replace O : w2.ownsRow w.heap.size 32 1 v L.length xs := World.ownsRow.kept O (below_quiet b2 (Nat.le_refl _)) (by cases hv : v.ownBlock <;> simp)
        replace b2 := b.trans (b2.mono hw)
        have hw2 := b2.size
        clear b hG
        go_wp2_with (at_builtin; refine wpList_append_own _ rfl _ _ 33 rfl w.heap.size 32 i0 (.slice none 0 0) 1 24 Try.underlying33 hi hz0 hz1 hz2 rfl (by decide) _ _ _ rfl (World.ownsRow.alloc O _) ⟨w2.heap.size, 0, none⟩ 1 1 [.slice A9 p.length c9] rfl rfl (cell_of_slice _ _) ?c2 ?c3 ?c4 ?c5 ?_)
        case c2 => intro u hu; simp at hu; subst hu; rfl
        case c3 => unfold maxLen; omega
        case c4 => omega
        case c5 => simp; omega
        intro v3 w3 o3 g3 _
        have O9a := O9.alloc (.cells #[.slice A9 p.length c9] 32)
        have Oa := World.ownsRow.alloc O (.cells #[.slice A9 p.length c9] 32)
        have R3 := ((R.alloc (.cells #[.slice A9 p.length c9] 32)).grown Oa g3).snoc (O9a.grown g3 (own_ne_lists O9a Oa))
        have b3 := (b2.alloc hw2 (.cells #[.slice A9 p.length c9] 32)).grown g3 (by simp; omega) (fun k hk => (World.ownsRow.lt O k hk).1)
        clear R O O9 O9a Oa b2 g3
        go_wp2_with fail
        go_roundw
        case rel => exact ⟨L ++ [p], i + 6 + p.length, v3, _, rfl, by go_num, S2, by rw [List.length_append]; exact o3, R3, b3⟩
        case measure => simp [intOf]; omega
end Go.Proofs.Ytkhbpaloicefdaa
