/- vokref10.Put: the document's record. -/
import Derived.Test.YtkhbpaloicefdaaBe
import Derived.Test.YtkhbpaloicefdaaRsum
namespace Go.Proofs.Ytkhbpaloicefdaa
open Go.RowKit
set_option linter.unusedVariables false
set_option maxRecDepth 100000 in
set_option maxHeartbeats 1000000 in
theorem rput_yes (A : Option Addr) (c B : Nat) (l : List Nat) (w : World) (ha : BytesAt w B A l) (hB : B ≤ w.heap.size) (hs : Small l) (hl : l.length ≤ 8192) :
    Calls Try.prog 45 #[.slice A l.length c] w fun e w' => ∃ A' c', e = .returned (.tuple #[.slice A' (recd l).length c', .int .i64 0]) ∧ Own w' w.heap.size (.slice A' (recd l).length c') (recd l) ∧ Below w.heap.size w w' := by
  obtain ⟨i0, hi, hz0, hz1, hz2⟩ := info_parts byte_row
  have hsm := hd_small (n := l.length) (by omega)
  have hdl : (hd l.length).length ≤ 2 := by simp [hd]
  go_enter Try.func45, Try.ntmps45
  go_wp2_with fail
  refine (be_two l.length (by omega) w).mono ?_
  rintro e w1 ⟨A1, c1, rfl, O1, b1⟩
  have hw1 := b1.size
  go_wp2_with fail
  refine (copy_any A1 c1 _ (hd l.length) w1 O1.reads (by omega)).mono ?_
  rintro e w2 ⟨A2, c2, rfl, O2, b2⟩
  have O1a := O1.below b2 (Nat.le_refl _)
  have n12 := O1.later O2 (Nat.le_refl _)
  have b2a := b1.trans (b2.mono hw1)
  have ha2 := ha.below (b2a.mono hB)
  clear O1
  go_wp2_with (at_builtin; refine wpList_append_any _ rfl (.tmp 13) (.tmp 14) _ rfl w1.heap.size 5 i0 _ 1 1 Try.underlying32 hi hz0 hz1 hz2 rfl (by omega) _ _ _ rfl O2 B A l.length c (bys l) rfl ha2 (bys_one l) (by simp only [maxLen]; omega) (by omega) b2.size ?_; intro v3 w3 o3 g3 at3; have O3 := own_more o3 rfl; obtain ⟨A3, c3, rfl⟩ := O3.form)
  have O1b := O1a.grown g3 n12
  have hw2 := b2a.size
  have b3a : Below w.heap.size w w3 := b2a.grown g3 hw2 (fun k hk => by have := (World.ownsRow.lt O2 k hk).1; omega)
  have hS := rsum_any A3 c3 _ (hd l.length ++ l) w3 O3.reads (hsm.append hs) (by rw [List.length_append]; simp only [maxLen]; omega)
  rw [List.length_append] at hS
  refine hS.mono ?_
  clear hS O1a O2 o3 g3 at3 ha2 b2 b2a
  rintro e w4 ⟨rfl, rfl⟩
  have hw3 := b3a.size
  have hcr : Crc.crc (hd l.length ++ l) < 4294967296 := Crc.crc_lt (hsm.append hs)
  have he : recd l = hd l.length ++ be4 (Crc.crc (hd l.length ++ l)) ++ l := rfl
  generalize Crc.crc (hd l.length ++ l) = s at hcr he ⊢
  have HE := Lib.hid he
  clear he O3
  have hbl : (be4 s).length ≤ 4 := by simp [be4]
  go_wp2_with fail
  refine (be_quad s hcr w3).mono ?_
  rintro e w5 ⟨A5, c5, rfl, L5, b5⟩
  have O1d := O1b.below b5 (Nat.le_refl _)
  have b5a := b3a.trans (b5.mono hw3)
  clear b3a O1b b5
  go_wp2_with (first
    | (at_builtin; refine wpList_append_any _ rfl (.tmp 17) (.tmp 20) _ rfl w.heap.size 5 i0 _ 1 1 Try.underlying32 hi hz0 hz1 hz2 rfl (by omega) _ _ _ rfl O1d _ _ _ _ (bys (be4 s)) rfl L5.reads (bys_one _) (by simp only [maxLen]; omega) (by omega) b5a.size ?_; intro v6 w6 o6 g6 at6; have O6 := own_more o6 rfl; have b6 := b5a.grown g6 b5a.size (fun k hk => (World.ownsRow.lt O1d k hk).1); have ha6 := ha.below (b6.mono hB); obtain ⟨A6, c6, rfl⟩ := O6.form)
    | (at_builtin; refine wpList_append_any _ rfl (.tmp 21) (.tmp 22) _ rfl w.heap.size 5 i0 _ 1 1 Try.underlying32 hi hz0 hz1 hz2 rfl (by omega) _ _ _ rfl O6 B A l.length c (bys l) rfl ha6 (bys_one l) (by rw [List.length_append]; simp only [maxLen]; omega) (by rw [List.length_append]; omega) b6.size ?_; intro v7 w7 o7 g7 at7; have O7 := own_more o7 rfl; have b7 := b6.grown g7 b6.size (fun k hk => (World.ownsRow.lt O6 k hk).1); obtain ⟨A7, c7, rfl⟩ := O7.form))
  go_ret2
  have e : (recd l).length = (hd l.length).length + ((be4 s).length + l.length) := by rw [HE.out]; simp
  rw [← HE.out] at O7
  exact ⟨A7, c7, by rw [e]; rfl, O7, b7⟩
theorem rput_no (A : Option Addr) (c n : Nat) (w : World) (hl : 8192 < n) (hm : n ≤ maxLen) :
    Calls Try.prog 45 #[.slice A n c] w fun e w' => e = .returned (.tuple #[.slice none 0 0, .int .i64 3]) ∧ w = w' := by
  unfold maxLen at hm
  go_enter Try.func45, Try.ntmps45
  go_wp2_with fail
  go_ret2
  exact ⟨rfl, rfl⟩
end Go.Proofs.Ytkhbpaloicefdaa
