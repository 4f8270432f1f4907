/- DiskSyncs: the walk. -/
import Derived.Test.YtelkllhibkefbaaCuts
namespace Go.Proofs.Ytelkllhibkefbaa
open Go.RowKit
set_option linter.unusedVariables false
attribute [local go_sem ↓] Go.wp_at_zero Go.wp_at_succ
theorem BytesAt.take_to {w : World} {B : Nat} {A : Option Addr} {l k : List Nat} (h : BytesAt w B A k) (e : k.take l.length = l) : BytesAt w B A l := by rw [← e]; exact h.take_ _
set_option maxRecDepth 100000 in
set_option maxHeartbeats 4000000 in
theorem syncs_law (size : Int) (A : Option Addr) (c B : Nat) (L : List Op) (A0 : Option Addr) (c0 : Nat) (k : List Nat) (m1 m2 : Int) (w : World) (ha : OpsAt w B A L) (hB : B ≤ w.heap.size) (hl : L.length ≤ maxLen) (hk : BytesAt w B A0 k) (hsk : Small k) (hrk : Room A0 k.length c0) (hm1 : m1 ≤ 9223372036854775807) (hm2 : m2 ≤ 9223372036854775807) :
    Calls Try.prog 5 #[.int .i64 size, .slice A L.length c, .slice A0 k.length c0, .int .i64 m1, .int .i64 m2] w fun e w' => e = .returned (.bool true) ∧ Below w.heap.size w w' := by
  have hkm : k.length ≤ 9223372036854775807 := by have := hrk.le; have := hrk.max; unfold maxLen at this; omega
  go_enter Try.func5, Try.ntmps5
  go_wp2_with fail
  refine (first_any _).mono ?_
  rintro e w1 ⟨rfl, b1⟩
  have hP := played_any size A c B L w1 (ha.below (b1.mono hB)) (Nat.le_trans hB b1.size) hl
  go_wp2_with fail
  refine hP.mono ?_
  clear hP
  rintro e w2 (⟨rfl, b2⟩ | ⟨d, A2, c2, rfl, D, b2, hdw, _, hT, z0, z1⟩)
  · replace b2 := b1.trans (b2.mono b1.size)
    clear b1
    go_wp2_with fail
    refine (first_any _).mono ?_
    rintro e w3 ⟨rfl, b3⟩
    replace b3 := b2.trans (b3.mono b2.size)
    clear b2
    go_wp2_with fail
    go_ret
    exact ⟨rfl, b3⟩
  · replace b2 := b1.trans (b2.mono b1.size)
    replace hdw := Nat.le_trans b1.size hdw
    clear b1
    obtain ⟨r0, r1, hs, hn⟩ := run_start z0 z1 hT
    generalize run ⟨size, 0, []⟩ L = S at *
    obtain ⟨r, s, l⟩ := S
    simp only at r0 r1 hs hn
    replace D : DiskAt w2 d r s A2 c2 l := D
    rcases (show (20000 < k.length) ∨ (k.length ≤ 20000 ∧ m1 < 0) ∨ (k.length ≤ 20000 ∧ 0 ≤ m1 ∧ m2 < 0) ∨ (k.length ≤ 20000 ∧ 0 ≤ m1 ∧ 0 ≤ m2) by omega) with hlong | ⟨hshort, h1⟩ | ⟨hshort, h1, h2⟩ | ⟨hshort, h1, h2⟩
    · have hd : decide ((20000 : Int) < (k.length : Int)) = true := by simp; omega
      go_wp2_with fail
      refine (first_any _).mono ?_
      rintro e w3 ⟨rfl, b3⟩
      replace b3 := b2.trans (b3.mono b2.size)
      clear b2
      go_wp2_with fail
      go_ret
      exact ⟨rfl, b3⟩
    · have hd : decide ((20000 : Int) < (k.length : Int)) = false := by simp; omega
      go_wp2_with fail
      refine (first_any _).mono ?_
      rintro e w3 ⟨rfl, b3⟩
      replace b3 := b2.trans (b3.mono b2.size)
      clear b2
      go_wp2_with fail
      go_ret
      exact ⟨rfl, b3⟩
    · have hd : decide ((20000 : Int) < (k.length : Int)) = false := by simp; omega
      go_wp2_with fail
      refine (first_any _).mono ?_
      rintro e w3 ⟨rfl, b3⟩
      replace b3 := b2.trans (b3.mono b2.size)
      clear b2
      go_wp2_with fail
      go_ret
      exact ⟨rfl, b3⟩
    have hd : decide ((20000 : Int) < (k.length : Int)) = false := by simp; omega
    go_wp2_with fail
    refine (sync_any D).mono ?_
    rintro e w3 ⟨rfl, D3, g3⟩
    have b3 := b2.grown g3 b2.size (fun k hk => by injection hk with hk; omega)
    clear D b2 g3
    go_wp2_with fail
    refine (bytes_of D3 (by omega)).mono ?_
    rintro e w4 ⟨A4, c4, rfl, O4, b4⟩
    have D4 := D3.quiet (below_quiet2 b4)
    replace b4 := b3.trans (b4.mono b3.size)
    have hdlt := D3.lt
    clear D3 b3
    have hw0 : IntKind.i64.wrap (r - (l.length : Int)) = r - (l.length : Int) := by simp [IntKind.wrap, IntKind.bits, IntKind.signed]; omega
    have hk4 := hk.below (b4.mono hB)
    have key : Calls Try.prog 15 #[.pointer (some ⟨d, 0, none⟩), .slice A0 k.length c0] w4 fun e w' => ∃ (A' : Option Addr) (c' : Nat) (X : List Nat) (v : Int), e = .returned (.int .i64 v) ∧ DiskAt w' d r l.length A' c' X ∧ w4.grownBy w' (some d) ∧ l.length ≤ X.length ∧ X.length ≤ 40000 ∧ Hid (X.take l.length = l) := by
      by_cases p2 : (k.length : Int) ≤ r - l.length
      · exact (append_yes D4 hk4 (Nat.le_trans hB b4.size) hrk hsk (by omega) (by omega) r0 r1 p2).mono fun e w' ⟨A', c', he, h1, h2⟩ => ⟨A', c', l ++ k, 0, he, h1, h2, by simp, by simp; omega, Lib.hid (by simp)⟩
      · exact (append_no D4 (Nat.le_trans hrk.le hrk.max) (by omega) r0 r1 p2).mono fun e w' ⟨he, h1, h2⟩ => ⟨A2, c2, l, 9, he, h1, grown_one h2, Nat.le_refl _, by omega, Lib.hid (by simp)⟩
    go_wp2_with fail
    refine key.mono ?_
    clear key hk4
    rintro e w5 ⟨A5, c5, X, v5, rfl, D5, g5, hX1, hX2, HX⟩
    have O5 := O4.grown g5 (O4.off hdlt)
    have b5 := b4.grown g5 b4.size (fun k hk => by injection hk with hk; omega)
    clear O4 b4 g5 D4
    go_wp2_with fail
    refine (copy_disk D5 (by omega)).mono ?_
    rintro e w6 ⟨x, A6, c6, rfl, X6, g6, hx1, hx2⟩
    have D6 := D5.quiet g6
    have O6 := O5.grown g6 (by cases h : (Value.slice A4 l.length c4).ownBlock <;> simp)
    have b6 := b5.grown g6 b5.size (by simp)
    have hd5 := D5.lt
    have hne : x ≠ d := by omega
    have hox : (Value.slice A4 l.length c4).ownBlock = none ∨ (Value.slice A4 l.length c4).ownBlock ≠ some x := by
      cases e : (Value.slice A4 l.length c4).ownBlock with
      | none => exact .inl rfl
      | some g => exact .inr fun e2 => by injection e2 with e2; have := (World.ownsRow.lt O5 g e).2; omega
    have hxw : w.heap.size ≤ x := Nat.le_trans b5.size hx1
    replace hdlt : d < w3.heap.size := hdlt
    clear O5 b5 D5 g6 hx2 hx1 hd5
    have nn := kept_le (keep := m1) hX1
    have HL := Lib.hid (show (X.take (kept l.length X.length m1)).length = kept l.length X.length m1 by rw [List.length_take]; omega)
    have K1 := crash_any D6 m1 (by omega) hm1 hX1 (by omega)
    have K2 := fun w (h : DiskAt w x r l.length A6 c6 X) => crash_any h m1 (by omega) hm1 hX1 (by omega)
    obtain ⟨n1, n2⟩ := nn
    have HT := Lib.hid (show (X.take (kept l.length X.length m1)).take l.length = l by rw [List.take_take, Nat.min_eq_left n1]; exact HX.out)
    generalize kept l.length X.length m1 = m at *
    go_wp2_with fail
    refine K1.mono ?_
    clear K1
    rintro e w7 ⟨A7, c7, rfl, D7, g7⟩
    have X7 := X6.beside D6 hne.symm g7
    have O7 := O6.grown g7 (O6.off hdlt)
    have b7 := b6.grown g7 b6.size (fun k hk => by injection hk with hk; omega)
    clear O6 b6 D6 X6 g7
    have K1 := crash_any D7 m2 (by omega) hm2 (by rw [HL.out]; exact Nat.le_refl _) (by rw [HL.out]; omega)
    rw [HL.out, show kept m m m2 = m by unfold kept; omega, List.take_take, Nat.min_self] at K1
    go_wp2_with fail
    refine K1.mono ?_
    clear K1
    rintro e w8 ⟨A8, c8, rfl, D8, g8⟩
    have X8 := X7.beside D7 hne.symm g8
    have O8 := O7.grown g8 (O7.off hdlt)
    have b8 := b7.grown g8 b7.size (fun k hk => by injection hk with hk; omega)
    clear O7 b7 D7 X7 g8
    go_wp2_with fail
    refine (K2 _ X8).mono ?_
    clear K2
    rintro e w9 ⟨A9, c9, rfl, X9, g9⟩
    have D9 := D8.beside X8 hne g9
    have O9 := O8.grown g9 hox
    have b9 := b8.grown g9 b8.size (fun k hk => by injection hk with hk; omega)
    clear O8 b8 D8 X8 g9
    go_wp2_with fail
    refine (bytes_of D9 (by rw [HL.out]; omega)).mono ?_
    rintro e w10 ⟨A10, c10, he, O10, b10⟩
    have Of := (O10.file D9.lt).2.2
    rw [HL.out] at he O10 Of
    subst he
    have D10 := D9.quiet (below_quiet2 b10)
    have X10 := X9.quiet (below_quiet2 b10)
    replace O9 := O9.below b10 (Nat.le_refl _)
    replace b10 := b9.trans (b10.mono b9.size)
    clear b9 D9 X9
    go_wp2_with fail
    refine (first_any _).mono ?_
    rintro e w11 ⟨rfl, b11⟩
    have D11 := D10.quiet (below_quiet2 b11)
    have X11 := X10.quiet (below_quiet2 b11)
    replace O9 := O9.below b11 (Nat.le_refl _)
    replace O10 := O10.below b11 (Nat.le_refl _)
    replace b11 := b10.trans (b11.mono b10.size)
    clear b10 D10 X10
    have R10 : BytesAt w11 w11.heap.size A10 (X.take m) := Own.reads (by rw [HL.out]; exact O10)
    have Q := bytes_any A10 A4 c10 c4 _ _ l l w11 (R10.take_to HT.out) O9.reads (by rw [← HT.out]; exact D11.small.take _) (by rw [← HT.out]; exact D11.small.take _)
    rw [decide_eq_true rfl] at Q
    have hlm := Of.max
    have hlc := Of.le
    have hln := Of.nil
    unfold maxLen at hlm
    clear Of O9
    have QQ : ∀ (w : World) (A12 : Option Addr) (c12 : Nat), BytesAt w w.heap.size A10 (X.take m) → BytesAt w w.heap.size A12 (X.take m) → Small (X.take m) → Calls Try.prog 13 #[.slice A10 m c10, .slice A12 m c12] w fun e w' => e = .returned (.bool true) ∧ w = w' := by
      intro w A12 c12 h1 h2 h3
      have Q := bytes_any A10 A12 c10 c12 _ _ (X.take m) (X.take m) w h1 h2 h3 h3
      rw [decide_eq_true rfl, HL.out] at Q
      exact Q
    cases A10
    case' none =>
      have := hln rfl
      subst this
      obtain rfl : m = 0 := by omega
      obtain rfl : l = [] := List.eq_nil_of_length_eq_zero (by omega)
    all_goals
      clear hln
      go_wp2_with fail
      refine Q.mono ?_
      rintro e w12 ⟨rfl, rfl⟩
      clear Q
      go_wp2_with fail
      refine (bytes_of X11 (by rw [HL.out]; omega)).mono ?_
      rintro e w12 ⟨A12, c12, he, O12, b12⟩
      rw [HL.out] at he O12
      subst he
      have D12 := D11.quiet (below_quiet2 b12)
      replace O10 := O10.below b12 (Nat.le_refl _)
      replace b12 := b11.trans (b12.mono b11.size)
      clear b11 D11 X11 R10
      have Q := QQ w12 A12 c12 (Own.reads (by rw [HL.out]; exact O10)) (Own.reads (by rw [HL.out]; exact O12)) D12.small
      clear QQ
      go_wp2_with fail
      refine Q.mono ?_
      rintro e w13 ⟨rfl, rfl⟩
      clear Q
      go_wp2_with fail
      refine (synced_any D12).mono ?_
      rintro e w13 ⟨rfl, rfl⟩
      go_wp2_with fail
      go_ret
      exact ⟨ret_bool (by simp), b12⟩
end Go.Proofs.Ytelkllhibkefbaa
