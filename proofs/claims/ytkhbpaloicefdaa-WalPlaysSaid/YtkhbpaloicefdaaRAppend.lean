/- The document's disk: Append (written by mkref.py). -/
import Derived.Test.YtkhbpaloicefdaaRFile
namespace Go.Proofs.Ytkhbpaloicefdaa.Ref
open Go.RowKit
set_option linter.unusedVariables false
attribute [local go_sem ↓] Go.wp_at_zero Go.wp_at_succ
theorem drewN_grown (w : World) (n : Nat) : w.grownBy (w.drewN n) none := ⟨rfl, rfl, rfl, Nat.le_refl _, fun _ _ _ => rfl⟩
section
variable {w w' : World} {d c c' : Nat} {r s r' s' : Int} {A A' : Option Addr} {l l' : List Nat}
theorem DiskAt.away (h : DiskAt w d r s A c l) {row : Option Nat} (g : w.grownBy w' row) (hr : ∀ k, row = some k → w.heap.size ≤ k) : DiskAt w' d r s A c l := by
  refine h.quiet ⟨g.os, g.tape, g.output, g.size, fun i hi _ => g.block i hi (fun e => ?_)⟩
  have := hr i e.symm
  omega
set_option maxRecDepth 100000 in
set_option maxHeartbeats 1000000 in
theorem append_new (h : DiskAt w d r s A c l) {B : Nat} {A2 : Option Addr} {c2 : Nat} {k : List Nat} (hk : BytesAt w B A2 k) (hBw : B ≤ w.heap.size) (hr : Roomy A2 k.length c2) (hs : Small k) (hl : l.length ≤ 400000) (hl2 : k.length ≤ 400000) (h1 : 0 ≤ r) (h2 : r ≤ 1073741824) (hfit : (k.length : Int) ≤ r - l.length) :
    Calls Try.prog 24 #[.pointer (some ⟨d, 0, none⟩), .slice A2 k.length c2] w fun e w' => ∃ A' c', e = .returned (.int .i64 0) ∧ DiskAt w' d r s A' c' (l ++ k) ∧ w.grownBy w' (some d) ∧ (∀ ad, A' = some ad → w.heap.size ≤ ad.block) := by
  obtain ⟨i0, hi, hz0, hz1, hz2⟩ := info_parts byte_row
  have c0 := h.cell0
  have cc := h.cell2
  have hd : decide (r - (l.length : Int) < (k.length : Int)) = false := by simp; omega
  have hD := fun n => h.quiet (drewN_grown w n)
  have hq : decide (r < (l.length : Int)) = false := by simp; omega
  have hw0 : IntKind.i64.wrap (r - (l.length : Int)) = r - (l.length : Int) := by simp [IntKind.wrap, IntKind.bits, IntKind.signed]; omega
  have hw1 : wrap64 (r - (l.length : Int)) = r - (l.length : Int) := by unfold wrap64; omega
  go_enter Try.func24, Try.ntmps24
  go_wp2_with fail
  go_quiet (fail)
  have cd := fun n => (hD n).cell2
  go_wp2_with fail
  refine (copy_any A c _ l _ (hD _).row (by omega)).mono ?_
  rintro e w1 ⟨A1, c1, rfl, O1, b1⟩
  have g1 := below_quiet2 b1
  have D1 := (hD _).quiet g1
  have hk1 : BytesAt w1 B A2 k := BytesAt.below (show BytesAt (w.drewN _) B A2 k from hk) (b1.mono hBw)
  have g0 := grown_to (drewN_grown w _) (row := none) g1
  have hw1 : w.heap.size ≤ w1.heap.size := g0.size
  have O1w : Own w1 w.heap.size (.slice A1 l.length c1) l := O1
  clear c0 cc cd hD b1 g1
  go_wp2_with (at_builtin; refine wpList_append_any _ rfl (.tmp 35) (.tmp 36) 32 rfl w.heap.size 5 i0 _ 1 1 Try.underlying32 hi hz0 hz1 hz2 rfl (by omega) _ _ _ rfl O1w B A2 k.length c2 (bys k) rfl hk1 (bys_one k) (by simp only [maxLen]; omega) (by omega) hw1 ?_; intro v2 w2 o2 g2 at2; have O2 := own_more o2 rfl; have gg := grown_to g0 g2; have D2 := h.away gg (fun k hk => (World.ownsRow.lt O1w k hk).1); have f2 := D2.free 2; have q2 := D2.cell2; obtain ⟨A3, c3, rfl⟩ := O2.form)
  obtain ⟨z1, z2, z3⟩ := O2.file h.lt
  have D3 := D2.setFile z1 z2 z3 (h.small.append hs)
  rw [List.length_append] at D3
  have g3 := grown_new (grown_to (World.grownBy.refl w none) (grown_new (World.grownBy.refl w (some d)) gg (fun k hk => (World.ownsRow.lt O1w k hk).1))) (World.grownBy.refl _ none) (by simp)
  go_wp2_with fail
  go_ret
  exact ⟨A3, c3, rfl, D3, grown_on g3 (set_grown _ _ _ _), O2.from_⟩
theorem append_yes (h : DiskAt w d r s A c l) {B : Nat} {A2 : Option Addr} {c2 : Nat} {k : List Nat} (hk : BytesAt w B A2 k) (hBw : B ≤ w.heap.size) (hr : Roomy A2 k.length c2) (hs : Small k) (hl : l.length ≤ 400000) (hl2 : k.length ≤ 400000) (h1 : 0 ≤ r) (h2 : r ≤ 1073741824) (hfit : (k.length : Int) ≤ r - l.length) :
    Calls Try.prog 24 #[.pointer (some ⟨d, 0, none⟩), .slice A2 k.length c2] w fun e w' => ∃ A' c', e = .returned (.int .i64 0) ∧ DiskAt w' d r s A' c' (l ++ k) ∧ w.grownBy w' (some d) :=
  (append_new h hk hBw hr hs hl hl2 h1 h2 hfit).mono fun e w' ⟨A', c', h1, h2, h3, _⟩ => ⟨A', c', h1, h2, h3⟩
set_option maxRecDepth 100000 in
theorem append_no (h : DiskAt w d r s A c l) {n : Nat} {A2 : Option Addr} {c2 : Nat} (hn : n ≤ maxLen) (hl : l.length ≤ 400000) (h1 : 0 ≤ r) (h2 : r ≤ 1073741824) (hfit : ¬ (n : Int) ≤ r - l.length) :
    Calls Try.prog 24 #[.pointer (some ⟨d, 0, none⟩), .slice A2 n c2] w fun e w' => e = .returned (.int .i64 9) ∧ DiskAt w' d r s A c l ∧ w.grownBy w' none := by
  unfold maxLen at hn
  have c0 := h.cell0
  have cc := h.cell2
  have hd : decide (r - (l.length : Int) < (n : Int)) = true := by simp; omega
  have hw0 : IntKind.i64.wrap (r - (l.length : Int)) = r - (l.length : Int) := by simp [IntKind.wrap, IntKind.bits, IntKind.signed]; omega
  have hw1 : wrap64 (r - (l.length : Int)) = r - (l.length : Int) := by unfold wrap64; omega
  have hD := fun n => h.quiet (drewN_grown w n)
  rcases (show r < (l.length : Int) ∨ (l.length : Int) ≤ r by omega) with q | q
  case' inl => have hq : decide (r < (l.length : Int)) = true := by simp; omega
  case' inr => have hq : decide (r < (l.length : Int)) = false := by simp; omega
  all_goals
    go_enter Try.func24, Try.ntmps24
    go_wp2_with fail
    go_quiet (fail)
    go_wp2_with fail
    go_ret
    exact ⟨rfl, hD _, drewN_grown w _⟩
end
end Go.Proofs.Ytkhbpaloicefdaa.Ref
