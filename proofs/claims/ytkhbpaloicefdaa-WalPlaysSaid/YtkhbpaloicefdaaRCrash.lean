/- The document's disk: Crash (written by mkref.py). -/
import Derived.Test.YtkhbpaloicefdaaRCut
import Derived.StillTailTactics
namespace Go.Proofs.Ytkhbpaloicefdaa.Ref
open Go.RowKit
set_option linter.unusedVariables false
attribute [local go_sem ↓] Go.wp_at_zero Go.wp_at_succ
section
variable {w w' : World} {d c c' : Nat} {r : Int} {s : Nat} {A A' : Option Addr} {l l' : List Nat}
set_option maxRecDepth 100000 in
set_option maxHeartbeats 1000000 in
theorem crash_new (h : DiskAt w d r s A c l) (keep : Int) (hk1 : -9223372036854775808 ≤ keep) (hk2 : keep ≤ 9223372036854775807) (hs : s ≤ l.length) (hl : l.length ≤ 400000) :
    Calls Try.prog 30 #[.pointer (some ⟨d, 0, none⟩), .int .i64 keep] w fun e w' => ∃ A' c', e = .returned (.tuple #[]) ∧ DiskAt w' d r (left_ s l.length keep) A' c' (l.take (left_ s l.length keep)) ∧ w.grownBy w' (some d) ∧ (∀ ad, A' = some ad → w.heap.size ≤ ad.block) := by
  obtain ⟨m1, m2⟩ := left_le (keep := keep) hs
  have c1 := h.cell1
  have c2 := h.cell2
  have hD := h.quiet (drew_one w)
  have hC := cut_new hD (left_ s l.length keep) m2 hl (by omega) (by omega)
  have parts : (keep < 0 ∧ left_ s l.length keep = s) ∨ (¬ keep < 0 ∧ (l.length : Int) - (s : Int) < keep ∧ left_ s l.length keep = l.length) ∨ (¬ keep < 0 ∧ ¬ (l.length : Int) - (s : Int) < keep ∧ (left_ s l.length keep : Int) = s + keep) := by
    unfold left_
    omega
  have hlen : (l.take (left_ s l.length keep)).length = left_ s l.length keep := by rw [List.length_take]; omega
  have HL := Lib.hid hlen
  clear hlen
  have hw0 : IntKind.i64.wrap ((l.length : Int) - (s : Int)) = (l.length : Int) - (s : Int) := by simp [IntKind.wrap, IntKind.bits, IntKind.signed]; omega
  have hw1 : wrap64 ((l.length : Int) - (s : Int)) = (l.length : Int) - (s : Int) := by unfold wrap64; omega
  generalize left_ s l.length keep = m at *
  have hns : ¬ ((l.length : Int) - (s : Int) < 0) := by omega
  rcases parts with ⟨p1, p2⟩ | ⟨p1, p2, p3⟩ | ⟨p1, p2, p3⟩
  case' inl =>
    have f1 : (if keep < 0 then 0 else keep) = 0 := if_pos p1
    have f2 : (if (l.length : Int) - (s : Int) < 0 then (l.length : Int) - (s : Int) else 0) = 0 := if_neg hns
    have e1 : IntKind.i64.wrap ((s : Int) + 0) = (m : Int) := by simp [IntKind.wrap, IntKind.bits, IntKind.signed]; omega
    clear p2
  case' inr.inl =>
    have f1 : (if keep < 0 then 0 else keep) = keep := if_neg p1
    have f2 : (if (l.length : Int) - (s : Int) < keep then (l.length : Int) - (s : Int) else keep) = (l.length : Int) - (s : Int) := if_pos p2
    have e1 : IntKind.i64.wrap ((s : Int) + ((l.length : Int) - (s : Int))) = (m : Int) := by simp [IntKind.wrap, IntKind.bits, IntKind.signed]; omega
    clear p3
  case' inr.inr =>
    have f1 : (if keep < 0 then 0 else keep) = keep := if_neg p1
    have f2 : (if (l.length : Int) - (s : Int) < keep then (l.length : Int) - (s : Int) else keep) = keep := if_neg p2
    have e1 : IntKind.i64.wrap ((s : Int) + keep) = (m : Int) := by simp [IntKind.wrap, IntKind.bits, IntKind.signed]; omega
    clear p3
  all_goals
    have F1 := Lib.hid f1
    have F2 := Lib.hid f2
    have E1 := Lib.hid e1
    clear f1 f2 e1
    go_enter Try.func30, Try.ntmps30
    go_wp2_with fail
    go_still_tail 19, (by kernel_rfl)
    change wpList _ _ _ _ _ w.drew
    simp only [F1.out, F2.out, E1.out]
    clear F1 F2 E1
    go_wp2_with fail
    refine hC.mono ?_
    rintro e w3 ⟨A2, c3, rfl, D2, g2, F2⟩
    have gg := grown_to (drew_one w) g2
    clear hC hD g2
    go_wp2_with fail
    refine (sync_any D2).mono ?_
    rintro e w3 ⟨rfl, D3, g3⟩
    rw [HL.out] at D3
    go_wp2_with fail
    go_end0
    exact ⟨A2, c3, rfl, D3, grown_on gg g3, F2⟩
theorem crash_any (h : DiskAt w d r s A c l) (keep : Int) (hk1 : -9223372036854775808 ≤ keep) (hk2 : keep ≤ 9223372036854775807) (hs : s ≤ l.length) (hl : l.length ≤ 400000) :
    Calls Try.prog 30 #[.pointer (some ⟨d, 0, none⟩), .int .i64 keep] w fun e w' => ∃ A' c', e = .returned (.tuple #[]) ∧ DiskAt w' d r (left_ s l.length keep) A' c' (l.take (left_ s l.length keep)) ∧ w.grownBy w' (some d) :=
  (crash_new h keep hk1 hk2 hs hl).mono fun e w' ⟨A', c', h1, h2, h3, _⟩ => ⟨A', c', h1, h2, h3⟩
end
end Go.Proofs.Ytkhbpaloicefdaa.Ref
