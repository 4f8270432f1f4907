/- disk.Copy. -/
import Derived.Test.YtelkllhibkefbaaCrash
namespace Go.Proofs.Ytelkllhibkefbaa
open Go.RowKit
set_option linter.unusedVariables false
attribute [local go_sem ↓] Go.wp_at_zero Go.wp_at_succ
section
variable {w w' : World} {d c c' : Nat} {r s r' s' : Int} {A A' : Option Addr} {l l' : List Nat}
/-- A disk that was made out of a row of one's own. -/
theorem DiskAt.made {w : World} {B c : Nat} {A : Option Addr} {l : List Nat} (h : Own w B (.slice A l.length c) l) (hs : Small l) (r s : Int) : DiskAt (w.alloc (.cells #[.int .i64 r, .int .i64 s, .slice A l.length c] 52)) w.heap.size r s A c l := by
  have hr := h.reads
  refine ⟨heap_alloc_new w _, (Reads.more (hr.alloc (Nat.le_refl _) _) (by simp)), ?_, ?_, hs⟩
  · intro ad e
    subst e
    rcases h.2 with ⟨e, _⟩ | ⟨g, cp, cur, e, hb, hg, _⟩
    · injection e with e; cases e
    · injection e with e
      injection e with e
      subst e
      exact ⟨cur, (Below.heap_alloc w _ g (World.ownsRow.lt h g rfl).2).trans hg⟩
  · rcases h.2 with ⟨e, _⟩ | ⟨g, cp, cur, e, _, _, hn, hm, _⟩
    · injection e with e1 e2 e3
      subst e1 e3
      exact ⟨by rw [e2]; exact Nat.le_refl _, by simp, fun _ => rfl⟩
    · injection e with e1 e2 e3
      subst e1 e3
      exact ⟨hn, hm, fun e => by cases e⟩
theorem alloc_grown (w : World) (o : Obj) : w.grownBy (w.alloc o) none := ⟨rfl, rfl, rfl, by simp, fun k hk _ => Below.heap_alloc w o k hk⟩
set_option maxRecDepth 100000 in
set_option maxHeartbeats 1000000 in
theorem copy_disk (h : DiskAt w d r s A c l) (hl : l.length ≤ 1000000) :
    Calls Try.prog 19 #[.pointer (some ⟨d, 0, none⟩)] w fun e w' => ∃ d' A' c', e = .returned (.pointer (some ⟨d', 0, none⟩)) ∧ DiskAt w' d' r s A' c' l ∧ w.grownBy w' none ∧ w.heap.size ≤ d' ∧ (∀ ad, A' = some ad → w.heap.size ≤ ad.block) := by
  have c0 := h.cell0
  have c1 := h.cell1
  have hD := h.quiet (drew_one w)
  have hsm := h.small
  go_enter Try.func19, Try.ntmps19
  go_wp2_with fail
  go_region_held3 (fun w' => w'.cell? ⟨d, 0, none⟩ = some (.int .i64 r) ∧ w'.cell? ⟨d, 1, none⟩ = some (.int .i64 s)) (first | exact ⟨DiskAt.cell0 (by assumption), DiskAt.cell1 (by assumption)⟩ | go_keep)
    (first | (go_at_call 10; refine (bytes_of hD hl).mono ?_; rintro e w2 ⟨A2, c2, rfl, O2, b2⟩; have D2 := hD.quiet (below_quiet2 b2)))
  have g2 := grown_to (drew_one w) (below_quiet2 b2)
  have g3 : w.grownBy (w2.alloc (.cells #[.int .i64 r, .int .i64 s, .slice A2 l.length c2] 52)) none := grown_on g2 (alloc_grown w2 _)
  have hsz : w.heap.size ≤ w2.heap.size := b2.size
  have M := DiskAt.made O2 hsm r s
  have F := Own.from_ O2
  clear b2 D2 hD
  go_wp2_with fail
  go_ret
  exact ⟨_, A2, c2, rfl, M, g3, hsz, F⟩
end
end Go.Proofs.Ytelkllhibkefbaa
