/- Rows of shifts of the call's own; slices.Clone of shifts. -/
import Derived.Test.YtbnchbcdgffkaaaMem
import Derived.Test.YtbnchbcdgffkaaaMay
import Derived.Lib.BufferMore
namespace Go.Proofs.Ytbnchbcdgffkaaa
open Go.RowKit
set_option linter.unusedVariables false
/-- The cells of shifts. -/
def flat : List Sh → List Value
  | [] => []
  | s :: l => .int .i64 s.at_ :: .int .i64 s.off :: flat l
theorem flat_len (L : List Sh) : (flat L).length = L.length * 2 := by
  induction L with
  | nil => rfl
  | cons s l ih => simp [flat, ih]; omega
theorem flat_app (L M : List Sh) : flat (L ++ M) = flat L ++ flat M := by
  induction L with
  | nil => rfl
  | cons s l ih => simp [flat, ih]
theorem flat_get (L : List Sh) (k : Nat) (h : k < L.length) : (flat L)[k * 2]? = some (.int .i64 L[k].at_) ∧ (flat L)[k * 2 + 1]? = some (.int .i64 L[k].off) := by
  induction L generalizing k with
  | nil => simp at h
  | cons s l ih =>
    cases k with
    | zero => exact ⟨rfl, rfl⟩
    | succ k =>
      have := ih k (by simpa using h)
      rw [show (k + 1) * 2 = k * 2 + 1 + 1 by omega]
      simpa [flat] using this
theorem flat_one (L : List Sh) : ∀ u ∈ flat L, u.oneCell' = true := by
  induction L with
  | nil => intro u h; cases h
  | cons s l ih =>
    intro u h
    simp only [flat, List.mem_cons] at h
    rcases h with rfl | rfl | h
    · rfl
    · rfl
    · exact ih u h
theorem add_odd (ad : Addr) (k : Nat) : ad.add (k * 2 + 1) = ⟨(ad.add (k * 2)).block, (ad.add (k * 2)).off + 1, none⟩ := by
  unfold Addr.add
  by_cases h : k = 0
  · subst h; simp
  · rw [if_neg (by omega), if_neg (by omega)]; simp; omega
theorem ShAt.reads {w : World} {B : Nat} {A : Option Addr} {L : List Sh} (h : ShAt w B A L) : Reads w B 2 A L.length (flat L) := by
  refine ⟨flat_len L, fun hn => ?_⟩
  obtain ⟨ad, e, hb, -⟩ := h 0 hn
  refine ⟨ad, e, by rw [block_of_add] at hb; exact hb, fun j u hu => ?_⟩
  have hj : j < L.length * 2 := by have := (List.getElem?_eq_some_iff.1 hu).1; rw [flat_len] at this; exact this
  obtain ⟨ad', e', hb', h1, h2⟩ := h (j / 2) (by omega)
  rw [e] at e'
  injection e' with e'
  subst e'
  obtain ⟨g1, g2⟩ := flat_get L (j / 2) (by omega)
  rcases Nat.mod_two_eq_zero_or_one j with m | m
  · rw [show j / 2 * 2 = j by omega] at g1 h1
    rw [g1] at hu
    injection hu with hu
    rw [← hu]; exact h1
  · rw [show j / 2 * 2 + 1 = j by omega] at g2
    rw [← add_odd, show j / 2 * 2 + 1 = j by omega] at h2
    rw [g2] at hu
    injection hu with hu
    rw [← hu]; exact h2
theorem ShAt.of_reads {w : World} {B : Nat} {A : Option Addr} {L : List Sh} (h : Reads w B 2 A L.length (flat L)) : ShAt w B A L := fun k hk => by
  obtain ⟨ad, e, hb, hc⟩ := h.2 (by omega)
  obtain ⟨g1, g2⟩ := flat_get L k hk
  exact ⟨ad, e, by rw [block_of_add]; exact hb, hc _ _ g1, by rw [← add_odd]; exact hc _ _ g2⟩
/-- A row of one's own that holds the shifts L. -/
def OwnS (w : World) (base : Nat) (v : Value) (L : List Sh) : Prop := w.ownsRow base 29 2 v L.length (flat L)
section
variable {w w' : World} {base : Nat} {v : Value} {L : List Sh} {A : Option Addr} {cp : Nat}
theorem OwnS.form (h : OwnS w base v L) : ∃ A cp, v = .slice A L.length cp := by
  rcases h.2 with ⟨rfl, hx⟩ | ⟨g, cp, cur, rfl, _⟩
  · rw [hx]
    exact ⟨none, 0, rfl⟩
  · exact ⟨_, _, rfl⟩
theorem OwnS.at_ (h : OwnS w base (.slice A L.length cp) L) : ShAt w w.heap.size A L := ShAt.of_reads (Reads.of_own h)
theorem OwnS.below (h : OwnS w base v L) {B : Nat} (hb : Below B w w') (hB : w.heap.size ≤ B) : OwnS w' base v L :=
  World.ownsRow.kept h ⟨hb.os, hb.tape, hb.output, hb.size, fun i hi _ => hb.block i (by omega)⟩ (by cases hv : v.ownBlock <;> simp : v.ownBlock = none ∨ v.ownBlock ≠ none)
theorem OwnS.alloc (h : OwnS w base v L) (o : Obj) : OwnS (w.alloc o) base v L := World.ownsRow.alloc h o
theorem OwnS.mono (h : OwnS w base v L) {base' : Nat} (hb : base' ≤ base) : OwnS w base' v L := by
  refine ⟨h.1, ?_⟩
  rcases h.2 with hn | ⟨g, cap, cur, e, hg, rest⟩
  · exact .inl hn
  · exact .inr ⟨g, cap, cur, e, Nat.le_trans hb hg, rest⟩
theorem OwnS.nil_ (w : World) (base : Nat) : OwnS w base (.slice none 0 0) [] := ⟨rfl, .inl ⟨rfl, rfl⟩⟩
theorem ownS_more {M : List Sh} (h : w.ownsRow base 29 2 v (L.length + M.length) (flat L ++ flat M)) : OwnS w base v (L ++ M) := by
  unfold OwnS
  rw [List.length_append, flat_app]
  exact h
end
theorem sh_row : (Try.prog.info? 29).map (fun i => (i.zero, i.size, i.bytes)) = some (some (.agg #[.int .i64 0, .int .i64 0]), 2, 16) := by kernel_rfl
theorem clone_some (a : Addr) (c B : Nat) (L : List Sh) (w : World) (ha : ShAt w B (some a) L) (hl : L.length ≤ 1000) :
    Calls Try.prog 47 #[.slice (some a) L.length c] w fun e w' => ∃ A' c', e = .returned (.slice A' L.length c') ∧ OwnS w' w.heap.size (.slice A' L.length c') L ∧ Below w.heap.size w w' := by
  obtain ⟨i0, hi, hz0, hz1, hz2⟩ := info_parts sh_row
  have hown := World.ownsRow_made w (base := w.heap.size) (e := 29) (size := 2) #[] 0 (Nat.le_refl _) (by simp [maxLen]) rfl
  have ha' : Reads (w.alloc (.cells #[] 29)) (max B w.heap.size) 2 (some a) L.length (flat L) := ⟨ha.reads.1, fun hn => by
    obtain ⟨ad, e, hb, hc⟩ := ha.reads.2 hn
    refine ⟨ad, e, by omega, fun j u hu => ?_⟩
    have h := hc j u hu
    rw [World.cell?_alloc_lt w _ _ (World.block_lt_of_cell? w _ h)]
    exact h⟩
  have hnil : ∀ W, (binOp .eql 22 (.slice (some a) L.length c) (.slice none 0 0)).run Try.prog W = .ok (.bool false) W := fun W => Lib.run_eql_slice_some_nil W _ _ _ Try.underlying22
  go_enter Try.func47, Try.ntmps47
  go_wp2_with (at_builtin; refine wpList_append_any _ rfl (.tmp 5) (.tmp 6) _ rfl w.heap.size 29 i0 _ 2 16 Try.underlying22 hi hz0 hz1 hz2 rfl (by omega) (.slice (some ⟨w.heap.size, 0, none⟩) 0 0) 0 [] rfl hown (max B w.heap.size) (some a) L.length c (flat L) rfl ha' (flat_one L) (by simp only [maxLen]; omega) (by omega) (by simp) ?_; intro v1 w1 hown1 hg1 hat1)
  go_ret
  have ho : OwnS w1 w.heap.size v1 L := by unfold OwnS; simpa using hown1
  obtain ⟨A', c', rfl⟩ := ho.form
  exact ⟨A', c', rfl, ho, ((Below.refl _ _).alloc (Nat.le_refl _) _).grown hg1 (by simp) (by simp [Value.ownBlock])⟩
/-- Clone, of any slice of shifts. -/
theorem clone_any (A : Option Addr) (c B : Nat) (L : List Sh) (w : World) (ha : ShAt w B A L) (hl : L.length ≤ 1000) :
    Calls Try.prog 47 #[.slice A L.length c] w fun e w' => ∃ A' c', e = .returned (.slice A' L.length c') ∧ OwnS w' w.heap.size (.slice A' L.length c') L ∧ Below w.heap.size w w' := by
  cases A with
  | some a => exact clone_some a c B L w ha hl
  | none =>
    have hL : L = [] := by
      rcases Nat.eq_zero_or_pos L.length with h | h
      · exact List.length_eq_zero_iff.mp h
      · obtain ⟨ad, e, -⟩ := ha 0 h
        cases e
    subst hL
    have hnil : ∀ W, (binOp .eql 22 (.slice none 0 c) (.slice none 0 0)).run Try.prog W = .ok (.bool true) W := fun W => Lib.run_eql_slice_nil_nil W _ _ Try.underlying22
    go_enter Try.func47, Try.ntmps47
    go_wp2_with fail
    go_ret
    exact ⟨none, 0, rfl, OwnS.nil_ _ _, Below.refl _ _⟩
end Go.Proofs.Ytbnchbcdgffkaaa
