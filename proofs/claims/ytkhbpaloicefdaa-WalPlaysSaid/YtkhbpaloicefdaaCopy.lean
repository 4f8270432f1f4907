/- vokref.CopyBytes, bytes.Clone: bytes of their own. -/
import Derived.Test.YtkhbpaloicefdaaSum
import Derived.Lib.BufferMore
namespace Go.Proofs.Ytkhbpaloicefdaa
open Go.RowKit
/-- A row of one's own that holds the bytes l. -/
def Own (w : World) (base : Nat) (v : Value) (l : List Nat) : Prop := w.ownsRow base 5 1 v l.length (bys l)
section
variable {w w' : World} {base : Nat} {v : Value} {l : List Nat} {A : Option Addr} {cp : Nat}
theorem Own.form (h : Own w base v l) : ∃ A cp, v = .slice A l.length cp := by
  rcases h.2 with ⟨rfl, hx⟩ | ⟨g, cp, cur, rfl, _⟩
  · have : l = [] := by simpa [bys] using hx
    subst this
    exact ⟨none, 0, rfl⟩
  · exact ⟨_, _, rfl⟩
theorem Own.reads (h : Own w base (.slice A l.length cp) l) : BytesAt w w.heap.size A l := Reads.of_own h
theorem Own.below (h : Own w base v l) {B : Nat} (hb : Below B w w') (hB : w.heap.size ≤ B) : Own w' base v l :=
  World.ownsRow.kept h ⟨hb.os, hb.tape, hb.output, hb.size, fun i hi _ => hb.block i (by omega)⟩ (by cases hv : v.ownBlock <;> simp : v.ownBlock = none ∨ v.ownBlock ≠ none)
theorem Own.grown (h : Own w base v l) {row : Option Nat} (g : w.grownBy w' row) (hne : v.ownBlock = none ∨ v.ownBlock ≠ row) : Own w' base v l := World.ownsRow.kept h g hne
theorem Own.alloc (h : Own w base v l) (o : Obj) : Own (w.alloc o) base v l := World.ownsRow.alloc h o
theorem Own.mono (h : Own w base v l) {base' : Nat} (hb : base' ≤ base) : Own w base' v l := by
  refine ⟨h.1, ?_⟩
  rcases h.2 with hn | ⟨g, cap, cur, e, hg, rest⟩
  · exact .inl hn
  · exact .inr ⟨g, cap, cur, e, Nat.le_trans hb hg, rest⟩
/-- Two rows, the second one made later, lie apart. -/
theorem Own.later (h : Own w base v l) {base' : Nat} {v' : Value} {k : List Nat} (h' : Own w' base' v' k) (hb : w.heap.size ≤ base') : v.ownBlock = none ∨ v.ownBlock ≠ v'.ownBlock := by
  cases e : v.ownBlock with
  | none => exact .inl rfl
  | some g =>
    refine .inr fun e2 => ?_
    have h1 := (World.ownsRow.lt h g e).2
    have h2 := (World.ownsRow.lt h' g e2.symm).1
    omega
theorem below_quiet {B : Nat} (hb : Below B w w') (hB : w.heap.size ≤ B) : w.grownBy w' none := ⟨hb.os, hb.tape, hb.output, hb.size, fun i hi _ => hb.block i (by omega)⟩
theorem BytesAt.size_ (h : BytesAt w w.heap.size A l) (hb : Below w.heap.size w w') : BytesAt w' w'.heap.size A l := Reads.more (h.below hb) hb.size
theorem BytesAt.grownAt {B : Nat} (h : BytesAt w B A l) {row : Option Nat} (g : w.grownBy w' row) (hB : B ≤ w.heap.size) (hr : ∀ k, row = some k → B ≤ k) : BytesAt w' B A l := Reads.grown h g hB hr
end
theorem byte_row : (Try.prog.info? 5).map (fun i => (i.zero, i.size, i.bytes)) = some (some (.int .u8 0), 1, 1) := by kernel_rfl
theorem copy_any (A : Option Addr) (c B : Nat) (l : List Nat) (w : World) (ha : BytesAt w B A l) (hl : l.length ≤ 1000000) :
    Calls Try.prog 42 #[.slice A l.length c] w fun e w' => ∃ A' c', e = .returned (.slice A' l.length c') ∧ Own w' w.heap.size (.slice A' l.length c') l ∧ Below w.heap.size w w' := by
  obtain ⟨i0, hi, hz0, hz1, hz2⟩ := info_parts byte_row
  have hown := World.ownsRow_made w (base := w.heap.size) (e := 5) (size := 1) #[] 0 (Nat.le_refl _) (by simp [maxLen]) rfl
  have ha' : Reads (w.alloc (.cells #[] 5)) (max B w.heap.size) 1 A l.length (bys l) := ⟨ha.1, fun hn => by
    obtain ⟨ad, e, hb, hc⟩ := ha.2 hn
    refine ⟨ad, e, by omega, fun j u hu => ?_⟩
    have h := hc j u hu
    rw [World.cell?_alloc_lt w _ _ (World.block_lt_of_cell? w _ h)]
    exact h⟩
  go_enter Try.func42, Try.ntmps42
  go_wp2_with (at_builtin; refine wpList_append_any _ rfl (.tmp 3) (.tmp 4) _ rfl w.heap.size 5 i0 _ 1 1 Try.underlying32 hi hz0 hz1 hz2 rfl (by omega) (.slice (some ⟨w.heap.size, 0, none⟩) 0 0) 0 [] rfl hown (max B w.heap.size) A l.length c (bys l) rfl ha' (bys_one l) (by simp only [maxLen]; omega) (by omega) (by simp) ?_; intro v1 w1 hown1 hg1 hat1)
  go_ret
  have ho : Own w1 w.heap.size v1 l := by unfold Own; simpa using hown1
  obtain ⟨A', c', rfl⟩ := ho.form
  exact ⟨A', c', rfl, ho, ((Below.refl _ _).alloc (Nat.le_refl _) _).grown hg1 (by simp) (by simp [Value.ownBlock])⟩
/-- Clone, of a slice that is not nil. -/
theorem clone_any (a : Addr) (c B : Nat) (l : List Nat) (w : World) (ha : BytesAt w B (some a) l) (hl : l.length ≤ 1000000) :
    Calls Try.prog 37 #[.slice (some a) l.length c] w fun e w' => ∃ A' c', e = .returned (.slice A' l.length c') ∧ Own w' w.heap.size (.slice A' l.length c') l ∧ Below w.heap.size w w' := by
  obtain ⟨i0, hi, hz0, hz1, hz2⟩ := info_parts byte_row
  have hown := World.ownsRow_made w (base := w.heap.size) (e := 5) (size := 1) #[] 0 (Nat.le_refl _) (by simp [maxLen]) rfl
  have ha' : Reads (w.alloc (.cells #[] 5)) (max B w.heap.size) 1 (some a) l.length (bys l) := ⟨ha.1, fun hn => by
    obtain ⟨ad, e, hb, hc⟩ := ha.2 hn
    refine ⟨ad, e, by omega, fun j u hu => ?_⟩
    have h := hc j u hu
    rw [World.cell?_alloc_lt w _ _ (World.block_lt_of_cell? w _ h)]
    exact h⟩
  have hnil : ∀ W, (binOp .eql 32 (.slice (some a) l.length c) (.slice none 0 0)).run Try.prog W = .ok (.bool false) W := fun W => Lib.run_eql_slice_some_nil W _ _ _ Try.underlying32
  go_enter Try.func37, Try.ntmps37
  go_wp2_with (at_builtin; refine wpList_append_any _ rfl (.tmp 5) (.tmp 6) _ rfl w.heap.size 5 i0 _ 1 1 Try.underlying32 hi hz0 hz1 hz2 rfl (by omega) (.slice (some ⟨w.heap.size, 0, none⟩) 0 0) 0 [] rfl hown (max B w.heap.size) (some a) l.length c (bys l) rfl ha' (bys_one l) (by simp only [maxLen]; omega) (by omega) (by simp) ?_; intro v1 w1 hown1 hg1 hat1)
  go_ret
  have ho : Own w1 w.heap.size v1 l := by unfold Own; simpa using hown1
  obtain ⟨A', c', rfl⟩ := ho.form
  exact ⟨A', c', rfl, ho, ((Below.refl _ _).alloc (Nat.le_refl _) _).grown hg1 (by simp) (by simp [Value.ownBlock])⟩
end Go.Proofs.Ytkhbpaloicefdaa
