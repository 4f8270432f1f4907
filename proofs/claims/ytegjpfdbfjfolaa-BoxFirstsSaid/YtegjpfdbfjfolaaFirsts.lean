/- BoxFirsts: the first that is not empty: the walk. -/
import Derived.Test.YtegjpfdbfjfolaaFleet
namespace Go.Proofs.Ytegjpfdbfjfolaa
open Go.RowKit

/-- A slice of slices of numbers that reads as the lists ls 0 .. ls (n - 1). -/
def RowsAt (w : World) (B : Nat) (A : Option Addr) (n : Nat) (ls : Nat → List Int) : Prop :=
  0 < n → ∃ ad, A = some ad ∧ ad.block < B ∧ ∀ r, r < n → ∃ a c, w.cell? (ad.add r) = some (.slice a (ls r).length c) ∧ IntsAt w B a (ls r)
theorem RowsAt.below {w w' : World} {B n : Nat} {A : Option Addr} {ls : Nat → List Int} (h : RowsAt w B A n ls) (hb : Below B w w') : RowsAt w' B A n ls := by
  intro hn
  obtain ⟨ad, e, hB, hc⟩ := h hn
  refine ⟨ad, e, hB, fun r hr => ?_⟩
  obtain ⟨a, c, h1, h2⟩ := hc r hr
  have hbl : (ad.add r).block = ad.block := block_of_add _ _
  exact ⟨a, c, (hb.cell (by rw [hbl]; exact hB)).trans h1, Reads.below h2 hb⟩
theorem RowsAt.row {w : World} {B n : Nat} {A : Option Addr} {ls : Nat → List Int} (h : RowsAt w B A n ls) {r : Nat} (hr : r < n) : ∃ ad a c, A = some ad ∧ w.cell? (ad.add r) = some (.slice a (ls r).length c) ∧ IntsAt w B a (ls r) := by
  obtain ⟨ad, e, hB, hc⟩ := h (by omega)
  obtain ⟨a, c, h1, h2⟩ := hc r hr
  exact ⟨ad, a, c, e, h1, h2⟩
theorem RowsAt.num {w : World} {B n : Nat} {A : Option Addr} {ls : Nat → List Int} (h : RowsAt w B A n ls) {r k : Nat} (hr : r < n) (hk : k < (ls r).length) : ∃ ad a c, A = some ad ∧ w.cell? (ad.add r) = some (.slice (some a) (ls r).length c) ∧ w.cell? (a.add k) = some (.int .i64 (ls r)[k]) := by
  obtain ⟨ad, a, c, e, h1, h2⟩ := h.row hr
  obtain ⟨a', rfl, h3⟩ := h2.get hk
  exact ⟨ad, a', c, e, h1, h3⟩

/-- The boxes and the slice of them. -/
structure Squad (W : World) (m : Nat) (f : Nat → Nat × Nat) (cap : Nat → Nat) (L : Nat → List Int) (v : Value) (w : World) : Prop where
  fl : Fleet W.heap.size m f cap L w
  row : w.ownsRow W.heap.size 24 1 v m (ptrs f m)
  bel : Below W.heap.size W w
/-- And one box that is not yet among them. -/
structure Joins (W : World) (m : Nat) (f : Nat → Nat × Nat) (cap : Nat → Nat) (L : Nat → List Int) (v : Value) (b c n : Nat) (w : World) (l : List Int) : Prop where
  sq : Squad W m f cap L v w
  box : BoxAt w b c n l
  hB : W.heap.size ≤ c
  ne_ : ∀ i, i < m → (f i).2 ≠ c ∧ (f i).2 ≠ b ∧ c ≠ (f i).1
section
variable {W w w' : World} {m : Nat} {f : Nat → Nat × Nat} {cap : Nat → Nat} {L L' : Nat → List Int} {v : Value} {b c n : Nat} {l l' : List Int}
theorem Squad.size (h : Squad W m f cap L v w) : W.heap.size ≤ w.heap.size := h.bel.size
theorem Squad.start (h : Below W.heap.size W w) : Squad W 0 f cap L (.slice none 0 0) w :=
  ⟨⟨fun i hi => absurd hi (by omega), fun i j hi => absurd hi (by omega)⟩, World.ownsRow_nil _ _ _ _, h⟩
theorem Squad.congr (h : Squad W m f cap L v w) (e : ∀ i, i < m → L i = L' i) : Squad W m f cap L' v w := ⟨h.fl.congr e, h.row, h.bel⟩
theorem Squad.quiet (h : Squad W m f cap L v w) (g : w.grownBy w' none) : Squad W m f cap L v w' :=
  ⟨h.fl.quiet g, h.row.kept g (by cases hv : v.ownBlock <;> simp), h.bel.grown g h.size (by simp)⟩
theorem Squad.turn (h : Squad W m f cap L v w) {k : Nat} (hk : k < m) (hb : BoxAt w' (f k).1 (f k).2 (cap k) l) (t : Turned (f k).2 w w') (e : ∀ i, i < m → i ≠ k → L i = L' i) (e' : L' k = l) : Squad W m f cap L' v w' := by
  have h2 := (h.fl.1 k hk)
  exact ⟨h.fl.set_ hk hb t e e', h.row.kept t.1 (.inr (ptrRow_ne h.row h2.1).2), h.bel.grown t.1 h.size (by intro g e; injection e with e; have := h2.2; omega)⟩
theorem Squad.joins (h : Squad W m f cap L v w) (n : Nat) : Joins W m f cap L v (w.heap.size + 1) w.heap.size n (newBox w n) [] := by
  refine ⟨h.quiet (below_only (newBox_below w n)), newBox_at w n, h.size, fun i hi => ?_⟩
  obtain ⟨q1, q2⟩ := h.fl.ltc hi
  omega
theorem Joins.put (h : Joins W m f cap L v b c n w l) (hb : BoxAt w' b c n l') (t : Turned c w w') : Joins W m f cap L v b c n w' l' := by
  refine ⟨⟨h.sq.fl.grown t.1 fun i hi => ?_, h.sq.row.kept t.1 (.inr (ptrRow_ne h.sq.row h.box).2), h.sq.bel.grown t.1 h.sq.size (by intro g e; injection e with e; have := h.hB; omega)⟩, hb, h.hB, h.ne_⟩
  obtain ⟨q1, q2, q3⟩ := h.ne_ i hi
  exact ⟨by simpa using q3, by simpa using Ne.symm q1⟩
theorem Joins.quiet (h : Joins W m f cap L v b c n w l) (g : w.grownBy w' none) : Joins W m f cap L v b c n w' l := ⟨h.sq.quiet g, h.box.grown g (by simp) (by simp), h.hB, h.ne_⟩
theorem ptrs_snoc (f : Nat → Nat × Nat) (m b c : Nat) : ptrs f m ++ [.pointer (some ⟨b, 0, none⟩)] = ptrs (fun i => if i = m then (b, c) else f i) (m + 1) := by
  unfold ptrs ptrOf
  rw [List.range_succ, List.map_append]
  simp only [List.map_cons, List.map_nil, if_true]
  congr 1
  apply List.map_congr_left
  intro i hi
  have := List.mem_range.1 hi
  rw [if_neg (by omega)]
theorem Joins.add_ (h : Joins W m f cap L v b c n w (L m)) {v' : Value} (ho : w'.ownsRow W.heap.size 24 1 v' (m + 1) (ptrs f m ++ [.pointer (some ⟨b, 0, none⟩)])) (g : w.grownBy w' v.ownBlock) :
    ∃ f' cap', Squad W (m + 1) f' cap' L v' w' := by
  have hfl : Fleet W.heap.size m f cap L w' := h.sq.fl.grown g fun i hi => ptrRow_ne h.sq.row (h.sq.fl.1 i hi).1
  have hb : BoxAt w' b c n (L m) := h.box.grown g (ptrRow_ne h.sq.row h.box).1 (ptrRow_ne h.sq.row h.box).2
  have h1 := hfl.add_ hb h.hB h.ne_
  refine ⟨_, _, h1.congr fun i hi => ?_, ptrs_snoc f m b c ▸ ho, h.sq.bel.grown g h.sq.size fun k hk => (h.sq.row.lt k hk).1⟩
  by_cases him : i = m
  · subst him; simp
  · simp [him]
theorem Squad.form (h : Squad W m f cap L v w) : ∃ A cp, Squad W m f cap L (.slice A m cp) w ∧ v = .slice A m cp := by
  have h0 := h.row
  rcases h0.2 with ⟨rfl, hx⟩ | ⟨g, cp, cur, rfl, _⟩
  · have : m = 0 := by simpa [ptrs] using hx
    subst this
    exact ⟨none, 0, h, rfl⟩
  · exact ⟨_, _, h, rfl⟩
theorem Squad.reads {A : Option Addr} {cp : Nat} (h : Squad W m f cap L (.slice A m cp) w) : Reads w w.heap.size 1 A m (ptrs f m) := Reads.of_own h.row
end
/-- What the boxes hold when r of them are empty and k numbers of the next one are out. -/
def cur (ls : Nat → List Int) (r k i : Nat) : List Int := if i < r then [] else if i = r then (ls i).drop k else ls i
theorem ptr_row : (Try.prog.info? 24).map (fun i => (i.zero, i.size, i.bytes)) = some (some (.pointer none), 1, 8) := by kernel_rfl
end Go.Proofs.Ytegjpfdbfjfolaa
