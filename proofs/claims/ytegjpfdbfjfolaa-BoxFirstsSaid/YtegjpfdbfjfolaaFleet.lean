/- Many boxes, each with a channel of its own. -/
import Derived.Test.YtegjpfdbfjfolaaTwo
namespace Go.Proofs.Ytegjpfdbfjfolaa
open Go.RowKit

/-- Boxes 0 .. m - 1: f tells each one's block and its channel's; L what it holds. -/
def Fleet (B m : Nat) (f : Nat → Nat × Nat) (cap : Nat → Nat) (L : Nat → List Int) (w : World) : Prop :=
  (∀ i, i < m → BoxAt w (f i).1 (f i).2 (cap i) (L i) ∧ B ≤ (f i).2) ∧ ∀ i j, i < m → j < m → i ≠ j → (f i).2 ≠ (f j).2 ∧ (f i).2 ≠ (f j).1
def ptrOf (f : Nat → Nat × Nat) (i : Nat) : Value := .pointer (some ⟨(f i).1, 0, none⟩)
def ptrs (f : Nat → Nat × Nat) (m : Nat) : List Value := (List.range m).map (ptrOf f)
section
variable {B m : Nat} {f : Nat → Nat × Nat} {cap : Nat → Nat} {L L' : Nat → List Int} {w w' : World}
theorem Fleet.congr (h : Fleet B m f cap L w) (e : ∀ i, i < m → L i = L' i) : Fleet B m f cap L' w := ⟨fun i hi => e i hi ▸ h.1 i hi, h.2⟩
theorem Fleet.grown (h : Fleet B m f cap L w) {row : Option Nat} (g : w.grownBy w' row) (hr : ∀ i, i < m → row ≠ some (f i).1 ∧ row ≠ some (f i).2) : Fleet B m f cap L w' :=
  ⟨fun i hi => ⟨(h.1 i hi).1.grown g (hr i hi).1 (hr i hi).2, (h.1 i hi).2⟩, h.2⟩
theorem Fleet.quiet (h : Fleet B m f cap L w) (g : w.grownBy w' none) : Fleet B m f cap L w' := h.grown g (by simp)
theorem Fleet.set_ (h : Fleet B m f cap L w) {k : Nat} (hk : k < m) {l : List Int} (hb : BoxAt w' (f k).1 (f k).2 (cap k) l) (t : Turned (f k).2 w w') (e : ∀ i, i < m → i ≠ k → L i = L' i) (e' : L' k = l) : Fleet B m f cap L' w' := by
  refine ⟨fun i hi => ?_, h.2⟩
  by_cases hik : i = k
  · subst hik
    exact ⟨e' ▸ hb, (h.1 i hi).2⟩
  · obtain ⟨h1, h2⟩ := h.1 i hi
    obtain ⟨q1, q2⟩ := h.2 k i hk hi (Ne.symm hik)
    rw [← e i hi hik]
    exact ⟨h1.turned t (Ne.symm q2) (Ne.symm q1), h2⟩
theorem Fleet.add_ (h : Fleet B m f cap L w) {b c n : Nat} {l : List Int} (hb : BoxAt w b c n l) (hB : B ≤ c) (hne : ∀ i, i < m → (f i).2 ≠ c ∧ (f i).2 ≠ b ∧ c ≠ (f i).1) :
    Fleet B (m + 1) (fun i => if i = m then (b, c) else f i) (fun i => if i = m then n else cap i) (fun i => if i = m then l else L i) w := by
  refine ⟨fun i hi => ?_, fun i j hi hj hij => ?_⟩
  · by_cases him : i = m
    · subst him; simp only [if_true]; exact ⟨hb, hB⟩
    · simp only [if_neg him]; exact h.1 i (by omega)
  · by_cases him : i = m
    · subst him
      simp only [if_true]
      rw [if_neg (Ne.symm hij)]
      obtain ⟨q1, q2, q3⟩ := hne j (by omega)
      exact ⟨Ne.symm q1, q3⟩
    · simp only []
      rw [if_neg him]
      by_cases hjm : j = m
      · subst hjm
        simp only [if_true]
        obtain ⟨q1, q2, q3⟩ := hne i (by omega)
        exact ⟨q1, q2⟩
      · rw [if_neg hjm]
        exact h.2 i j (by omega) (by omega) hij
theorem Fleet.ltc (h : Fleet B m f cap L w) {i : Nat} (hi : i < m) : (f i).2 < w.heap.size ∧ (f i).1 < w.heap.size := ⟨(h.1 i hi).1.ltc, (h.1 i hi).1.ltb⟩
/-- A row of pointers is no box. -/
theorem ptrRow_ne {base n : Nat} {v : Value} {xs : List Value} {b c k : Nat} {l : List Int} (h : w.ownsRow base 24 1 v n xs) (hb : BoxAt w b c k l) : v.ownBlock ≠ some b ∧ v.ownBlock ≠ some c := by
  obtain ⟨h1, s, r, h2⟩ := hb
  rcases h.2 with ⟨rfl, _⟩ | ⟨g, cp, cur, rfl, _, hg, _⟩
  · simp [Value.ownBlock]
  · refine ⟨?_, ?_⟩ <;> intro e <;> simp [Value.ownBlock] at e <;> subst e
    · rw [h1] at hg; injection hg with hg; injection hg with _ ht; cases ht
    · rw [h2] at hg; cases hg
theorem Fleet.bxs (h : Fleet B m f cap L w) : ∀ x ∈ (List.range m).map (fun i => Bx.mk (f i).1 (f i).2 (cap i) (L i)), Bx.At w x := by
  intro x hx
  obtain ⟨i, hi, rfl⟩ := List.mem_map.1 hx
  exact (h.1 i (List.mem_range.1 hi)).1
theorem bxs_ptrs : ((List.range m).map (fun i => Bx.mk (f i).1 (f i).2 (cap i) (L i))).map Bx.ptr = ptrs f m := by
  simp [ptrs, ptrOf, Bx.ptr, Function.comp_def]
/-- First, of a fleet whose first box with something in it is box k. -/
theorem fleet_hit (h : Fleet B m f cap L w) {A : Option Addr} {c D : Nat} (hA : Reads w D 1 A m (ptrs f m)) (hm : m ≤ 1000) {k : Nat} (hk : k < m) (he : ∀ i, i < k → L i = []) {n : Int} {t : List Int} (ht : L k = n :: t) :
    Calls Try.prog 14 #[.slice A m c] w fun e w' => e = .returned (.tuple #[.int .i64 (k : Int), .int .i64 n, .bool true]) ∧ BoxAt w' (f k).1 (f k).2 (cap k) t ∧ Turned (f k).2 w w' := by
  have hlen : ((List.range m).map (fun i => Bx.mk (f i).1 (f i).2 (cap i) (L i))).length = m := by simp
  have hr := first_hit A c D _ w (by rw [hlen, bxs_ptrs]; exact hA) h.bxs (by omega) k (by omega) (by intro i hi hik; simp; exact he i hik) n t (by simp; exact ht)
  simpa using hr
theorem fleet_miss (h : Fleet B m f cap L w) {A : Option Addr} {c D : Nat} (hA : Reads w D 1 A m (ptrs f m)) (hm : m ≤ 1000) (he : ∀ i, i < m → L i = []) :
    Calls Try.prog 14 #[.slice A m c] w fun e w' => e = .returned (.tuple #[.int .i64 0, .int .i64 0, .bool false]) ∧ w = w' := by
  have hlen : ((List.range m).map (fun i => Bx.mk (f i).1 (f i).2 (cap i) (L i))).length = m := by simp
  have hr := first_miss A c D _ w (by rw [hlen, bxs_ptrs]; exact hA) h.bxs (by omega) (by intro i hi; simp at hi; simp; exact he i hi)
  simpa using hr
end
end Go.Proofs.Ytegjpfdbfjfolaa
