/- A slice of slices of bytes that came in; voklaw13.Few. -/
import Derived.Test.YtkhbpaloicefdaaLists
import Derived.Test.YtkhbpaloicefdaaArgs2
import Derived.Deep.Matrix
namespace Go.Proofs.Ytkhbpaloicefdaa
open Go.RowKit Go.ChangeShapes Go.WideShapes Go.Deep
set_option linter.unusedVariables false
/-- A slice of slices that reads as the rows L, each small and with its room. -/
structure RowsAt (w : World) (B : Nat) (A : Option Addr) (L : List (List Nat)) : Prop where
  rows : 0 < L.length → ∃ ad, A = some ad ∧ ad.block < B ∧ ∀ k (h : k < L.length), ∃ A' c', w.cell? (ad.add k) = some (.slice A' L[k].length c') ∧ BytesAt w B A' L[k] ∧ Room A' L[k].length c'
  small : ∀ l ∈ L, Small l
theorem RowsAt.below {w w' : World} {B : Nat} {A : Option Addr} {L : List (List Nat)} (h : RowsAt w B A L) (hb : Below B w w') : RowsAt w' B A L := by
  refine ⟨fun hn => ?_, h.small⟩
  obtain ⟨ad, e, hB, hc⟩ := h.rows hn
  refine ⟨ad, e, hB, fun k hk => ?_⟩
  obtain ⟨A', c', h1, h2, h3⟩ := hc k hk
  have hbl : (ad.add k).block = ad.block := block_of_add _ _
  exact ⟨A', c', (hb.cell (by rw [hbl]; exact hB)).trans h1, h2.below hb, h3⟩
theorem RowsAt.get {w : World} {B : Nat} {A : Option Addr} {L : List (List Nat)} (h : RowsAt w B A L) {k : Nat} (hk : k < L.length) : ∃ ad A' c', A = some ad ∧ w.cell? (ad.add k) = some (.slice A' L[k].length c') ∧ BytesAt w B A' L[k] ∧ Room A' L[k].length c' ∧ (ad.add k).block < B := by
  obtain ⟨ad, e, hb, hc⟩ := h.rows (by omega)
  obtain ⟨A', c', e2, O, R⟩ := hc k hk
  exact ⟨ad, A', c', e, e2, O, R, by rw [block_of_add]; exact hb⟩
section
variable {H : Type} {enc : TypeId × Value → H} {W : World}
theorem rows_read {fuel : Nat} {a : Option Addr} {len cap : Nat} {x : DataW H × List MemPlace} (h : DataW.trod enc Try.prog W 0 (fun _ => true) true fuel 33 [.slice a len cap] = some x) :
    ∃ L : List (List Nat), L.length = len ∧ RowsAt W W.heap.size a L ∧ len ≤ maxLen := by
  rcases open_int_rows Try.underlying33 Try.underlying32 Try.underlying5 (by kernel_rfl) (by kernel_rfl) h with ⟨hcs, _⟩ | ⟨b, l, c, A, Ln, C, Z, hcs, _, hl, hm, _, hx⟩
  · injection hcs with hcs _
    injection hcs with h1 h2 h3
    subst h1 h2 h3
    exact ⟨[], rfl, ⟨fun hn => absurd hn (by simp), by simp⟩, by simp⟩
  · injection hcs with hcs _
    injection hcs with h1 h2 h3
    subst h1 h2 h3
    have hrow : ∀ r, r < len → Small (((Z r).take (Ln r)).map Int.toNat) ∧ (((Z r).take (Ln r)).map Int.toNat).length = Ln r ∧ BytesAt W W.heap.size (A r) (((Z r).take (Ln r)).map Int.toNat) ∧ Room (A r) (Ln r) (C r) := by
      intro r hr
      obtain ⟨e1, r1, r2, r3, r4, r5, r6⟩ := hx r (by omega)
      have hlen : (((Z r).take (Ln r)).map Int.toNat).length = Ln r := by simp; omega
      refine ⟨?_, hlen, ⟨by rw [bys_length, hlen]; omega, fun hn => ?_⟩, ⟨r1, r2⟩⟩
      · intro y hy
        obtain ⟨z, hz1, rfl⟩ := List.mem_map.1 hy
        have hb := u8_bd (r4 _ (List.mem_of_mem_take hz1))
        omega
      · rw [hlen] at hn
        cases hA : A r with
        | none => have := r5 hA; omega
        | some a' =>
          obtain ⟨_, hc⟩ := r6 a' hA
          refine ⟨a', rfl, ?_, fun j u hu => ?_⟩
          · have h0 := hc 0 (by omega)
            have := World.block_lt_of_cell? W _ h0
            rwa [block_of_add] at this
          · obtain ⟨n, hn, rfl⟩ := bys_get hu
            have hj : j < Ln r := by have := (List.getElem?_eq_some_iff.1 hn).1; omega
            rw [List.getElem?_map, List.getElem?_take_of_lt hj] at hn
            have hjz : j < (Z r).length := by omega
            rw [List.getElem?_eq_getElem hjz] at hn
            simp only [Option.map_some, Option.some.injEq] at hn
            rw [hc j (by omega), List.getD_eq_getElem?_getD, List.getElem?_eq_getElem hjz]
            have hb := u8_bd (r4 _ (List.getElem_mem hjz))
            rw [← hn]
            simp only [Option.getD_some]
            rw [Int.toNat_of_nonneg hb.1]
    refine ⟨(List.range len).map fun r => ((Z r).take (Ln r)).map Int.toNat, by simp, ⟨fun hn => ⟨b, rfl, ?_, fun k hk => ?_⟩, fun l hl => ?_⟩, by omega⟩
    · have h0 := (hx 0 (by simp at hn; omega)).1
      have := World.block_lt_of_cell? W _ h0
      rwa [block_of_add] at this
    · simp at hk
      obtain ⟨_, q2, q3, q4⟩ := hrow k hk
      refine ⟨A k, C k, ?_, ?_, ?_⟩
      · simp only [List.getElem_map, List.getElem_range]
        rw [q2]; exact (hx k (by omega)).1
      · simpa only [List.getElem_map, List.getElem_range] using q3
      · simp only [List.getElem_map, List.getElem_range]
        rw [q2]; exact q4
    · obtain ⟨r, hr, rfl⟩ := List.mem_map.1 hl
      exact (hrow r (List.mem_range.1 hr)).1
end
/-- How many bytes rows have. -/
def total (L : List (List Nat)) : Nat := (L.map List.length).sum
theorem total_snoc {L : List (List Nat)} {j : Nat} (h : j < L.length) : total (L.take (j + 1)) = total (L.take j) + L[j].length := by
  unfold total
  rw [List.map_take, List.map_take, List.take_succ_eq_append_getElem (by simpa using h), List.sum_append]
  simp
theorem total_le {L : List (List Nat)} (j : Nat) : total (L.take j) ≤ total L := by
  unfold total
  rw [List.map_take]
  have h := congrArg List.sum (List.take_append_drop j (L.map List.length))
  rw [List.sum_append] at h
  omega
end Go.Proofs.Ytkhbpaloicefdaa
