/- BoxFirsts: a slice of slices that came in reads as lists. -/
import Derived.Test.YtegjpfdbfjfolaaFirstsWalk
import Derived.Deep.Matrix
import Derived.ChangeSame
namespace Go.Proofs.Ytegjpfdbfjfolaa
open Go.RowKit Go.ChangeShapes Go.WideShapes Go.Deep
section
variable {H : Type} {enc : TypeId × Value → H} {W : World}
theorem rows_read {fuel : Nat} {a : Option Addr} {len cap : Nat} {x : DataW H × List MemPlace} (h : DataW.trod enc Try.prog W 0 (fun _ => true) true fuel 34 [.slice a len cap] = some x) :
    ∃ ls : Nat → List Int, RowsAt W W.heap.size a len ls ∧ len ≤ maxLen := by
  rcases open_int_rows Try.underlying34 Try.underlying22 Try.underlying3 (by kernel_rfl) (by kernel_rfl) h with ⟨hcs, _⟩ | ⟨b, l, c, A, L, C, Z, hcs, _, hl, hm, _, hx⟩
  · injection hcs with hcs _
    injection hcs with h1 h2 h3
    subst h1 h2 h3
    exact ⟨fun _ => [], fun hn => absurd hn (by omega), by simp⟩
  · injection hcs with hcs _
    injection hcs with h1 h2 h3
    subst h1 h2 h3
    refine ⟨fun r => (Z r).take (L r), fun hn => ⟨b, rfl, ?_, fun r hr => ?_⟩, by omega⟩
    · have h0 := (hx 0 (by omega)).1
      have := World.block_lt_of_cell? W _ h0
      rwa [block_of_add] at this
    · obtain ⟨e1, r1, r2, r3, r4, r5, r6⟩ := hx r (by omega)
      have hlen : ((Z r).take (L r)).length = L r := by rw [List.length_take]; omega
      refine ⟨A r, C r, by rw [hlen]; exact e1, ?_⟩
      refine ⟨by simp [vals], fun hn => ?_⟩
      have hn' : 0 < L r := by simpa [hlen] using hn
      cases hA : A r with
      | none => have := r5 hA; omega
      | some a' =>
        obtain ⟨_, hc⟩ := r6 a' hA
        refine ⟨a', rfl, ?_, fun j u hu => ?_⟩
        · have h0 := hc 0 (by omega)
          have := World.block_lt_of_cell? W _ h0
          rwa [block_of_add] at this
        · obtain ⟨m, hm1, rfl⟩ := vals_get hu
          have hj : j < L r := by have h5 : j < ((Z r).take (L r)).length := (List.getElem?_eq_some_iff.1 hm1).1; omega
          rw [hc j (by omega)]
          have hm2 : ((Z r).take (L r))[j]? = some m := hm1
          rw [List.getElem?_take_of_lt hj] at hm2
          rw [List.getD_eq_getElem?_getD, hm2]
          rfl
end
end Go.Proofs.Ytegjpfdbfjfolaa
