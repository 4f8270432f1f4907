/- Arguments: a slice of bytes that came in reads as a list. -/
import Derived.Test.YtkhbpaloicefdaaSame
import Derived.OpenShut
import Derived.ChangeSame
namespace Go.Proofs.Ytkhbpaloicefdaa
open Go.RowKit Go.ChangeShapes Go.WideShapes
theorem u8_bd {n : Int} (h : (Lit.int .u8 n).wf = true) : 0 ≤ n ∧ n < 256 := by
  simp [Lit.wf, IntKind.min, IntKind.max, IntKind.signed, IntKind.bits] at h
  omega
section
variable {H : Type} {enc : TypeId × Value → H} {W : World}
theorem bytes_read {fuel : Nat} {a : Option Addr} {len cap : Nat} {x : DataW H × List MemPlace} (h : DataW.trod enc Try.prog W 0 (fun _ => true) true fuel 32 [.slice a len cap] = some x) :
    ∃ l : List Nat, l.length = len ∧ BytesAt W W.heap.size a l ∧ Small l ∧ len ≤ maxLen := by
  rcases open_ints Try.underlying32 Try.underlying5 (by kernel_rfl) h with ⟨hcs, _⟩ | ⟨b, l, c, zs, hcs, _, hl, hm, hz, _, hcell, hwz⟩
  · injection hcs with hcs _
    injection hcs with h1 h2 h3
    subst h1 h2 h3
    exact ⟨[], rfl, Reads.none_, by simp [Small], by simp⟩
  · injection hcs with hcs _
    injection hcs with h1 h2 h3
    subst h1 h2 h3
    simp only [if_true] at hz
    have hlen : ((zs.take len).map Int.toNat).length = len := by simp; omega
    refine ⟨(zs.take len).map Int.toNat, hlen, ⟨by rw [bys_length, hlen]; omega, fun hn => ⟨b, rfl, ?_, fun j u hu => ?_⟩⟩, ?_, by omega⟩
    · rw [hlen] at hn
      have h0 := hcell 0 (by omega)
      have := World.block_lt_of_cell? W _ h0
      rwa [block_of_add] at this
    · obtain ⟨n, hn, rfl⟩ := bys_get hu
      have hj : j < len := by have := (List.getElem?_eq_some_iff.1 hn).1; omega
      rw [List.getElem?_map, List.getElem?_take_of_lt hj] at hn
      have hjz : j < zs.length := by omega
      rw [List.getElem?_eq_getElem hjz] at hn
      simp only [Option.map_some, Option.some.injEq] at hn
      rw [hcell j hjz, List.getD_eq_getElem?_getD, List.getElem?_eq_getElem hjz]
      have hb := u8_bd (hwz _ (List.getElem_mem hjz))
      rw [← hn]
      simp only [Option.getD_some]
      rw [Int.toNat_of_nonneg hb.1]
    · intro y hy
      obtain ⟨z, hz1, rfl⟩ := List.mem_map.1 hy
      have hb := u8_bd (hwz _ (List.mem_of_mem_take hz1))
      omega
end
end Go.Proofs.Ytkhbpaloicefdaa
