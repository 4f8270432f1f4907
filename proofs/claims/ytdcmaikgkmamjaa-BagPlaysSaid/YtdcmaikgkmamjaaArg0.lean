/- Arguments: slices of bytes that came in (written by mkbase.py). -/
import Derived.Test.YtdcmaikgkmamjaaBase
import Derived.OpenShut
import Derived.ChangeSame
import Derived.Deep.Slices
import Derived.Deep.Fields
namespace Go.Proofs.Ytdcmaikgkmamjaa
open Go.RowKit Go.ChangeShapes Go.WideShapes Go.Deep
set_option linter.unusedVariables false
theorem u8_bd {n : Int} (h : (Lit.int .u8 n).wf = true) : 0 ≤ n ∧ n < 256 := by
  simp [Lit.wf, IntKind.min, IntKind.max, IntKind.signed, IntKind.bits] at h
  omega
theorem i64_bd {n : Int} (h : (Lit.int .i64 n).wf = true) : -9223372036854775808 ≤ n ∧ n ≤ 9223372036854775807 := by
  simp [Lit.wf, IntKind.min, IntKind.max, IntKind.signed, IntKind.bits] at h
  omega
section
variable {H : Type} {enc : TypeId × Value → H} {W : World}
theorem bytes_form {fuel : Nat} {v : Value} {x : DataW H × List MemPlace} (h : DataW.trod enc Try.prog W 0 (fun _ => true) true fuel 30 [v] = some x) :
    ∃ (a : Option Addr) (c : Nat) (l : List Nat), v = .slice a l.length c ∧ BytesAt W W.heap.size a l ∧ Small l ∧ Room a l.length c := by
  rcases open_ints Try.underlying30 Try.underlying5 (by kernel_rfl) h with ⟨hcs, _⟩ | ⟨b, l, c, zs, hcs, _, hl, hm, hz, _, hcell, hwz⟩
  · injection hcs with hcs _
    subst hcs
    exact ⟨none, 0, [], rfl, Reads.none_, by simp [Small], ⟨Nat.le_refl _, by simp, fun _ => rfl⟩⟩
  · injection hcs with hcs _
    subst hcs
    simp only [if_true] at hz
    have hlen : ((zs.take l).map Int.toNat).length = l := by simp; omega
    refine ⟨some b, c, (zs.take l).map Int.toNat, by rw [hlen], ⟨by rw [bys_length, hlen]; omega, fun hn => ⟨b, rfl, ?_, fun j u hu => ?_⟩⟩, ?_, by rw [hlen]; exact ⟨hl, hm, fun e => by cases e⟩⟩
    · rw [hlen] at hn
      have h0 := hcell 0 (by omega)
      have := World.block_lt_of_cell? W _ h0
      rwa [block_of_add] at this
    · obtain ⟨n, hn, rfl⟩ := bys_get hu
      have hj : j < l := by have := (List.getElem?_eq_some_iff.1 hn).1; omega
      rw [List.getElem?_map, List.getElem?_take_of_lt hj] at hn
      have hjz : j < zs.length := by omega
      rw [List.getElem?_eq_getElem hjz] at hn
      simp only [Option.map_some, Option.some.injEq] at hn
      rw [hcell j hjz, List.getD_eq_getElem?_getD, List.getElem?_eq_getElem hjz]
      have hb := u8_bd (hwz _ (List.getElem_mem hjz))
      rw [← hn]
      simp only [Option.getD_some]
      rw [Int.toNat_of_nonneg hb.1]
    · intro y hy
      obtain ⟨z, hz1, rfl⟩ := List.mem_map.1 hy
      have hb := u8_bd (hwz _ (List.mem_of_mem_take hz1))
      omega
theorem bytes_read {fuel : Nat} {a : Option Addr} {len cap : Nat} {x : DataW H × List MemPlace} (h : DataW.trod enc Try.prog W 0 (fun _ => true) true fuel 30 [.slice a len cap] = some x) :
    ∃ l : List Nat, l.length = len ∧ BytesAt W W.heap.size a l ∧ Small l ∧ Room a len cap := by
  obtain ⟨a', c', l, e, h1, h2, h3⟩ := bytes_form h
  injection e with e1 e2 e3
  subst e1 e2 e3
  exact ⟨l, rfl, h1, h2, h3⟩
theorem add_field (ad : Addr) (m j : Nat) (hj : 0 < j) : ad.add (m + j) = ⟨(ad.add m).block, (ad.add m).off + j, none⟩ := by
  unfold Addr.add
  by_cases hm : m = 0
  · subst hm
    simp [Nat.ne_of_gt hj]
  · simp [hm, Nat.add_assoc]
end
end Go.Proofs.Ytdcmaikgkmamjaa
