/- What the chapter's examples fix. -/
import Derived.Test.YteecjdlegnnbmaaPut
import Derived.Lib.SlBytesConst
namespace Go.Proofs.Yteecjdlegnnbmaa
open Go.RowKit
def nine : List Nat := [49, 50, 51, 52, 53, 54, 55, 56, 57]
def nines : Array Value := #[.int .u8 49, .int .u8 50, .int .u8 51, .int .u8 52, .int .u8 53, .int .u8 54, .int .u8 55, .int .u8 56, .int .u8 57]
theorem nine_reads (w : World) : BytesAt (w.alloc (.cells nines 5 (9, 10))) (w.heap.size + 1) (some ⟨w.heap.size, 0, none⟩) nine := by
  refine ⟨rfl, fun _ => ⟨_, rfl, by simp, fun j u hu => ?_⟩⟩
  have hh := heap_alloc_new w (.cells nines 5 (9, 10))
  have hadd : (⟨w.heap.size, 0, none⟩ : Addr).add j = ⟨w.heap.size, j, none⟩ := by unfold Addr.add; split <;> simp_all
  rw [hadd, cell_of_row _ _ j _ 5 (9, 10) hh]
  have e : nines.toList = bys nine := rfl
  rw [← Array.getElem?_toList, e]
  exact hu
theorem nine_sum : Crc.crc nine = 3421780262 := by decide +kernel
theorem nine_small : Small nine := by unfold Small nine; decide
set_option maxRecDepth 100000 in
set_option maxHeartbeats 1000000 in
theorem first_any (w : World) : Calls Try.prog 10 #[] w fun e w' => e = .returned (.bool true) ∧ Below w.heap.size w w' := by
  have kc := fun (w : World) => Lib.run_convert_bytes_const (P := Try.prog) w 22 5 nines 9 9 Try.underlying22 Try.underlying5
  unfold nines at kc
  go_enter Try.func10, Try.ntmps10
  go_wp2_with fail
  refine (put_yes none 0 0 [] _ Reads.none_ (Nat.zero_le _) (by simp [Small]) (by simp)).mono ?_
  rintro e w1 ⟨A, c, rfl, O1, b1⟩
  obtain ⟨ad, rfl, hc0⟩ := O1.reads.get (k := 0) (by decide)
  obtain ⟨ad', had, hc1⟩ := O1.reads.get (k := 1) (by decide)
  injection had with had
  subst had
  have e6 : (recd []).length = 6 := rfl
  have hc0' : w1.cell? (ad.add 0) = some (.int .u8 0) := hc0
  have hc1' : w1.cell? (ad.add 1) = some (.int .u8 0) := hc1
  clear hc0 hc1
  rw [e6]
  have hw1 := b1.size
  have N := nine_reads w1
  have b2 := b1.alloc hw1 (.cells nines 5 (9, 10))
  have l0 : (w1.alloc (.cells nines 5 (9, 10))).cell? (ad.add 0) = some (.int .u8 0) := by rw [World.cell?_alloc_lt _ _ _ (World.block_lt_of_cell? _ _ hc0')]; exact hc0'
  have l1 : (w1.alloc (.cells nines 5 (9, 10))).cell? (ad.add 1) = some (.int .u8 0) := by rw [World.cell?_alloc_lt _ _ _ (World.block_lt_of_cell? _ _ hc1')]; exact hc1'
  have hs2 : (w1.alloc (.cells nines 5 (9, 10))).heap.size = w1.heap.size + 1 := by simp
  clear O1 e6 hc0' hc1' b1
  go_wp2_with fail
  have hS := sum_any _ 9 _ nine _ N (by omega) nine_small (by simp [nine, maxLen])
  rw [nine_sum] at hS
  refine hS.mono ?_
  rintro e w3 ⟨rfl, b3⟩
  have m0 : w3.cell? ad = some (.int .u8 0) := by
    have h : w3.cell? (ad.add 0) = some (.int .u8 0) := by rw [b3.cell (World.block_lt_of_cell? _ _ l0)]; exact l0
    simpa [Addr.add] using h
  have m1 : w3.cell? ⟨ad.block, ad.off + 1, none⟩ = some (.int .u8 0) := by
    have h : w3.cell? (ad.add 1) = some (.int .u8 0) := by rw [b3.cell (World.block_lt_of_cell? _ _ l1)]; exact l1
    simpa [Addr.add] using h
  have b4 := b2.trans (b3.mono b2.size)
  clear l0 l1 N hS hs2 b3 b2 kc
  go_wp2_with fail
  go_ret
  exact ⟨rfl, b4⟩
end Go.Proofs.Yteecjdlegnnbmaa
