/- Arguments: a slice of operations that came in reads as a list. -/
import Derived.Test.YtegjpfdbfjfolaaPlays
import Derived.Deep.Slices
import Derived.Deep.Fields
import Derived.ChangeSame
namespace Go.Proofs.Ytegjpfdbfjfolaa
open Go.RowKit Go.ChangeShapes Go.WideShapes Go.Deep

theorem add_field (ad : Addr) (m j : Nat) (hj : 0 < j) : ad.add (m + j) = ⟨(ad.add m).block, (ad.add m).off + j, none⟩ := by
  unfold Addr.add
  by_cases hm : m = 0
  · subst hm
    simp [Nat.ne_of_gt hj]
  · simp [hm, Nat.add_assoc]
section
variable {H : Type} {enc : TypeId × Value → H} {W : World}
theorem op_cells : Try.prog.cellsOf 45 = 2 := by kernel_rfl
theorem op_hone : oneCellFields Try.prog #[{ name := "Kind", type := 3, offset := 0, embedded := false, tag := "", pkgPath := "", byteOffset := 0 }, { name := "N", type := 3, offset := 1, embedded := false, tag := "", pkgPath := "", byteOffset := 8 }] = true := by kernel_rfl
theorem ops_read {fuel : Nat} {a : Option Addr} {len cap : Nat} {x : DataW H × List MemPlace} (h : DataW.trod enc Try.prog W 0 (fun _ => true) true fuel 40 [.slice a len cap] = some x) :
    ∃ k m : Nat → Int, OpsAt W W.heap.size a len k m ∧ len ≤ maxLen := by
  rcases open_slice Try.underlying40 h with ⟨hcs, _⟩ | ⟨b, l, c, mm, n, D, Pl, hcs, _, hl, hm, hmm, _, hi⟩
  · injection hcs with hcs _
    injection hcs with h1 h2 h3
    subst h1 h2 h3
    exact ⟨fun _ => 0, fun _ => 0, fun hn => absurd hn (by omega), by simp⟩
  · injection hcs with hcs _
    injection hcs with h1 h2 h3
    subst h1 h2 h3
    simp only [if_true] at hmm
    subst hmm
    have each : ∀ i, i < mm → ∃ y : Int × Int, W.cell? (b.add (i * 2)) = some (.int .i64 y.1) ∧ W.cell? (b.add (i * 2 + 1)) = some (.int .i64 y.2) := by
      intro i hlt
      obtain ⟨cs', hc, ht'⟩ := hi i hlt
      rw [op_cells] at hc
      obtain ⟨ys, n', _, _, hlen, hyl, hf⟩ := DataW.trod_struct Try.underlying45 ht'
      obtain ⟨_, hcl, hat⟩ := World.cells?_some hc
      match cs', hcl with
      | [u0, u1], _ =>
        obtain ⟨o0, k0⟩ := hone_of op_hone 0 _ rfl
        obtain ⟨o1, k1⟩ := hone_of op_hone 1 _ rfl
        have g0 := hf 0 _ rfl
        have g1 := hf 1 _ rfl
        rw [o0, k0] at g0
        rw [o1, k1] at g1
        match ys, hyl with
        | [y0, y1], _ =>
          obtain ⟨z0, e0, _, _⟩ := DataW.trod_int Try.underlying3 (show DataW.trod enc Try.prog W 0 (fun _ => true) true n' 3 [u0] = some y0 by simpa using g0)
          obtain ⟨z1, e1, _, _⟩ := DataW.trod_int Try.underlying3 (show DataW.trod enc Try.prog W 0 (fun _ => true) true n' 3 [u1] = some y1 by simpa using g1)
          injection e0 with e0 _
          injection e1 with e1 _
          subst e0 e1
          have c0 := hat 0 (by omega)
          have c1 := hat 1 (by omega)
          refine ⟨(z0, z1), ?_, ?_⟩
          · rw [add_add] at c0; simpa using c0
          · rw [add_add] at c1; simpa using c1
    obtain ⟨f, hf⟩ := choose_lt each
    refine ⟨fun i => (f i).1, fun i => (f i).2, fun hn => ⟨b, rfl, ?_, fun i hlt => ?_⟩, by omega⟩
    · have h0 := (hf 0 (by omega)).1
      have := World.block_lt_of_cell? W _ h0
      rwa [block_of_add] at this
    · obtain ⟨h1, h2⟩ := hf i (by omega)
      refine ⟨h1, ?_⟩
      rw [← add_field b (i * 2) 1 (by omega)]
      exact h2
end
end Go.Proofs.Ytegjpfdbfjfolaa
