/- Arguments: slices of bytes, and of operations, that came in read as lists. -/
import Derived.Test.YtdcmaikgkmamjaaFew
import Derived.Test.YtdcmaikgkmamjaaArg0
import Derived.OpenShut
import Derived.ChangeSame
import Derived.Deep.Slices
import Derived.Deep.Fields
namespace Go.Proofs.Ytdcmaikgkmamjaa
open Go.RowKit Go.ChangeShapes Go.WideShapes Go.Deep
set_option linter.unusedVariables false
section
variable {H : Type} {enc : TypeId × Value → H} {W : World}
theorem op_cells : Try.prog.cellsOf 32 = 3 := by kernel_rfl
theorem op_hone : oneCellFields Try.prog #[{ name := "Kind", type := 3, offset := 0, embedded := false, tag := "", pkgPath := "", byteOffset := 0 }, { name := "I", type := 3, offset := 1, embedded := false, tag := "", pkgPath := "", byteOffset := 8 }, { name := "B", type := 30, offset := 2, embedded := false, tag := "", pkgPath := "", byteOffset := 16 }] = true := by kernel_rfl
/-- One operation, as it lies in memory. -/
structure OneOp (W : World) (b : Addr) (i : Nat) (o : Op) : Prop where
  k : W.cell? (b.add (i * 3)) = some (.int .i64 o.k)
  n : W.cell? ⟨(b.add (i * 3)).block, (b.add (i * 3)).off + 1, none⟩ = some (.int .i64 o.n)
  b : ∃ A' c', W.cell? ⟨(b.add (i * 3)).block, (b.add (i * 3)).off + 2, none⟩ = some (.slice A' o.b.length c') ∧ BytesAt W W.heap.size A' o.b ∧ Room A' o.b.length c'
  s : Small o.b
  lo : -9223372036854775808 ≤ o.n
  hi : o.n ≤ 9223372036854775807
theorem ops_read {fuel : Nat} {a : Option Addr} {len cap : Nat} {x : DataW H × List MemPlace} (h : DataW.trod enc Try.prog W 0 (fun _ => true) true fuel 22 [.slice a len cap] = some x) :
    ∃ L : List Op, L.length = len ∧ OpsAt W W.heap.size a L ∧ len ≤ maxLen := by
  rcases open_slice Try.underlying22 h with ⟨hcs, _⟩ | ⟨b, l, c, mm, n, D, Pl, hcs, _, hl, hm, hmm, _, hi⟩
  · injection hcs with hcs _
    injection hcs with h1 h2 h3
    subst h1 h2 h3
    exact ⟨[], rfl, ⟨fun k hk => absurd hk (by simp), by simp⟩, by simp⟩
  · injection hcs with hcs _
    injection hcs with h1 h2 h3
    subst h1 h2 h3
    simp only [if_true] at hmm
    subst hmm
    have each : ∀ i, i < mm → ∃ o : Op, OneOp W b i o := by
      intro i hlt
      obtain ⟨cs', hc, ht'⟩ := hi i hlt
      rw [op_cells] at hc
      obtain ⟨ys, n', _, _, hlen, hyl, hf⟩ := DataW.trod_struct Try.underlying32 ht'
      obtain ⟨_, hcl, hat⟩ := World.cells?_some hc
      match cs', hcl with
      | [u0, u1, u2], _ =>
        obtain ⟨o0, k0⟩ := hone_of op_hone 0 _ rfl
        obtain ⟨o1, k1⟩ := hone_of op_hone 1 _ rfl
        obtain ⟨o2, k2⟩ := hone_of op_hone 2 _ rfl
        have g0 := hf 0 _ rfl
        have g1 := hf 1 _ rfl
        have g2 := hf 2 _ rfl
        rw [o0, k0] at g0
        rw [o1, k1] at g1
        rw [o2, k2] at g2
        match ys, hyl with
        | [y0, y1, y2], _ =>
          obtain ⟨z0, e0, _, _⟩ := DataW.trod_int Try.underlying3 (show DataW.trod enc Try.prog W 0 (fun _ => true) true n' 3 [u0] = some y0 by simpa using g0)
          obtain ⟨z1, e1, _, w1⟩ := DataW.trod_int Try.underlying3 (show DataW.trod enc Try.prog W 0 (fun _ => true) true n' 3 [u1] = some y1 by simpa using g1)
          obtain ⟨a2, c2, l2, rfl, q1, q2, q3⟩ := bytes_form (show DataW.trod enc Try.prog W 0 (fun _ => true) true n' 30 [u2] = some y2 by simpa using g2)
          injection e0 with e0 _
          injection e1 with e1 _
          subst e0 e1
          have c0 := hat 0 (by omega)
          have c1 := hat 1 (by omega)
          have c2' := hat 2 (by omega)
          have bb := i64_bd w1
          refine ⟨⟨z0, z1, l2⟩, ?_, ?_, ⟨a2, c2, ?_, q1, q3⟩, q2, bb.1, bb.2⟩
          · rw [Go.Deep.add_add] at c0; simpa using c0
          · rw [Go.Deep.add_add] at c1; rw [← add_field b (i * 3) 1 (by omega)]; simpa using c1
          · rw [Go.Deep.add_add] at c2'; rw [← add_field b (i * 3) 2 (by omega)]; simpa using c2'
    obtain ⟨f, hf⟩ : ∃ f : Nat → Op, ∀ i, i < mm → OneOp W b i (f i) := ⟨fun i => if h : i < mm then (each i h).choose else ⟨0, 0, []⟩, fun i h => by simp only [dif_pos h]; exact (each i h).choose_spec⟩
    have hlen : ((List.range len).map f).length = len := by simp
    refine ⟨(List.range len).map f, hlen, ⟨fun k hk => ?_, fun o ho => ?_⟩, by omega⟩
    · rw [hlen] at hk
      have O := hf k (by omega)
      obtain ⟨A', c', h1, h2, h3⟩ := O.b
      have e : ((List.range len).map f)[k]'(by rw [hlen]; exact hk) = f k := by simp
      rw [e]
      exact ⟨b, A', c', rfl, World.block_lt_of_cell? W _ O.k, O.k, O.n, h1, h2, h3⟩
    · obtain ⟨r, hr, rfl⟩ := List.mem_map.1 ho
      have O := hf r (by have := List.mem_range.1 hr; omega)
      exact ⟨O.s, O.lo, O.hi⟩
end
end Go.Proofs.Ytdcmaikgkmamjaa
