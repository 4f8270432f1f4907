/- Operations that came in; voklaw15.few. -/
import Derived.Test.YtkhbpaloicefdaaAgain
import Derived.Deep.Slices
import Derived.Deep.Fields
namespace Go.Proofs.Ytkhbpaloicefdaa
open Go.RowKit Go.ChangeShapes Go.WideShapes Go.Deep
set_option linter.unusedVariables false
attribute [local go_sem ↓] Go.wp_at_zero Go.wp_at_succ
theorem i64_bd {n : Int} (h : (Lit.int .i64 n).wf = true) : -9223372036854775808 ≤ n ∧ n ≤ 9223372036854775807 := by
  simp [Lit.wf, IntKind.min, IntKind.max, IntKind.signed, IntKind.bits] at h
  omega
/-- An operation: its kind, its number, its bytes, its rows. -/
structure WOp where
  k : Int
  n : Int
  b : List Nat
  ls : List (List Nat)
/-- One operation, as it lies in memory. -/
structure OneOp (W : World) (B : Nat) (b : Addr) (i : Nat) (o : WOp) : Prop where
  blk : (b.add (i * 4)).block < B
  k : W.cell? (b.add (i * 4)) = some (.int .i64 o.k)
  n : W.cell? ⟨(b.add (i * 4)).block, (b.add (i * 4)).off + 1, none⟩ = some (.int .i64 o.n)
  bs : ∃ A' c', W.cell? ⟨(b.add (i * 4)).block, (b.add (i * 4)).off + 2, none⟩ = some (.slice A' o.b.length c') ∧ BytesAt W B A' o.b ∧ Roomy A' o.b.length c'
  rows : ∃ A' c', W.cell? ⟨(b.add (i * 4)).block, (b.add (i * 4)).off + 3, none⟩ = some (.slice A' o.ls.length c') ∧ PsAt W B A' o.ls ∧ o.ls.length ≤ maxLen
  s : Small o.b
  lo : -9223372036854775808 ≤ o.n
  hi : o.n ≤ 9223372036854775807
theorem OneOp.below {w w' : World} {B : Nat} {b : Addr} {i : Nat} {o : WOp} (h : OneOp w B b i o) (hb : Below B w w') : OneOp w' B b i o := by
  obtain ⟨A1, c1, x1, x2, x3⟩ := h.bs
  obtain ⟨A2, c2, y1, y2, y3⟩ := h.rows
  exact ⟨h.blk, (hb.cell h.blk).trans h.k, (hb.cell (by exact h.blk)).trans h.n, ⟨A1, c1, (hb.cell (by exact h.blk)).trans x1, x2.below hb, x3⟩, ⟨A2, c2, (hb.cell (by exact h.blk)).trans y1, y2.below hb, y3⟩, h.s, h.lo, h.hi⟩
/-- A slice of operations that reads as L. -/
def OpsAt (w : World) (B : Nat) (A : Option Addr) (L : List WOp) : Prop := ∀ k (h : k < L.length), ∃ ad, A = some ad ∧ OneOp w B ad k L[k]
theorem OpsAt.below {w w' : World} {B : Nat} {A : Option Addr} {L : List WOp} (h : OpsAt w B A L) (hb : Below B w w') : OpsAt w' B A L := fun k hk => by
  obtain ⟨ad, e, O⟩ := h k hk
  exact ⟨ad, e, O.below hb⟩
section
variable {H : Type} {enc : TypeId × Value → H} {W : World}
theorem file_form {fuel : Nat} {v : Value} {x : DataW H × List MemPlace} (h : DataW.trod enc Try.prog W 0 (fun _ => true) true fuel 32 [v] = some x) :
    ∃ (a : Option Addr) (c : Nat) (l : List Nat), v = .slice a l.length c ∧ BytesAt W W.heap.size a l ∧ Small l ∧ Roomy a l.length c := by
  have hv : ∃ a n c, v = .slice a n c := by
    rcases open_ints Try.underlying32 Try.underlying5 (by kernel_rfl) h with ⟨hcs, _⟩ | ⟨b, l, c, zs, hcs, _⟩
    · injection hcs with hcs _
      exact ⟨_, _, _, hcs⟩
    · injection hcs with hcs _
      exact ⟨_, _, _, hcs⟩
  obtain ⟨a, n, c, rfl⟩ := hv
  obtain ⟨l, rfl, h1, h2, _, h3⟩ := file_read h
  exact ⟨a, c, l, rfl, h1, h2, h3⟩
theorem ps_form {fuel : Nat} {v : Value} {x : DataW H × List MemPlace} (h : DataW.trod enc Try.prog W 0 (fun _ => true) true fuel 33 [v] = some x) :
    ∃ (a : Option Addr) (c : Nat) (l : List (List Nat)), v = .slice a l.length c ∧ PsAt W W.heap.size a l ∧ l.length ≤ maxLen := by
  have hv : ∃ a n c, v = .slice a n c := by
    rcases open_int_rows Try.underlying33 Try.underlying32 Try.underlying5 (by kernel_rfl) (by kernel_rfl) h with ⟨hcs, _⟩ | ⟨b, l, c, A, Ln, C, Z, hcs, _⟩
    · injection hcs with hcs _
      exact ⟨_, _, _, hcs⟩
    · injection hcs with hcs _
      exact ⟨_, _, _, hcs⟩
  obtain ⟨a, n, c, rfl⟩ := hv
  obtain ⟨l, rfl, h1, h2⟩ := ps_read h
  exact ⟨a, c, l, rfl, h1, h2⟩
theorem add_field (ad : Addr) (m j : Nat) (hj : 0 < j) : ad.add (m + j) = ⟨(ad.add m).block, (ad.add m).off + j, none⟩ := by
  unfold Addr.add
  by_cases hm : m = 0
  · subst hm
    simp [Nat.ne_of_gt hj]
  · simp [hm, Nat.add_assoc]
theorem op_cells : Try.prog.cellsOf 35 = 4 := by kernel_rfl
theorem op_hone : oneCellFields Try.prog #[{ name := "Kind", type := 3, offset := 0, embedded := false, tag := "", pkgPath := "", byteOffset := 0 }, { name := "N", type := 3, offset := 1, embedded := false, tag := "", pkgPath := "", byteOffset := 8 }, { name := "B", type := 32, offset := 2, embedded := false, tag := "", pkgPath := "", byteOffset := 16 }, { name := "L", type := 33, offset := 3, embedded := false, tag := "", pkgPath := "", byteOffset := 40 }] = true := by kernel_rfl
theorem ops_read {fuel : Nat} {a : Option Addr} {len cap : Nat} {x : DataW H × List MemPlace} (h : DataW.trod enc Try.prog W 0 (fun _ => true) true fuel 22 [.slice a len cap] = some x) :
    ∃ L : List WOp, L.length = len ∧ OpsAt W W.heap.size a L ∧ len ≤ maxLen := by
  rcases open_slice Try.underlying22 h with ⟨hcs, _⟩ | ⟨b, l, c, mm, n, D, Pl, hcs, _, hl, hm, hmm, _, hi⟩
  · injection hcs with hcs _
    injection hcs with h1 h2 h3
    subst h1 h2 h3
    exact ⟨[], rfl, fun k hk => absurd hk (by simp), by simp⟩
  · injection hcs with hcs _
    injection hcs with h1 h2 h3
    subst h1 h2 h3
    simp only [if_true] at hmm
    subst hmm
    have each : ∀ i, i < mm → ∃ o : WOp, OneOp W W.heap.size b i o := by
      intro i hlt
      obtain ⟨cs', hc, ht'⟩ := hi i hlt
      rw [op_cells] at hc
      obtain ⟨ys, n', _, _, hlen, hyl, hf⟩ := DataW.trod_struct Try.underlying35 ht'
      obtain ⟨_, hcl, hat⟩ := World.cells?_some hc
      match cs', hcl with
      | [u0, u1, u2, u3], _ =>
        obtain ⟨o0, k0⟩ := hone_of op_hone 0 _ rfl
        obtain ⟨o1, k1⟩ := hone_of op_hone 1 _ rfl
        obtain ⟨o2, k2⟩ := hone_of op_hone 2 _ rfl
        obtain ⟨o3, k3⟩ := hone_of op_hone 3 _ rfl
        have g0 := hf 0 _ rfl
        have g1 := hf 1 _ rfl
        have g2 := hf 2 _ rfl
        have g3 := hf 3 _ rfl
        rw [o0, k0] at g0
        rw [o1, k1] at g1
        rw [o2, k2] at g2
        rw [o3, k3] at g3
        match ys, hyl with
        | [y0, y1, y2, y3], _ =>
          obtain ⟨z0, e0, _, _⟩ := DataW.trod_int Try.underlying3 (show DataW.trod enc Try.prog W 0 (fun _ => true) true n' 3 [u0] = some y0 by simpa using g0)
          obtain ⟨z1, e1, _, w1⟩ := DataW.trod_int Try.underlying3 (show DataW.trod enc Try.prog W 0 (fun _ => true) true n' 3 [u1] = some y1 by simpa using g1)
          obtain ⟨a2, c2, l2, rfl, q1, q2, q3⟩ := file_form (show DataW.trod enc Try.prog W 0 (fun _ => true) true n' 32 [u2] = some y2 by simpa using g2)
          obtain ⟨a3, c3, l3, rfl, q4, q5⟩ := ps_form (show DataW.trod enc Try.prog W 0 (fun _ => true) true n' 33 [u3] = some y3 by simpa using g3)
          injection e0 with e0 _
          injection e1 with e1 _
          subst e0 e1
          have c0 := hat 0 (by omega)
          have c1 := hat 1 (by omega)
          have c2' := hat 2 (by omega)
          have c3' := hat 3 (by omega)
          have bb := i64_bd w1
          have x0 : W.cell? (b.add (i * 4)) = some (.int .i64 z0) := by rw [Go.Deep.add_add] at c0; simpa using c0
          refine ⟨⟨z0, z1, l2, l3⟩, World.block_lt_of_cell? W _ x0, x0, ?_, ⟨a2, c2, ?_, q1, q3⟩, ⟨a3, c3, ?_, q4, q5⟩, q2, bb.1, bb.2⟩
          · rw [Go.Deep.add_add] at c1; rw [← add_field b (i * 4) 1 (by omega)]; simpa using c1
          · rw [Go.Deep.add_add] at c2'; rw [← add_field b (i * 4) 2 (by omega)]; simpa using c2'
          · rw [Go.Deep.add_add] at c3'; rw [← add_field b (i * 4) 3 (by omega)]; simpa using c3'
    obtain ⟨f, hf⟩ : ∃ f : Nat → WOp, ∀ i, i < mm → OneOp W W.heap.size b i (f i) := ⟨fun i => if h : i < mm then (each i h).choose else ⟨0, 0, [], []⟩, fun i h => by simp only [dif_pos h]; exact (each i h).choose_spec⟩
    have hlen : ((List.range len).map f).length = len := by simp
    refine ⟨(List.range len).map f, hlen, fun k hk => ?_, by omega⟩
    rw [hlen] at hk
    have O := hf k (by omega)
    have e : ((List.range len).map f)[k]'(by rw [hlen]; exact hk) = f k := by simp
    rw [e]
    exact ⟨b, rfl, O⟩
end
/-- How many bytes an operation has. -/
def wt (o : WOp) : Nat := o.b.length + total o.ls
def weight (L : List WOp) : Nat := (L.map wt).sum
theorem weight_snoc {L : List WOp} {j : Nat} (h : j < L.length) : weight (L.take (j + 1)) = weight (L.take j) + wt L[j] := by
  unfold weight
  rw [List.map_take, List.map_take, List.take_succ_eq_append_getElem (by simpa using h), List.sum_append]
  simp
theorem weight_le {L : List WOp} (j : Nat) : weight (L.take j) ≤ weight L := by
  unfold weight
  rw [List.map_take]
  have h := congrArg List.sum (List.take_append_drop j (L.map wt))
  rw [List.sum_append] at h
  omega
set_option maxRecDepth 100000 in
set_option maxHeartbeats 4000000 in
theorem few_any (A : Option Addr) (c B : Nat) (L : List WOp) (w : World) (ha : OpsAt w B A L) (hl : L.length ≤ maxLen) :
    Calls Try.prog 10 #[.slice A L.length c] w fun e w' => ∃ t : Bool, e = .returned (.bool t) ∧ w = w' ∧ (t = true → L.length ≤ 100 ∧ weight L ≤ 20000 ∧ ∀ o ∈ L, o.ls.length ≤ 300) := by
  unfold maxLen at hl
  go_enter Try.func10, Try.ntmps10
  go_wp2_with fail
  go_loopw [3, 4] (fun n i wr => ∃ j M : Nat, j ≤ L.length ∧ j ≤ 100 ∧ n = .int .i64 M ∧ i = .int .i64 j ∧ wr = w ∧ M ≤ 10000000 * j ∧ (M ≤ 20000 → weight (L.take j) = M) ∧ (∀ o ∈ L.take j, o.ls.length ≤ 300)) (fun _ i _ => L.length - (intOf i).toNat)
  case atStart => exact ⟨0, 0, Nat.zero_le _, by omega, rfl, rfl, rfl, by omega, fun _ => by simp [weight], by simp⟩
  case round =>
    obtain ⟨j, M, hj, hj3, rfl, rfl, rfl, hM, hall, h3⟩ := hrel
    have HA := Lib.hid hall
    have H3 := Lib.hid h3
    clear hall h3
    by_cases hlt : j < L.length ∧ j < 100
    · obtain ⟨hlt1, hlt2⟩ := hlt
      obtain ⟨ad, rfl, O⟩ := ha j hlt1
      obtain ⟨A1, c1, p1, _, rm⟩ := O.bs
      obtain ⟨A2, c2, p2, hps, hpl⟩ := O.rows
      unfold maxLen at hpl
      have hrm1 := rm.le
      have hrm2 := rm.max
      have hw := Lib.hid (weight_snoc hlt1)
      have hx := Lib.hid (List.take_succ_eq_append_getElem hlt1)
      have i0 : (0 : Int) ≤ (j : Int) := by omega
      have i1 : (j : Int) < (L.length : Int) := by omega
      generalize hol : L[j].ls = ls at *
      have HOL := Lib.hid hol
      generalize hob : L[j].b.length = bl at *
      have HOB := Lib.hid hob
      clear hol hob O
      rcases (show 20001 < bl ∨ ¬ 20001 < bl by omega) with hlong | hshort
      case' inl => obtain ⟨M1, hM1⟩ : ∃ M1, M1 = M + 20001 := ⟨_, rfl⟩
      case' inr => obtain ⟨M1, hM1⟩ : ∃ M1, M1 = M + bl := ⟨_, rfl⟩
      all_goals
        have hk1 : M1 ≤ 10000000 * j + 20001 ∧ (M1 ≤ 20000 → weight (L.take j) + bl = M1) := ⟨by omega, fun h => by rw [HA.out (by omega)]; omega⟩
        have K1 := Lib.hid hk1
        have HM1 := Lib.hid hM1
        clear hk1 hM1
        go_wp2_with fail
        go_loopw [3, 5] (fun n k wk => ∃ i M2 : Nat, i ≤ ls.length ∧ i ≤ 300 ∧ n = .int .i64 M2 ∧ k = .int .i64 i ∧ wk = wr ∧ M2 ≤ 10000000 * j + 20001 * (i + 1) ∧ (M2 ≤ 20000 → weight (L.take j) + bl + total (ls.take i) = M2)) (fun _ k _ => ls.length - (intOf k).toNat)
        case atStart => exact ⟨0, M1, Nat.zero_le _, by omega, by rw [HM1.out]; go_num, rfl, rfl, K1.out.1, fun h => by rw [K1.out.2 h]; simp [total]⟩
        case round =>
          obtain ⟨i, M2, hi, hi3, rfl, rfl, rfl, hM2, hall2⟩ := hrel
          have HB := Lib.hid hall2
          clear hall2
          by_cases hli : i < ls.length ∧ i < 300
          · obtain ⟨hli1, hli2⟩ := hli
            obtain ⟨ad2, A3, c3, rfl, q3, _, rm3, _⟩ := hps.get hli1
            have hr1 := rm3.le
            have hr2 := rm3.max
            have hts := Lib.hid (total_snoc hli1)
            have k0 : (0 : Int) ≤ (i : Int) := by omega
            have k1 : (i : Int) < (ls.length : Int) := by omega
            generalize ls[i].length = sl at *
            rcases (show 20001 < sl ∨ ¬ 20001 < sl by omega) with hl3 | hs3
            · go_wp2_with fail
              go_roundw
              case rel => exact ⟨i + 1, M2 + 20001, by omega, by omega, by go_num, by go_num, trivial, by omega, fun h => absurd h (by omega)⟩
              case measure => simp [intOf]; omega
            · go_wp2_with fail
              go_roundw
              case rel => exact ⟨i + 1, M2 + sl, by omega, by omega, by go_num, by go_num, trivial, by omega, fun h => by rw [hts.out]; have := HB.out (by omega); omega⟩
              case measure => simp [intOf]; omega
          · by_cases hbig : 300 < ls.length
            · have hi5 : ¬ i < 300 := by omega
              go_wp2_with fail
              go_ret
              exact ⟨false, rfl, rfl, fun h => by cases h⟩
            · obtain rfl : i = ls.length := by omega
              go_wp2_with fail
              go_roundw
              case rel => exact ⟨j + 1, M2, by omega, by omega, by go_num, by go_num, trivial, by omega, fun h => by rw [hw.out]; have h5 := HB.out h; rw [List.take_length] at h5; unfold wt; rw [HOL.out, HOB.out]; omega, by rw [hx.out]; exact fun q hq => (List.mem_append.1 hq).elim (H3.out q) (fun h => by simp at h; rw [h, HOL.out]; omega)⟩
              case measure => simp [intOf]; omega
    · rcases (show (¬ L.length ≤ 100 ∧ ¬ j < 100 ∧ j < L.length) ∨ ((L.length ≤ 100 ∧ ¬ j < L.length) ∧ ¬ M ≤ 20000) ∨ ((L.length ≤ 100 ∧ ¬ j < L.length) ∧ M ≤ 20000) by omega) with ⟨q1, q2, q3⟩ | ⟨⟨q1, q2⟩, q3⟩ | ⟨⟨q1, q2⟩, q3⟩
      · go_wp2_with fail
        go_ret
        first | exact ⟨_, rfl, rfl, fun h => absurd h (by simp; omega)⟩ | exact ⟨rfl, rfl⟩ | exact ⟨false, rfl, rfl, fun h => by cases h⟩
      · go_wp2_with fail
        go_ret
        first | exact ⟨_, rfl, rfl, fun h => absurd h (by simp; omega)⟩ | exact ⟨rfl, rfl⟩ | exact ⟨false, rfl, rfl, fun h => by cases h⟩
      · go_wp2_with fail
        go_ret
        exact ⟨_, rfl, rfl, fun _ => ⟨q1, by have := HA.out q3; rw [List.take_of_length_le (by omega)] at this; omega, by have := H3.out; rw [List.take_of_length_le (by omega)] at this; exact this⟩⟩
end Go.Proofs.Ytkhbpaloicefdaa
