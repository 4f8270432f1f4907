/- Zones that came in; vokref.FewZone. -/
import Derived.Test.YtbnchbcdgffkaaaFst
import Derived.Deep.Slices
import Derived.Deep.Fields
import Derived.Lib.SmallJoins
import Derived.OpenShut
namespace Go.Proofs.Ytbnchbcdgffkaaa
open Go.RowKit Go.ChangeShapes Go.WideShapes Go.Deep
set_option linter.unusedVariables false
theorem i64_bd {n : Int} (h : (Lit.int .i64 n).wf = true) : -9223372036854775808 ≤ n ∧ n ≤ 9223372036854775807 := by
  simp [Lit.wf, IntKind.min, IntKind.max, IntKind.signed, IntKind.bits] at h
  omega
theorem add_field (ad : Addr) (m j : Nat) (hj : 0 < j) : ad.add (m + j) = ⟨(ad.add m).block, (ad.add m).off + j, none⟩ := by
  unfold Addr.add
  by_cases hm : m = 0
  · subst hm
    simp [Nat.ne_of_gt hj]
  · simp [hm, Nat.add_assoc]
section
variable {H : Type} {enc : TypeId × Value → H} {W : World}
theorem sh_cells : Try.prog.cellsOf 29 = 2 := by kernel_rfl
theorem sh_hone : oneCellFields Try.prog #[{ name := "At", type := 3, offset := 0, embedded := false, tag := "", pkgPath := "", byteOffset := 0 }, { name := "Off", type := 3, offset := 1, embedded := false, tag := "", pkgPath := "", byteOffset := 8 }] = true := by kernel_rfl
theorem sh_read {fuel : Nat} {a : Option Addr} {len cap : Nat} {x : DataW H × List MemPlace} (h : DataW.trod enc Try.prog W 0 (fun _ => true) true fuel 22 [.slice a len cap] = some x) :
    ∃ L : List Sh, L.length = len ∧ ShAt W W.heap.size a L ∧ len ≤ maxLen := by
  rcases open_slice Try.underlying22 h with ⟨hcs, _⟩ | ⟨b, l, c, mm, n, D, Pl, hcs, _, hl, hm, hmm, _, hi⟩
  · injection hcs with hcs _
    injection hcs with h1 h2 h3
    subst h1 h2 h3
    exact ⟨[], rfl, fun k hk => absurd hk (by simp), by simp⟩
  · injection hcs with hcs _
    injection hcs with h1 h2 h3
    subst h1 h2 h3
    simp only [if_true] at hmm
    subst hmm
    have each : ∀ i, i < mm → ∃ o : Sh, (b.add (i * 2)).block < W.heap.size ∧ W.cell? (b.add (i * 2)) = some (.int .i64 o.at_) ∧ W.cell? ⟨(b.add (i * 2)).block, (b.add (i * 2)).off + 1, none⟩ = some (.int .i64 o.off) := by
      intro i hlt
      obtain ⟨cs', hc, ht'⟩ := hi i hlt
      rw [sh_cells] at hc
      obtain ⟨ys, n', _, _, hlen, hyl, hf⟩ := DataW.trod_struct Try.underlying29 ht'
      obtain ⟨_, hcl, hat⟩ := World.cells?_some hc
      match cs', hcl with
      | [u0, u1], _ =>
        obtain ⟨o0, k0⟩ := hone_of sh_hone 0 _ rfl
        obtain ⟨o1, k1⟩ := hone_of sh_hone 1 _ rfl
        have g0 := hf 0 _ rfl
        have g1 := hf 1 _ rfl
        rw [o0, k0] at g0
        rw [o1, k1] at g1
        match ys, hyl with
        | [y0, y1], _ =>
          obtain ⟨z0, e0, _, _⟩ := DataW.trod_int Try.underlying3 (show DataW.trod enc Try.prog W 0 (fun _ => true) true n' 3 [u0] = some y0 by simpa using g0)
          obtain ⟨z1, e1, _, _⟩ := DataW.trod_int Try.underlying3 (show DataW.trod enc Try.prog W 0 (fun _ => true) true n' 3 [u1] = some y1 by simpa using g1)
          injection e0 with e0 _
          injection e1 with e1 _
          subst e0 e1
          have c0 := hat 0 (by omega)
          have c1 := hat 1 (by omega)
          have x0 : W.cell? (b.add (i * 2)) = some (.int .i64 z0) := by rw [Go.Deep.add_add] at c0; simpa using c0
          refine ⟨⟨z0, z1⟩, World.block_lt_of_cell? W _ x0, x0, ?_⟩
          · rw [Go.Deep.add_add] at c1; rw [← add_field b (i * 2) 1 (by omega)]; simpa using c1
    obtain ⟨f, hf⟩ : ∃ f : Nat → Sh, ∀ i, i < mm → (b.add (i * 2)).block < W.heap.size ∧ W.cell? (b.add (i * 2)) = some (.int .i64 (f i).at_) ∧ W.cell? ⟨(b.add (i * 2)).block, (b.add (i * 2)).off + 1, none⟩ = some (.int .i64 (f i).off) := ⟨fun i => if h : i < mm then (each i h).choose else ⟨0, 0⟩, fun i h => by simp only [dif_pos h]; exact (each i h).choose_spec⟩
    have hlen : ((List.range len).map f).length = len := by simp
    refine ⟨(List.range len).map f, hlen, fun k hk => ?_, by omega⟩
    rw [hlen] at hk
    have O := hf k (by omega)
    have e : ((List.range len).map f)[k]'(by rw [hlen]; exact hk) = f k := by simp
    rw [e]
    exact ⟨b, rfl, O⟩
theorem yr_cells : Try.prog.cellsOf 50 = 5 := by kernel_rfl
theorem yr_hone : oneCellFields Try.prog #[{ name := "Month", type := 3, offset := 0, embedded := false, tag := "", pkgPath := "", byteOffset := 0 }, { name := "Nth", type := 3, offset := 1, embedded := false, tag := "", pkgPath := "", byteOffset := 8 }, { name := "Wday", type := 3, offset := 2, embedded := false, tag := "", pkgPath := "", byteOffset := 16 }, { name := "Sec", type := 3, offset := 3, embedded := false, tag := "", pkgPath := "", byteOffset := 24 }, { name := "Off", type := 3, offset := 4, embedded := false, tag := "", pkgPath := "", byteOffset := 32 }] = true := by kernel_rfl
theorem yr_read {fuel : Nat} {a : Option Addr} {len cap : Nat} {x : DataW H × List MemPlace} (h : DataW.trod enc Try.prog W 0 (fun _ => true) true fuel 23 [.slice a len cap] = some x) :
    ∃ L : List Yr, L.length = len ∧ YrAt W W.heap.size a L ∧ len ≤ maxLen := by
  rcases open_slice Try.underlying23 h with ⟨hcs, _⟩ | ⟨b, l, c, mm, n, D, Pl, hcs, _, hl, hm, hmm, _, hi⟩
  · injection hcs with hcs _
    injection hcs with h1 h2 h3
    subst h1 h2 h3
    exact ⟨[], rfl, fun k hk => absurd hk (by simp), by simp⟩
  · injection hcs with hcs _
    injection hcs with h1 h2 h3
    subst h1 h2 h3
    simp only [if_true] at hmm
    subst hmm
    have each : ∀ i, i < mm → ∃ o : Yr, (b.add (i * 5)).block < W.heap.size ∧ W.cell? (b.add (i * 5)) = some (.int .i64 o.m) ∧ W.cell? ⟨(b.add (i * 5)).block, (b.add (i * 5)).off + 1, none⟩ = some (.int .i64 o.n) ∧ W.cell? ⟨(b.add (i * 5)).block, (b.add (i * 5)).off + 2, none⟩ = some (.int .i64 o.w) ∧ W.cell? ⟨(b.add (i * 5)).block, (b.add (i * 5)).off + 3, none⟩ = some (.int .i64 o.s) ∧ W.cell? ⟨(b.add (i * 5)).block, (b.add (i * 5)).off + 4, none⟩ = some (.int .i64 o.o) := by
      intro i hlt
      obtain ⟨cs', hc, ht'⟩ := hi i hlt
      rw [yr_cells] at hc
      obtain ⟨ys, n', _, _, hlen, hyl, hf⟩ := DataW.trod_struct Try.underlying50 ht'
      obtain ⟨_, hcl, hat⟩ := World.cells?_some hc
      match cs', hcl with
      | [u0, u1, u2, u3, u4], _ =>
        obtain ⟨o0, k0⟩ := hone_of yr_hone 0 _ rfl
        obtain ⟨o1, k1⟩ := hone_of yr_hone 1 _ rfl
        obtain ⟨o2, k2⟩ := hone_of yr_hone 2 _ rfl
        obtain ⟨o3, k3⟩ := hone_of yr_hone 3 _ rfl
        obtain ⟨o4, k4⟩ := hone_of yr_hone 4 _ rfl
        have g0 := hf 0 _ rfl
        have g1 := hf 1 _ rfl
        have g2 := hf 2 _ rfl
        have g3 := hf 3 _ rfl
        have g4 := hf 4 _ rfl
        rw [o0, k0] at g0
        rw [o1, k1] at g1
        rw [o2, k2] at g2
        rw [o3, k3] at g3
        rw [o4, k4] at g4
        match ys, hyl with
        | [y0, y1, y2, y3, y4], _ =>
          obtain ⟨z0, e0, _, _⟩ := DataW.trod_int Try.underlying3 (show DataW.trod enc Try.prog W 0 (fun _ => true) true n' 3 [u0] = some y0 by simpa using g0)
          obtain ⟨z1, e1, _, _⟩ := DataW.trod_int Try.underlying3 (show DataW.trod enc Try.prog W 0 (fun _ => true) true n' 3 [u1] = some y1 by simpa using g1)
          obtain ⟨z2, e2, _, _⟩ := DataW.trod_int Try.underlying3 (show DataW.trod enc Try.prog W 0 (fun _ => true) true n' 3 [u2] = some y2 by simpa using g2)
          obtain ⟨z3, e3, _, _⟩ := DataW.trod_int Try.underlying3 (show DataW.trod enc Try.prog W 0 (fun _ => true) true n' 3 [u3] = some y3 by simpa using g3)
          obtain ⟨z4, e4, _, _⟩ := DataW.trod_int Try.underlying3 (show DataW.trod enc Try.prog W 0 (fun _ => true) true n' 3 [u4] = some y4 by simpa using g4)
          injection e0 with e0 _
          injection e1 with e1 _
          injection e2 with e2 _
          injection e3 with e3 _
          injection e4 with e4 _
          subst e0 e1 e2 e3 e4
          have c0 := hat 0 (by omega)
          have c1 := hat 1 (by omega)
          have c2 := hat 2 (by omega)
          have c3 := hat 3 (by omega)
          have c4 := hat 4 (by omega)
          have x0 : W.cell? (b.add (i * 5)) = some (.int .i64 z0) := by rw [Go.Deep.add_add] at c0; simpa using c0
          refine ⟨⟨z0, z1, z2, z3, z4⟩, World.block_lt_of_cell? W _ x0, x0, ?_, ?_, ?_, ?_⟩
          · rw [Go.Deep.add_add] at c1; rw [← add_field b (i * 5) 1 (by omega)]; simpa using c1
          · rw [Go.Deep.add_add] at c2; rw [← add_field b (i * 5) 2 (by omega)]; simpa using c2
          · rw [Go.Deep.add_add] at c3; rw [← add_field b (i * 5) 3 (by omega)]; simpa using c3
          · rw [Go.Deep.add_add] at c4; rw [← add_field b (i * 5) 4 (by omega)]; simpa using c4
    obtain ⟨f, hf⟩ : ∃ f : Nat → Yr, ∀ i, i < mm → (b.add (i * 5)).block < W.heap.size ∧ W.cell? (b.add (i * 5)) = some (.int .i64 (f i).m) ∧ W.cell? ⟨(b.add (i * 5)).block, (b.add (i * 5)).off + 1, none⟩ = some (.int .i64 (f i).n) ∧ W.cell? ⟨(b.add (i * 5)).block, (b.add (i * 5)).off + 2, none⟩ = some (.int .i64 (f i).w) ∧ W.cell? ⟨(b.add (i * 5)).block, (b.add (i * 5)).off + 3, none⟩ = some (.int .i64 (f i).s) ∧ W.cell? ⟨(b.add (i * 5)).block, (b.add (i * 5)).off + 4, none⟩ = some (.int .i64 (f i).o) := ⟨fun i => if h : i < mm then (each i h).choose else ⟨0, 0, 0, 0, 0⟩, fun i h => by simp only [dif_pos h]; exact (each i h).choose_spec⟩
    have hlen : ((List.range len).map f).length = len := by simp
    refine ⟨(List.range len).map f, hlen, fun k hk => ?_, by omega⟩
    rw [hlen] at hk
    have O := hf k (by omega)
    have e : ((List.range len).map f)[k]'(by rw [hlen]; exact hk) = f k := by simp
    rw [e]
    exact ⟨b, rfl, O⟩
theorem sh_form {fuel : Nat} {v : Value} {x : DataW H × List MemPlace} (h : DataW.trod enc Try.prog W 0 (fun _ => true) true fuel 22 [v] = some x) :
    ∃ (a : Option Addr) (c : Nat) (L : List Sh), v = .slice a L.length c ∧ ShAt W W.heap.size a L ∧ L.length ≤ maxLen := by
  have hv : ∃ a n c, v = .slice a n c := by
    rcases open_slice Try.underlying22 h with ⟨hcs, _⟩ | ⟨b, l, c, mm, n, D, Pl, hcs, _⟩
    · injection hcs with hcs _
      exact ⟨_, _, _, hcs⟩
    · injection hcs with hcs _
      exact ⟨_, _, _, hcs⟩
  obtain ⟨a, n, c, rfl⟩ := hv
  obtain ⟨L, rfl, h1, h2⟩ := sh_read h
  exact ⟨a, c, L, rfl, h1, h2⟩
theorem yr_form {fuel : Nat} {v : Value} {x : DataW H × List MemPlace} (h : DataW.trod enc Try.prog W 0 (fun _ => true) true fuel 23 [v] = some x) :
    ∃ (a : Option Addr) (c : Nat) (L : List Yr), v = .slice a L.length c ∧ YrAt W W.heap.size a L ∧ L.length ≤ maxLen := by
  have hv : ∃ a n c, v = .slice a n c := by
    rcases open_slice Try.underlying23 h with ⟨hcs, _⟩ | ⟨b, l, c, mm, n, D, Pl, hcs, _⟩
    · injection hcs with hcs _
      exact ⟨_, _, _, hcs⟩
    · injection hcs with hcs _
      exact ⟨_, _, _, hcs⟩
  obtain ⟨a, n, c, rfl⟩ := hv
  obtain ⟨L, rfl, h1, h2⟩ := yr_read h
  exact ⟨a, c, L, rfl, h1, h2⟩
theorem zone_hone : oneCellFields Try.prog #[{ name := "Base", type := 3, offset := 0, embedded := false, tag := "", pkgPath := "", byteOffset := 0 }, { name := "Shifts", type := 22, offset := 1, embedded := false, tag := "", pkgPath := "", byteOffset := 8 }, { name := "Years", type := 23, offset := 2, embedded := false, tag := "", pkgPath := "", byteOffset := 32 }, { name := "From", type := 3, offset := 3, embedded := false, tag := "", pkgPath := "", byteOffset := 56 }] = true := by kernel_rfl
theorem zone_read {r : Reach} {b0 : Nat} {v : Value} {d : DataW H} {p : List MemPlace} (hv : Value.okWide Try.prog W r b0 25 v) (h : DataW.Trod enc Try.prog W 0 (fun _ => true) true 25 v d p) :
    ∃ (bs : Int) (A : Option Addr) (c : Nat) (A' : Option Addr) (c' : Nat) (fr : Int) (L : List Sh) (Y : List Yr), v = zv bs A L.length c A' Y.length c' fr ∧ ShAt W W.heap.size A L ∧ YrAt W W.heap.size A' Y ∧ L.length ≤ maxLen ∧ Y.length ≤ maxLen := by
  obtain ⟨v0, v1, v2, v3, y0, y1, y2, y3, n, rfl, _, _, t0, t1, t2, t3⟩ := Joins.open_agg4 Try.underlying25 zone_hone (by kernel_rfl) hv h
  obtain ⟨z0, e0, _, _⟩ := DataW.trod_int Try.underlying3 t0
  obtain ⟨z3, e3, _, _⟩ := DataW.trod_int Try.underlying3 t3
  obtain ⟨A, c, L, rfl, q1, q2⟩ := sh_form t1
  obtain ⟨A', c', Y, rfl, q3, q4⟩ := yr_form t2
  injection e0 with e0 _
  injection e3 with e3 _
  subst e0 e3
  exact ⟨z0, A, c, A', c', z3, L, Y, rfl, q1, q3, q2, q4⟩
end
theorem few_any {bs : Int} {A A' : Option Addr} {n n' c c' : Nat} {fr : Int} {w : World} :
    Calls Try.prog 13 #[zv bs A n c A' n' c' fr] w fun e w' => e = .returned (.bool (decide (n ≤ 400 ∧ n' ≤ 400))) ∧ Below w.heap.size w w' := by
  have bx := (Below.refl w.heap.size w).alloc (Nat.le_refl _) (zo bs A n c A' n' c' fr)
  by_cases q1 : n ≤ 400
  · have t1 : decide ((n : Int) ≤ 400) = true := decide_eq_true (by omega)
    by_cases q2 : n' ≤ 400
    · have t2 : decide ((n' : Int) ≤ 400) = true := decide_eq_true (by omega)
      rw [decide_eq_true (show n ≤ 400 ∧ n' ≤ 400 from ⟨q1, q2⟩)]
      clear q1 q2
      go_enter Try.func13, Try.ntmps13
      go_wp2_with fail
      go_ret
      exact ⟨rfl, bx⟩
    · have t2 : decide ((n' : Int) ≤ 400) = false := decide_eq_false (by omega)
      rw [decide_eq_false (fun h : n ≤ 400 ∧ n' ≤ 400 => q2 h.2)]
      clear q1 q2
      go_enter Try.func13, Try.ntmps13
      go_wp2_with fail
      go_ret
      exact ⟨rfl, bx⟩
  · have t1 : decide ((n : Int) ≤ 400) = false := decide_eq_false (by omega)
    rw [decide_eq_false (fun h : n ≤ 400 ∧ n' ≤ 400 => q1 h.1)]
    clear q1
    go_enter Try.func13, Try.ntmps13
    go_wp2_with fail
    go_ret
    exact ⟨rfl, bx⟩
end Go.Proofs.Ytbnchbcdgffkaaa
